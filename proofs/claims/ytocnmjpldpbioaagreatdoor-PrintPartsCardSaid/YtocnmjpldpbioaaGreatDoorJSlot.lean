/- The layer slot: get. -/
import Derived.Test.YtocnmjpldpbioaaGreatDoorJIdentR
import Derived.Test.YtocnmjpldpbioaaGreatDoorJCore
import Derived.Test.YtocnmjpldpbioaaGreatDoorJForm
import Derived.Deep.DeepCutAuto
import Derived.Test.YtocnmjpldpbioaaGreatDoorJShelf
import Derived.Shelf.Strings.BuilderK
import Derived.Test.YtocnmjpldpbioaaGreatDoorJTabI
set_option linter.unusedVariables false
set_option linter.unusedSimpArgs false
namespace Go.Proofs.YtocnmjpldpbioaaGreatDoor
open Go.RowKit

end Go.Proofs.YtocnmjpldpbioaaGreatDoor


set_option linter.unusedVariables false
set_option linter.unusedSimpArgs false
namespace Go.Proofs.YtocnmjpldpbioaaGreatDoor
open Go.RowKit

theorem form_cases (n : Int) : formN n = -1 ∨ formN n = 0 ∨ formN n = 1 ∨ formN n = 2 ∨ formN n = 3 ∨ formN n = 4 ∨ formN n = 5 ∨ formN n = 6 ∨ formN n = 7 ∨ formN n = 8 ∨ formN n = 9 ∨ formN n = 10 ∨ formN n = 11 := by
 have := refF_bd n
 rw [formN_eq]
 omega
def jumpsX (x : Ins) : Bool := decide (formN x.op = 3 ∨ formN x.op = 4)
def endsX (x : Ins) : Bool := decide (formN x.op = 3 ∨ formN x.op = 6)
def writesX (x : Ins) : Int := if formN x.op = 0 ∨ formN x.op = 1 ∨ formN x.op = 2 ∨ formN x.op = 7 ∨ formN x.op = 10 ∨ formN x.op = 11 then x.dst else if formN x.op = 5 then 0 else -1
set_option maxRecDepth 40000 in
set_option maxHeartbeats 4000000 in
theorem insnWrites_any (x : Ins) (w : World) (hx0 : x.Ok) (hO : OpsQ x.op w) :
  Calls Tryz.prog 83 #[x.v] w fun e w' => e = .returned (.int .i64 (writesX x)) ∧ Ext w w' := by
 have e0 := Ext.new w (.cells #[.int .i64 x.op, .bool x.reg, .int .i64 x.dst, .int .i64 x.src, .int .i64 x.off, .int .i64 x.imm] 31)
 have hc := opForm_any x.op _ hx0.op (hO.ext e0)
 unfold writesX Ins.v
 have E0 := hx e0
 rcases form_cases x.op with h | h | h | h | h | h | h | h | h | h | h | h | h
 all_goals
  rw [h] at hc ⊢
  have H := hx hc
  clear hc hO h hx0 e0
  go_enter Tryz.func83, Tryz.ntmps83
  go_wp2_with (go_at_call 26; refine H.out.mono ?_; rintro e w1 ⟨rfl, e1⟩; have k2 := e1.cell (a := ⟨w.heap.size, 2, none⟩) (v := .int .i64 x.dst) (by simp))
  go_ret
  exact ⟨ret_int (by simp), E0.out.trans e1⟩
set_option maxRecDepth 40000 in
set_option maxHeartbeats 4000000 in
theorem insnEnds_any (x : Ins) (w : World) (hx0 : x.Ok) (hO : OpsQ x.op w) :
  Calls Tryz.prog 85 #[x.v] w fun e w' => e = .returned (.bool (endsX x)) ∧ Ext w w' := by
 have e0 := Ext.new w (.cells #[.int .i64 x.op, .bool x.reg, .int .i64 x.dst, .int .i64 x.src, .int .i64 x.off, .int .i64 x.imm] 31)
 have hc := opForm_any x.op _ hx0.op (hO.ext e0)
 unfold endsX Ins.v
 have E0 := hx e0
 rcases form_cases x.op with h | h | h | h | h | h | h | h | h | h | h | h | h
 all_goals
  rw [h] at hc ⊢
  have H := hx hc
  clear hc hO h hx0 e0
  go_enter Tryz.func85, Tryz.ntmps85
  go_wp2_with (go_at_call 26; refine H.out.mono ?_; rintro e w1 ⟨rfl, e1⟩)
  go_ret
  exact ⟨ret_bool (by simp), E0.out.trans e1⟩
set_option maxRecDepth 40000 in
set_option maxHeartbeats 4000000 in
theorem insnJumps_any (x : Ins) (w : World) (hx0 : x.Ok) (hO : OpsQ x.op w) :
  Calls Tryz.prog 108 #[x.v] w fun e w' => e = .returned (.bool (jumpsX x)) ∧ Ext w w' := by
 have e0 := Ext.new w (.cells #[.int .i64 x.op, .bool x.reg, .int .i64 x.dst, .int .i64 x.src, .int .i64 x.off, .int .i64 x.imm] 31)
 have hc := opForm_any x.op _ hx0.op (hO.ext e0)
 unfold jumpsX Ins.v
 have E0 := hx e0
 rcases form_cases x.op with h | h | h | h | h | h | h | h | h | h | h | h | h
 all_goals
  rw [h] at hc ⊢
  have H := hx hc
  clear hc hO h hx0 e0
  go_enter Tryz.func108, Tryz.ntmps108
  go_wp2_with (go_at_call 26; refine H.out.mono ?_; rintro e w1 ⟨rfl, e1⟩)
  go_ret
  exact ⟨ret_bool (by simp), E0.out.trans e1⟩
end Go.Proofs.YtocnmjpldpbioaaGreatDoor


set_option linter.unusedVariables false
set_option linter.unusedSimpArgs false
namespace Go.Proofs.YtocnmjpldpbioaaGreatDoor
open Go.RowKit

end Go.Proofs.YtocnmjpldpbioaaGreatDoor


set_option linter.unusedVariables false
set_option linter.unusedSimpArgs false
namespace Go.Proofs.YtocnmjpldpbioaaGreatDoor
open Go.RowKit

/-- What the variable widths of num holds. -/
structure WidN (w : World) : Prop where
 k0 : w.cell? ⟨0, 0, none⟩ = some (.int .i64 8)
 k1 : w.cell? ⟨0, 1, none⟩ = some (.int .i64 16)
 k2 : w.cell? ⟨0, 2, none⟩ = some (.int .i64 32)
 k3 : w.cell? ⟨0, 3, none⟩ = some (.int .i64 64)
theorem WidN.ext {w w' : World} (h : WidN w) (he : Ext w w') : WidN w' := ⟨he.cell h.k0, he.cell h.k1, he.cell h.k2, he.cell h.k3⟩
theorem WidN.ints {w : World} (h : WidN w) : IsInts w (.slice (some ⟨0, 0, none⟩) 4 4) [8, 16, 32, 64] := by
 refine ⟨_, 4, rfl, ⟨Nat.le_refl _, by simp only [maxLen]; omega⟩, by decide, (fun h => by cases h), fun i x hx => ⟨_, 0, rfl, ?_⟩⟩
 match i, hx with
 | 0, hx => obtain rfl := Option.some.inj hx; exact ⟨by simpa using h.k0, by decide, by decide⟩
 | 1, hx => obtain rfl := Option.some.inj hx; exact ⟨by simpa using h.k1, by decide, by decide⟩
 | 2, hx => obtain rfl := Option.some.inj hx; exact ⟨by simpa using h.k2, by decide, by decide⟩
 | 3, hx => obtain rfl := Option.some.inj hx; exact ⟨by simpa using h.k3, by decide, by decide⟩
 | n + 4, hx => simp at hx
set_option maxRecDepth 40000 in
set_option maxHeartbeats 4000000 in
theorem indexI_any (x : Int) (v : Value) (l : List Int) (w : World) (hv : IsInts w v l) (hl : l.length ≤ 1000) :
  Calls Tryz.prog 68 #[v, .int .i64 x] w fun e w' => (∃ r : Int, e = .returned (.int .i64 r) ∧ decide (r ≥ 0) = decide (x ∈ l)) ∧ w' = w := by
 obtain ⟨A, c, rfl, -, -, hv'⟩ := hv.form
 go_enter Tryz.func68, Tryz.ntmps68
 go_wp2
 go_loopw [8] (fun i wr => ∃ (pre suf : List Int), l = pre ++ suf ∧ x ∉ pre ∧ i = .int .i64 (pre.length : Nat) ∧ wr = w) (fun i _ => l.length - (RowKit.intOf i).toNat)
 case atStart => exact ⟨[], l, rfl, by simp, rfl, rfl⟩
 case round =>
  obtain ⟨pre, suf, hl', hni, rfl, rfl⟩ := hrel
  have HNI := hx hni
  clear hni
  cases suf with
  | cons y suf =>
   have hlt : pre.length < l.length := by rw [hl']; simp
   have hv2 := hv'
   rw [hl'] at hv2
   obtain ⟨b, o, rfl, t1, -⟩ := hv2.at
   rw [Nat.mul_one] at t1
   have HL := hx hl'
   clear hl' hv2
   have j1 : (pre.length : Int) < (l.length : Int) := by omega
   by_cases hxy : x = y
   ·have d : (x == y) = true := beq_iff_eq.2 hxy
    have hm := hx (show decide (x ∈ l) = true from decide_eq_true (by rw [HL.out, ← hxy]; simp))
    clear hxy
    go_wp2
    go_ret
    exact ⟨⟨_, rfl, by rw [hm.out]; exact decide_eq_true (by omega)⟩, rfl⟩
   ·have d : (x == y) = false := beq_eq_false_iff_ne.2 hxy
    have HXY := hx hxy
    clear hxy
    go_wp2
    go_roundw
    case rel => exact ⟨pre ++ [y], suf, by simp [HL.out], by have h1 := HNI.out; have h2 := HXY.out; simp [h1]; exact h2, by simp, by simp⟩
    case measure => simp [RowKit.intOf]; omega
  | nil =>
   obtain rfl : l = pre := by simpa using hl'
   clear hl'
   have hm := hx (show decide (x ∈ l) = false from decide_eq_false HNI.out)
   have hlt : ¬ l.length < l.length := by omega
   go_wp2
   go_ret
   exact ⟨⟨_, rfl, by rw [hm.out]; rfl⟩, rfl⟩
set_option maxRecDepth 40000 in
set_option maxHeartbeats 4000000 in
theorem containsI_any (x : Int) (v : Value) (l : List Int) (w : World) (hv : IsInts w v l) (hl : l.length ≤ 1000) :
  Calls Tryz.prog 51 #[v, .int .i64 x] w fun e w' => e = .returned (.bool (decide (x ∈ l))) ∧ w' = w := by
 have h := indexI_any x v l w hv hl
 have H := hx h
 obtain ⟨A, c, rfl, -, -, -⟩ := hv.form
 clear h hv
 go_enter Tryz.func51, Tryz.ntmps51
 go_wp2_with (go_at_call 68; refine H.out.mono ?_; rintro e w1 ⟨⟨r, rfl, hr⟩, rfl⟩)
 go_ret
 exact ⟨rfl, rfl⟩
theorem known_any (x : Int) (w : World) (hW : WidN w) :
  Calls Tryz.prog 31 #[.int .i64 x] w fun e w' => e = .returned (.bool (decide (x ∈ [8, 16, 32, 64]))) ∧ w' = w := by
 have h := containsI_any x _ _ w hW.ints (by decide)
 obtain ⟨k0, k1, k2, k3⟩ := hW
 have H := hx h
 clear h
 go_enter Tryz.func31, Tryz.ntmps31
 go_wp2_with (go_at_call 51; refine H.out.mono ?_; rintro e w1 ⟨rfl, rfl⟩)
 go_ret
 exact ⟨ret_bool (by simp), rfl⟩
/-- A number of b bits, its sign extended. -/
def sext (b : Nat) (x : Int) : Int := if x < 2 ^ (b - 1) then x else x - 2 ^ b
end Go.Proofs.YtocnmjpldpbioaaGreatDoor


set_option linter.unusedVariables false
set_option linter.unusedSimpArgs false
namespace Go.Proofs.YtocnmjpldpbioaaGreatDoor
open Go.RowKit

end Go.Proofs.YtocnmjpldpbioaaGreatDoor


set_option linter.unusedVariables false
set_option linter.unusedSimpArgs false
namespace Go.Proofs.YtocnmjpldpbioaaGreatDoor
open Go.RowKit

def usesDst (n : Int) : Bool := decide (formN n ∈ [0, 1, 2, 4, 7, 8, 9, 10, 11])
def usesOff (n : Int) : Bool := decide (formN n ∈ [3, 4, 7, 8, 9])
def regOk (n : Int) : Bool := decide (0 ≤ n ∧ n ≤ 10)
end Go.Proofs.YtocnmjpldpbioaaGreatDoor


set_option linter.unusedVariables false
set_option linter.unusedSimpArgs false
namespace Go.Proofs.YtocnmjpldpbioaaGreatDoor
open Go.RowKit

def usesSrc (n : Int) (reg : Bool) : Bool := decide (formN n ∈ [2, 7, 9]) || (reg && decide (formN n ∈ [0, 4]))
def usesImm (n : Int) (reg : Bool) : Bool := decide (formN n ∈ [5, 8, 10, 11]) || (!reg && decide (formN n ∈ [0, 4]))
end Go.Proofs.YtocnmjpldpbioaaGreatDoor


set_option linter.unusedVariables false
set_option linter.unusedSimpArgs false
namespace Go.Proofs.YtocnmjpldpbioaaGreatDoor
open Go.RowKit

set_option maxRecDepth 40000 in
set_option maxHeartbeats 1000000 in
theorem numExtend32g (x : Int) (w : World) (hW : WidN w) (h0 : 0 ≤ x) (h1 : x < 18446744073709551616) :
  Calls Tryz.prog 32 #[.int .u64 x, .int .i64 32] w fun e w' => e = .returned (.int .i64 (sext 32 (x % 4294967296))) ∧ w' = w := by
 have h := known_any 32 w hW
 have H := hx h
 have w1 : IntKind.u64.wrap (x * 4294967296) = (x % 4294967296) * 4294967296 := by
  simp [IntKind.wrap, IntKind.signed, IntKind.bits]
  omega
 obtain ⟨y, hy⟩ : ∃ y, y = x % 4294967296 := ⟨_, rfl⟩
 have hyb : 0 ≤ y ∧ y < 4294967296 := by omega
 rw [← hy] at w1 ⊢
 clear h hW hy
 go_enter Tryz.func32, Tryz.ntmps32
 go_wp2_with (go_at_call 31; refine H.out.mono ?_; rintro e w1 ⟨rfl, rfl⟩)
 go_ret
 exact ⟨ret_int (by unfold wrap64 sext; simp only [Nat.reduceSub, Int.reducePow]; split <;> omega), rfl⟩
def fits32 (x : Int) : Bool := decide (-2147483648 ≤ x ∧ x ≤ 2147483647)
set_option maxRecDepth 40000 in
set_option maxHeartbeats 1000000 in
theorem numFits32 (x : Int) (w : World) (hW : WidN w) (hI : I64 x) :
  Calls Tryz.prog 16 #[.int .i64 x, .int .i64 32] w fun e w' => e = .returned (.bool (fits32 x)) ∧ w' = w := by
 have HK := hx (known_any 32 w hW)
 obtain ⟨i0, i1⟩ := hI
 obtain ⟨y, hy⟩ : ∃ y, y = IntKind.u64.wrap x := ⟨_, rfl⟩
 have hyb : 0 ≤ y ∧ y < 18446744073709551616 := by
  rw [hy]; simp [IntKind.wrap, IntKind.signed, IntKind.bits]; omega
 have hz : (sext 32 (y % 4294967296) == x) = fits32 x := by
  have hy2 : y = if x < 0 then x + 18446744073709551616 else x := by
   rw [hy]; simp [IntKind.wrap, IntKind.signed, IntKind.bits]; split <;> omega
  unfold fits32 sext
  simp only [Nat.reduceSub, Int.reducePow]
  rw [Bool.eq_iff_iff]
  simp only [beq_iff_eq, decide_eq_true_eq]
  split at hy2 <;> split <;> omega
 have HE := hx (numExtend32g y w hW hyb.1 hyb.2)
 generalize sext 32 (y % 4294967296) = z at *
 have w1 : IntKind.u64.wrap x = y := hy.symm
 have HZ := hx hz
 clear hy hz hW
 go_enter Tryz.func16, Tryz.ntmps16
 go_wp2_with (first | (go_at_call 31; refine HK.out.mono ?_; rintro e w1 ⟨rfl, rfl⟩) | (go_at_call 32; refine HE.out.mono ?_; rintro e w1 ⟨rfl, rfl⟩))
 go_ret
 exact ⟨ret_bool HZ.out, rfl⟩
set_option maxRecDepth 40000 in
set_option maxHeartbeats 1000000 in
theorem numExtend16g (x : Int) (w : World) (hW : WidN w) (h0 : 0 ≤ x) (h1 : x < 18446744073709551616) :
  Calls Tryz.prog 32 #[.int .u64 x, .int .i64 16] w fun e w' => e = .returned (.int .i64 (sext 16 (x % 65536))) ∧ w' = w := by
 have h := known_any 16 w hW
 have H := hx h
 have w1 : IntKind.u64.wrap (x * 281474976710656) = (x % 65536) * 281474976710656 := by
  simp [IntKind.wrap, IntKind.signed, IntKind.bits]
  omega
 obtain ⟨y, hy⟩ : ∃ y, y = x % 65536 := ⟨_, rfl⟩
 have hyb : 0 ≤ y ∧ y < 65536 := by omega
 rw [← hy] at w1 ⊢
 clear h hW hy
 go_enter Tryz.func32, Tryz.ntmps32
 go_wp2_with (go_at_call 31; refine H.out.mono ?_; rintro e w1 ⟨rfl, rfl⟩)
 go_ret
 exact ⟨ret_int (by unfold wrap64 sext; simp only [Nat.reduceSub, Int.reducePow]; split <;> omega), rfl⟩
def fits16 (x : Int) : Bool := decide (-32768 ≤ x ∧ x ≤ 32767)
set_option maxRecDepth 40000 in
set_option maxHeartbeats 1000000 in
theorem numFits16 (x : Int) (w : World) (hW : WidN w) (hI : I64 x) :
  Calls Tryz.prog 16 #[.int .i64 x, .int .i64 16] w fun e w' => e = .returned (.bool (fits16 x)) ∧ w' = w := by
 have HK := hx (known_any 16 w hW)
 obtain ⟨i0, i1⟩ := hI
 obtain ⟨y, hy⟩ : ∃ y, y = IntKind.u64.wrap x := ⟨_, rfl⟩
 have hyb : 0 ≤ y ∧ y < 18446744073709551616 := by
  rw [hy]; simp [IntKind.wrap, IntKind.signed, IntKind.bits]; omega
 have hz : (sext 16 (y % 65536) == x) = fits16 x := by
  have hy2 : y = if x < 0 then x + 18446744073709551616 else x := by
   rw [hy]; simp [IntKind.wrap, IntKind.signed, IntKind.bits]; split <;> omega
  unfold fits16 sext
  simp only [Nat.reduceSub, Int.reducePow]
  rw [Bool.eq_iff_iff]
  simp only [beq_iff_eq, decide_eq_true_eq]
  split at hy2 <;> split <;> omega
 have HE := hx (numExtend16g y w hW hyb.1 hyb.2)
 generalize sext 16 (y % 65536) = z at *
 have w1 : IntKind.u64.wrap x = y := hy.symm
 have HZ := hx hz
 clear hy hz hW
 go_enter Tryz.func16, Tryz.ntmps16
 go_wp2_with (first | (go_at_call 31; refine HK.out.mono ?_; rintro e w1 ⟨rfl, rfl⟩) | (go_at_call 32; refine HE.out.mono ?_; rintro e w1 ⟨rfl, rfl⟩))
 go_ret
 exact ⟨ret_bool HZ.out, rfl⟩
end Go.Proofs.YtocnmjpldpbioaaGreatDoor


set_option linter.unusedVariables false
set_option linter.unusedSimpArgs false
namespace Go.Proofs.YtocnmjpldpbioaaGreatDoor
open Go.RowKit

/-- A block of plain cells. -/
def RowV (w : World) (g : Nat) (t : TypeId) (l : List Value) : Prop := w.heap[g]? = some (.cells l.toArray t (0, 0))
section
variable {w w' : World} {g : Nat} {t : TypeId} {l : List Value}
theorem RowV.cell (h : RowV w g t l) {i : Nat} {v : Value} (hv : l[i]? = some v) : w.cell? ⟨g, i, none⟩ = some v := by simp [World.cell?, show w.heap[g]? = _ from h, hv]
theorem RowV.frozen (h : RowV w g t l) (i : Nat) : w.frozen? ⟨g, i, none⟩ = false := by simp [World.frozen?, show w.heap[g]? = _ from h]
theorem RowV.lt (h : RowV w g t l) : g < w.heap.size := (Array.getElem?_eq_some_iff.1 h).1
theorem RowV.ext (h : RowV w g t l) (he : Ext w w') : RowV w' g t l := he.obj h
theorem RowV.keep {row : Option Nat} (h : RowV w g t l) (hg : w.grownBy w' row) (hne : some g ≠ row) : RowV w' g t l := (hg.block g h.lt hne).trans h
theorem RowV.new (w : World) (l : List Value) (t : TypeId) : RowV (w.alloc (.cells l.toArray t)) w.heap.size t l := heap_alloc_new w _
theorem RowV.set (h : RowV w g t l) (i : Nat) (u : Value) : RowV (w.setCell ⟨g, i, none⟩ u) g t (l.set i u) := by
 unfold RowV at *
 simp only [World.setCell, Array.getElem?_modify, h, if_true, Option.map_some]
 simp
end

theorem results_rowV {P : Program} {fn : Func} {p : Tmp} {ty : TypeId} (cs : Array Value) (h : fn.results = #[.cell p ty]) (tmps : Array Value) (w : World) (g : Nat) (t : TypeId) (d : TypeDesc)
  (hp : tmps.getD p undef = .pointer (some ⟨g, 0, none⟩)) (hg : ∃ l, RowV w g t l ∧ l.toArray = cs)
  (hu : P.underlying ty = some d) (hd : (match d with | .struct _ | .array _ _ => true | _ => false) = true) (hi : (P.info? ty).map (·.size) = some cs.size) :
  (results fn tmps).run P w = .ok (.agg cs) w := by
 obtain ⟨l, hg, rfl⟩ := hg
 exact results_cell_row h tmps w g t l.toArray (0, 0) d hp hg hu hd hi

def fBad (u : Bool) (n : Int) : Bool := !u && !(n == 0)
def fieldBad (x : Ins) : Bool := fBad (usesDst x.op) x.dst || fBad (usesSrc x.op x.reg) x.src || fBad (usesOff x.op) x.off || fBad (usesImm x.op x.reg) x.imm
def regBad (x : Ins) : Bool := x.reg && !(formN x.op == 0) && !(formN x.op == 4)
def immOk (x : Ins) : Bool := if formN x.op = 10 then true else if formN x.op = 5 then decide (1 ≤ x.imm ∧ x.imm ≤ 3) else if formN x.op = 11 then decide (0 ≤ x.imm ∧ x.imm < 255) else fits32 x.imm
def insE (x : Ins) : Int :=
 if formN x.op = -1 then 6 else if regBad x then 12 else if fieldBad x then 12 else if !(regOk x.dst && regOk x.src) then 5 else if !(fits16 x.off && immOk x) then 4 else 0

theorem uses_end {n : Int} {reg : Bool} {w W : World} {l : List Value} (a : Act) (g : Nat) (hp : a.tmps.getD 4 undef = .pointer (some ⟨g, 0, none⟩)) (hd : a.defers = []) (hr : RowV W g 101 l) (he : Ext w W)
  (hl : l = [.bool (usesDst n), .bool (usesSrc n reg), .bool (usesOff n), .bool (usesImm n reg)]) :
  bodyPost Tryz.prog Tryz.f56 (fun e w' => e = .returned (.agg #[.bool (usesDst n), .bool (usesSrc n reg), .bool (usesOff n), .bool (usesImm n reg)]) ∧ Ext w w') .ret a W := by
 subst hl
 exact bodyPost_ret (results_rowV #[.bool (usesDst n), .bool (usesSrc n reg), .bool (usesOff n), .bool (usesImm n reg)] (by rfl) _ _ g 101 _ hp ⟨_, hr, rfl⟩ Tryz.underlying101 rfl (by kernel_rfl)) hd ⟨rfl, he⟩
set_option maxRecDepth 40000 in
set_option maxHeartbeats 4000000 in
theorem insnUses_any (n : Int) (reg : Bool) (w : World) (hn : I64 n) (hO : OpsQ n w) :
  Calls Tryz.prog 56 #[.int .i64 n, .bool reg] w fun e w' => e = .returned (.agg #[.bool (usesDst n), .bool (usesSrc n reg), .bool (usesOff n), .bool (usesImm n reg)]) ∧ Ext w w' := by
 have e0 := Ext.new w (.cells #[.bool false, .bool false, .bool false, .bool false] 101)
 have r0 := RowV.new w [.bool false, .bool false, .bool false, .bool false] 101
 have hc := opForm_any n (w.alloc (.cells #[.bool false, .bool false, .bool false, .bool false] 101)) hn (hO.ext e0)
 have R0 := hx r0
 have E0 := hx e0
 clear e0 r0 hO hn
 rcases form_cases n with h | h | h | h | h | h | h | h | h | h | h | h | h
 all_goals
  rw [h] at hc
  have H := hx hc
  have HF := hx h
  clear hc h
  go_enter Tryz.func56, Tryz.ntmps56
  go_wp2_with fail
  refine H.out.mono ?_
  rintro e w1 ⟨rfl, e1⟩
  have r1 := R0.out.ext e1
  have f0 := r1.frozen 0
  have f1 := r1.frozen 1
  have f2 := r1.frozen 2
  have f3 := r1.frozen 3
  have c0 := r1.cell (i := 0) rfl
  have c1 := r1.cell (i := 1) rfl
  have c2 := r1.cell (i := 2) rfl
  have c3 := r1.cell (i := 3) rfl
  have R1 := hx r1
  have E1 := hx (E0.out.trans e1)
  clear r1 e1
  go_wp2
 ·exact uses_end _ _ (by rfl) rfl ((((R1.out.set 0 (.bool false)).set 1 (.bool false)).set 2 (.bool false)).set 3 (.bool false)) ((((E1.out.setCell (a := ⟨w.heap.size, 0, none⟩) (.bool false) (Nat.le_refl _)).setCell (a := ⟨w.heap.size, 1, none⟩) (.bool false) (Nat.le_refl _)).setCell (a := ⟨w.heap.size, 2, none⟩) (.bool false) (Nat.le_refl _)).setCell (a := ⟨w.heap.size, 3, none⟩) (.bool false) (Nat.le_refl _)) (by unfold usesDst usesSrc usesOff usesImm; rw [HF.out]; cases reg <;> rfl)
 ·exact uses_end _ _ (by rfl) rfl (((((((R1.out.set 0 (.bool true)).set 1 (.bool reg)).set 3 (.bool !reg)).set 0 (.bool true)).set 1 (.bool reg)).set 2 (.bool false)).set 3 (.bool !reg)) (((((((E1.out.setCell (a := ⟨w.heap.size, 0, none⟩) (.bool true) (Nat.le_refl _)).setCell (a := ⟨w.heap.size, 1, none⟩) (.bool reg) (Nat.le_refl _)).setCell (a := ⟨w.heap.size, 3, none⟩) (.bool !reg) (Nat.le_refl _)).setCell (a := ⟨w.heap.size, 0, none⟩) (.bool true) (Nat.le_refl _)).setCell (a := ⟨w.heap.size, 1, none⟩) (.bool reg) (Nat.le_refl _)).setCell (a := ⟨w.heap.size, 2, none⟩) (.bool false) (Nat.le_refl _)).setCell (a := ⟨w.heap.size, 3, none⟩) (.bool !reg) (Nat.le_refl _)) (by unfold usesDst usesSrc usesOff usesImm; rw [HF.out]; cases reg <;> rfl)
 ·exact uses_end _ _ (by rfl) rfl (((((R1.out.set 0 (.bool true)).set 0 (.bool true)).set 1 (.bool false)).set 2 (.bool false)).set 3 (.bool false)) (((((E1.out.setCell (a := ⟨w.heap.size, 0, none⟩) (.bool true) (Nat.le_refl _)).setCell (a := ⟨w.heap.size, 0, none⟩) (.bool true) (Nat.le_refl _)).setCell (a := ⟨w.heap.size, 1, none⟩) (.bool false) (Nat.le_refl _)).setCell (a := ⟨w.heap.size, 2, none⟩) (.bool false) (Nat.le_refl _)).setCell (a := ⟨w.heap.size, 3, none⟩) (.bool false) (Nat.le_refl _)) (by unfold usesDst usesSrc usesOff usesImm; rw [HF.out]; cases reg <;> rfl)
 ·exact uses_end _ _ (by rfl) rfl ((((((R1.out.set 1 (.bool true)).set 0 (.bool true)).set 0 (.bool true)).set 1 (.bool true)).set 2 (.bool false)).set 3 (.bool false)) ((((((E1.out.setCell (a := ⟨w.heap.size, 1, none⟩) (.bool true) (Nat.le_refl _)).setCell (a := ⟨w.heap.size, 0, none⟩) (.bool true) (Nat.le_refl _)).setCell (a := ⟨w.heap.size, 0, none⟩) (.bool true) (Nat.le_refl _)).setCell (a := ⟨w.heap.size, 1, none⟩) (.bool true) (Nat.le_refl _)).setCell (a := ⟨w.heap.size, 2, none⟩) (.bool false) (Nat.le_refl _)).setCell (a := ⟨w.heap.size, 3, none⟩) (.bool false) (Nat.le_refl _)) (by unfold usesDst usesSrc usesOff usesImm; rw [HF.out]; cases reg <;> rfl)
 ·exact uses_end _ _ (by rfl) rfl (((((R1.out.set 2 (.bool true)).set 0 (.bool false)).set 1 (.bool false)).set 2 (.bool true)).set 3 (.bool false)) (((((E1.out.setCell (a := ⟨w.heap.size, 2, none⟩) (.bool true) (Nat.le_refl _)).setCell (a := ⟨w.heap.size, 0, none⟩) (.bool false) (Nat.le_refl _)).setCell (a := ⟨w.heap.size, 1, none⟩) (.bool false) (Nat.le_refl _)).setCell (a := ⟨w.heap.size, 2, none⟩) (.bool true) (Nat.le_refl _)).setCell (a := ⟨w.heap.size, 3, none⟩) (.bool false) (Nat.le_refl _)) (by unfold usesDst usesSrc usesOff usesImm; rw [HF.out]; cases reg <;> rfl)
 ·exact uses_end _ _ (by rfl) rfl ((((((((R1.out.set 2 (.bool true)).set 0 (.bool true)).set 1 (.bool reg)).set 3 (.bool !reg)).set 0 (.bool true)).set 1 (.bool reg)).set 2 (.bool true)).set 3 (.bool !reg)) ((((((((E1.out.setCell (a := ⟨w.heap.size, 2, none⟩) (.bool true) (Nat.le_refl _)).setCell (a := ⟨w.heap.size, 0, none⟩) (.bool true) (Nat.le_refl _)).setCell (a := ⟨w.heap.size, 1, none⟩) (.bool reg) (Nat.le_refl _)).setCell (a := ⟨w.heap.size, 3, none⟩) (.bool !reg) (Nat.le_refl _)).setCell (a := ⟨w.heap.size, 0, none⟩) (.bool true) (Nat.le_refl _)).setCell (a := ⟨w.heap.size, 1, none⟩) (.bool reg) (Nat.le_refl _)).setCell (a := ⟨w.heap.size, 2, none⟩) (.bool true) (Nat.le_refl _)).setCell (a := ⟨w.heap.size, 3, none⟩) (.bool !reg) (Nat.le_refl _)) (by unfold usesDst usesSrc usesOff usesImm; rw [HF.out]; cases reg <;> rfl)
 ·exact uses_end _ _ (by rfl) rfl (((((R1.out.set 3 (.bool true)).set 0 (.bool false)).set 1 (.bool false)).set 2 (.bool false)).set 3 (.bool true)) (((((E1.out.setCell (a := ⟨w.heap.size, 3, none⟩) (.bool true) (Nat.le_refl _)).setCell (a := ⟨w.heap.size, 0, none⟩) (.bool false) (Nat.le_refl _)).setCell (a := ⟨w.heap.size, 1, none⟩) (.bool false) (Nat.le_refl _)).setCell (a := ⟨w.heap.size, 2, none⟩) (.bool false) (Nat.le_refl _)).setCell (a := ⟨w.heap.size, 3, none⟩) (.bool true) (Nat.le_refl _)) (by unfold usesDst usesSrc usesOff usesImm; rw [HF.out]; cases reg <;> rfl)
 ·exact uses_end _ _ (by rfl) rfl ((((R1.out.set 0 (.bool false)).set 1 (.bool false)).set 2 (.bool false)).set 3 (.bool false)) ((((E1.out.setCell (a := ⟨w.heap.size, 0, none⟩) (.bool false) (Nat.le_refl _)).setCell (a := ⟨w.heap.size, 1, none⟩) (.bool false) (Nat.le_refl _)).setCell (a := ⟨w.heap.size, 2, none⟩) (.bool false) (Nat.le_refl _)).setCell (a := ⟨w.heap.size, 3, none⟩) (.bool false) (Nat.le_refl _)) (by unfold usesDst usesSrc usesOff usesImm; rw [HF.out]; cases reg <;> rfl)
 ·exact uses_end _ _ (by rfl) rfl (((((((R1.out.set 2 (.bool true)).set 1 (.bool true)).set 0 (.bool true)).set 0 (.bool true)).set 1 (.bool true)).set 2 (.bool true)).set 3 (.bool false)) (((((((E1.out.setCell (a := ⟨w.heap.size, 2, none⟩) (.bool true) (Nat.le_refl _)).setCell (a := ⟨w.heap.size, 1, none⟩) (.bool true) (Nat.le_refl _)).setCell (a := ⟨w.heap.size, 0, none⟩) (.bool true) (Nat.le_refl _)).setCell (a := ⟨w.heap.size, 0, none⟩) (.bool true) (Nat.le_refl _)).setCell (a := ⟨w.heap.size, 1, none⟩) (.bool true) (Nat.le_refl _)).setCell (a := ⟨w.heap.size, 2, none⟩) (.bool true) (Nat.le_refl _)).setCell (a := ⟨w.heap.size, 3, none⟩) (.bool false) (Nat.le_refl _)) (by unfold usesDst usesSrc usesOff usesImm; rw [HF.out]; cases reg <;> rfl)
 ·exact uses_end _ _ (by rfl) rfl (((((((R1.out.set 2 (.bool true)).set 0 (.bool true)).set 3 (.bool true)).set 0 (.bool true)).set 1 (.bool false)).set 2 (.bool true)).set 3 (.bool true)) (((((((E1.out.setCell (a := ⟨w.heap.size, 2, none⟩) (.bool true) (Nat.le_refl _)).setCell (a := ⟨w.heap.size, 0, none⟩) (.bool true) (Nat.le_refl _)).setCell (a := ⟨w.heap.size, 3, none⟩) (.bool true) (Nat.le_refl _)).setCell (a := ⟨w.heap.size, 0, none⟩) (.bool true) (Nat.le_refl _)).setCell (a := ⟨w.heap.size, 1, none⟩) (.bool false) (Nat.le_refl _)).setCell (a := ⟨w.heap.size, 2, none⟩) (.bool true) (Nat.le_refl _)).setCell (a := ⟨w.heap.size, 3, none⟩) (.bool true) (Nat.le_refl _)) (by unfold usesDst usesSrc usesOff usesImm; rw [HF.out]; cases reg <;> rfl)
 ·exact uses_end _ _ (by rfl) rfl (((((((R1.out.set 2 (.bool true)).set 1 (.bool true)).set 0 (.bool true)).set 0 (.bool true)).set 1 (.bool true)).set 2 (.bool true)).set 3 (.bool false)) (((((((E1.out.setCell (a := ⟨w.heap.size, 2, none⟩) (.bool true) (Nat.le_refl _)).setCell (a := ⟨w.heap.size, 1, none⟩) (.bool true) (Nat.le_refl _)).setCell (a := ⟨w.heap.size, 0, none⟩) (.bool true) (Nat.le_refl _)).setCell (a := ⟨w.heap.size, 0, none⟩) (.bool true) (Nat.le_refl _)).setCell (a := ⟨w.heap.size, 1, none⟩) (.bool true) (Nat.le_refl _)).setCell (a := ⟨w.heap.size, 2, none⟩) (.bool true) (Nat.le_refl _)).setCell (a := ⟨w.heap.size, 3, none⟩) (.bool false) (Nat.le_refl _)) (by unfold usesDst usesSrc usesOff usesImm; rw [HF.out]; cases reg <;> rfl)
 ·exact uses_end _ _ (by rfl) rfl ((((((R1.out.set 0 (.bool true)).set 3 (.bool true)).set 0 (.bool true)).set 1 (.bool false)).set 2 (.bool false)).set 3 (.bool true)) ((((((E1.out.setCell (a := ⟨w.heap.size, 0, none⟩) (.bool true) (Nat.le_refl _)).setCell (a := ⟨w.heap.size, 3, none⟩) (.bool true) (Nat.le_refl _)).setCell (a := ⟨w.heap.size, 0, none⟩) (.bool true) (Nat.le_refl _)).setCell (a := ⟨w.heap.size, 1, none⟩) (.bool false) (Nat.le_refl _)).setCell (a := ⟨w.heap.size, 2, none⟩) (.bool false) (Nat.le_refl _)).setCell (a := ⟨w.heap.size, 3, none⟩) (.bool true) (Nat.le_refl _)) (by unfold usesDst usesSrc usesOff usesImm; rw [HF.out]; cases reg <;> rfl)
 ·exact uses_end _ _ (by rfl) rfl ((((((R1.out.set 0 (.bool true)).set 3 (.bool true)).set 0 (.bool true)).set 1 (.bool false)).set 2 (.bool false)).set 3 (.bool true)) ((((((E1.out.setCell (a := ⟨w.heap.size, 0, none⟩) (.bool true) (Nat.le_refl _)).setCell (a := ⟨w.heap.size, 3, none⟩) (.bool true) (Nat.le_refl _)).setCell (a := ⟨w.heap.size, 0, none⟩) (.bool true) (Nat.le_refl _)).setCell (a := ⟨w.heap.size, 1, none⟩) (.bool false) (Nat.le_refl _)).setCell (a := ⟨w.heap.size, 2, none⟩) (.bool false) (Nat.le_refl _)).setCell (a := ⟨w.heap.size, 3, none⟩) (.bool true) (Nat.le_refl _)) (by unfold usesDst usesSrc usesOff usesImm; rw [HF.out]; cases reg <;> rfl)
end Go.Proofs.YtocnmjpldpbioaaGreatDoor


set_option linter.unusedVariables false
set_option maxRecDepth 40000
namespace Go.Proofs.YtocnmjpldpbioaaGreatDoor
open Go.RowKit Go.Lib Go.Proofs Go.Shelf

def lays166_ren : Go.Shelf.Ren := ⟨fun | 166 => 35 | 240 => 53 | 276 => 86 | n => n, fun | 0 => 0 | 3 => 3 | 4 => 4 | 5 => 5 | 9 => 9 | 20 => 20 | 37 => 56 | 70 => 55 | 72 => 58 | 75 => 70 | 80 => 60 | 164 => 132 | n => n, fun | n => n⟩
theorem lays166 : Go.Proofs.Lays.n166 Tryz.prog lays166_ren := {
 mixed := by kernel_rfl
 f166 := Tryz.func35.trans (congrArg some (by kernel_rfl))
 f240 := Tryz.func53.trans (congrArg some (by kernel_rfl))
 f276 := Tryz.func86.trans (congrArg some (by kernel_rfl))
 t0 := Tryz.underlying0
 a0 := Tryz.isAgg0
 z0 := Tryz.sizeOf0
 v0 := Tryz.zeroValue0
 t3 := Tryz.underlying3
 a3 := Tryz.isAgg3
 z3 := Tryz.sizeOf3
 v3 := Tryz.zeroValue3
 t4 := Tryz.underlying4
 a4 := Tryz.isAgg4
 z4 := Tryz.sizeOf4
 v4 := Tryz.zeroValue4
 t9 := Tryz.underlying9
 a9 := Tryz.isAgg9
 z9 := Tryz.sizeOf9
 v9 := Tryz.zeroValue9
 t20 := Tryz.underlying20
 a20 := Tryz.isAgg20
 z20 := Tryz.sizeOf20
 v20 := Tryz.zeroValue20
 t37 := Tryz.underlying56
 a37 := Tryz.isAgg56
 z37 := Tryz.sizeOf56
 v37 := Tryz.zeroValue56
 t70 := Tryz.underlying55
 a70 := Tryz.isAgg55
 z70 := Tryz.sizeOf55
 v70 := Tryz.zeroValue55
 t72 := Tryz.underlying58
 a72 := Tryz.isAgg58
 z72 := Tryz.sizeOf58
 v72 := Tryz.zeroValue58
 t75 := Tryz.underlying70
 a75 := Tryz.isAgg70
 z75 := Tryz.sizeOf70
 v75 := Tryz.zeroValue70
 t164 := Tryz.underlying132
 a164 := Tryz.isAgg132
 z164 := Tryz.sizeOf132
 v164 := Tryz.zeroValue132 }
theorem laysX166 : Builder.Extra Tryz.prog lays166_ren := {
 sizeBuilder := by kernel_rfl
 liesBuilder := by kernel_rfl
 t5 := Tryz.underlying5
 a5 := Tryz.isAgg5
 z5 := Tryz.sizeOf5
 v5 := Tryz.zeroValue5
 infoByte := by kernel_rfl
 cellsByte := by kernel_rfl
 sizeByte := by kernel_rfl
 neB5 := by decide }
def lays167_ren : Go.Shelf.Ren := ⟨fun | 167 => 48 | 240 => 53 | 276 => 86 | n => n, fun | 0 => 0 | 4 => 4 | 5 => 5 | 9 => 9 | 20 => 20 | 37 => 56 | 70 => 55 | 72 => 58 | 75 => 70 | 80 => 60 | 164 => 132 | n => n, fun | n => n⟩
theorem lays167 : Go.Proofs.Lays.n167 Tryz.prog lays167_ren := {
 mixed := by kernel_rfl
 f167 := Tryz.func48.trans (congrArg some (by kernel_rfl))
 f240 := Tryz.func53.trans (congrArg some (by kernel_rfl))
 f276 := Tryz.func86.trans (congrArg some (by kernel_rfl))
 t0 := Tryz.underlying0
 a0 := Tryz.isAgg0
 z0 := Tryz.sizeOf0
 v0 := Tryz.zeroValue0
 t4 := Tryz.underlying4
 a4 := Tryz.isAgg4
 z4 := Tryz.sizeOf4
 v4 := Tryz.zeroValue4
 t5 := Tryz.underlying5
 a5 := Tryz.isAgg5
 z5 := Tryz.sizeOf5
 v5 := Tryz.zeroValue5
 t9 := Tryz.underlying9
 a9 := Tryz.isAgg9
 z9 := Tryz.sizeOf9
 v9 := Tryz.zeroValue9
 t20 := Tryz.underlying20
 a20 := Tryz.isAgg20
 z20 := Tryz.sizeOf20
 v20 := Tryz.zeroValue20
 t37 := Tryz.underlying56
 a37 := Tryz.isAgg56
 z37 := Tryz.sizeOf56
 v37 := Tryz.zeroValue56
 t70 := Tryz.underlying55
 a70 := Tryz.isAgg55
 z70 := Tryz.sizeOf55
 v70 := Tryz.zeroValue55
 t72 := Tryz.underlying58
 a72 := Tryz.isAgg58
 z72 := Tryz.sizeOf58
 v72 := Tryz.zeroValue58
 t75 := Tryz.underlying70
 a75 := Tryz.isAgg70
 z75 := Tryz.sizeOf70
 v75 := Tryz.zeroValue70
 t164 := Tryz.underlying132
 a164 := Tryz.isAgg132
 z164 := Tryz.sizeOf132
 v164 := Tryz.zeroValue132 }
theorem laysX167 : Builder.Extra Tryz.prog lays167_ren := {
 sizeBuilder := by kernel_rfl
 liesBuilder := by kernel_rfl
 t5 := Tryz.underlying5
 a5 := Tryz.isAgg5
 z5 := Tryz.sizeOf5
 v5 := Tryz.zeroValue5
 infoByte := by kernel_rfl
 cellsByte := by kernel_rfl
 sizeByte := by kernel_rfl
 neB5 := by decide }
/-- A builder's block with the bytes that have been written. -/
def BldW (w : World) (B b : Nat) (l : List UInt8) : Prop := Lib.IsBuilderF 58 5 B b (Lib.byteCells l) w
/-- Other blocks stand. -/
abbrev KeptB (b : Nat) (w w' : World) : Prop := Lib.OthersKept 5 (some b) w w'
theorem KeptB.row {b g : Nat} {w w' : World} {t : TypeId} {l : List Value} (h : KeptB b w w') (r : RowV w g t l) (hg : g ≠ b) (ht : t ≠ 5) : RowV w' g t l :=
 h g _ r (fun e => hg (by injection e)) fun c fz e => by cases e; exact ht rfl
theorem BldW.ext {w w' : World} {B b : Nat} {l : List UInt8} (h : BldW w B b l) (he : Ext w w') : BldW w' B b l := by
 have go : ∀ p, Lib.BuilderAtF 58 5 B b p (Lib.byteCells l) w → Lib.BuilderAtF 58 5 B b p (Lib.byteCells l) w' := fun p ⟨h1, v, h2, h3, h4⟩ =>
  ⟨h1, v, he.obj h2, h3.kept (he.toGrown none) (by cases hv : v.ownBlock with | none => exact .inl rfl | some k => exact .inr (by simp)), h4⟩
 exact h.imp (go _) (go _)
theorem BldW.new (w : World) : BldW (w.alloc (.cells #[.pointer none, .slice none 0 0] 58)) w.heap.size w.heap.size [] :=
 .inl ⟨Nat.le_refl _, .slice none 0 0, heap_alloc_new w _, World.ownsRowF_nil _ _ _ _, by simp [Value.ownBlock]⟩
theorem bld_WriteString (B b : Nat) (l : List UInt8) (s : ByteArray) (w : World) (h : BldW w B b l) (hlen : l.length + s.size ≤ 140737488355328) (hBw : B ≤ w.heap.size) :
  Calls Tryz.prog 35 #[.pointer (some ⟨b, 0, none⟩), .string s] w fun e w' => e = .returned (.tuple #[.int .i64 s.size, .nilIface]) ∧ BldW w' B b (l ++ s.data.toList) ∧ Below B w w' ∧ KeptB b w w' :=
 (Any.Builder_WriteString_k lays166 laysX166 B b (Lib.byteCells l) s w h (by rw [Lib.byteCells_length]; exact hlen) hBw).mono fun e w' ⟨h1, h2, h3, h4⟩ => ⟨h1, .inr (by rw [Lib.byteCells_append, ← Lib.strCells_eq]; exact h2), h3, h4⟩
theorem bld_WriteByte (B b : Nat) (l : List UInt8) (c : UInt8) (w : World) (h : BldW w B b l) (hlen : l.length + 1 ≤ 140737488355328) (hBw : B ≤ w.heap.size) :
  Calls Tryz.prog 48 #[.pointer (some ⟨b, 0, none⟩), .int .u8 c.toNat] w fun e w' => e = .returned .nilIface ∧ BldW w' B b (l ++ [c]) ∧ Below B w w' ∧ KeptB b w w' :=
 (Any.Builder_WriteByte_k lays167 laysX167 B b (Lib.byteCells l) c.toNat w h (by rw [Lib.byteCells_length]; exact hlen) hBw).mono fun e w' ⟨h1, h2, h3, h4⟩ => ⟨h1, .inr (by rw [Lib.byteCells_append]; exact h2), h3, h4⟩
end Go.Proofs.YtocnmjpldpbioaaGreatDoor


set_option linter.unusedVariables false
set_option linter.unusedSimpArgs false
namespace Go.Proofs.YtocnmjpldpbioaaGreatDoor
open Go.RowKit Go.Lib

def wLen (l : List UInt8) : Nat := (l.takeWhile fun b => inW b.toNat).length
theorem wLen_stop {l : List UInt8} {p : Nat} {b : UInt8} (h : l[p]? = some b) (hw : inW b.toNat = false) : wLen (l.drop p) = 0 := by
 obtain ⟨hp, hb⟩ := List.getElem?_eq_some_iff.1 h
 rw [List.drop_eq_getElem_cons hp, hb]
 simp [wLen, List.takeWhile_cons, hw]
theorem wLen_go {l : List UInt8} {p : Nat} {b : UInt8} (h : l[p]? = some b) (hw : inW b.toNat = true) : wLen (l.drop p) = wLen (l.drop (p + 1)) + 1 := by
 obtain ⟨hp, hb⟩ := List.getElem?_eq_some_iff.1 h
 rw [List.drop_eq_getElem_cons hp, hb]
 simp [wLen, List.takeWhile_cons, hw]
theorem str_at {s : ByteArray} {p : Nat} (h : p < s.size) : s.data.toList[p]? = some (s[p]'h) := by
 have hp : p < s.data.toList.length := by simpa using h
 rw [List.getElem?_eq_getElem hp]
 rfl

set_option maxRecDepth 20000 in
set_option maxHeartbeats 1000000 in
theorem ident_Word_any (s : ByteArray) (w : World) (hs : s.size ≤ 281474976710656) (hG : GlobP w) :
  Calls Tryz.prog 120 #[.string s] w fun e w' => e = .returned (.int .i64 (wLen s.data.toList)) ∧ Ext w w' := by
 have HG := hx hG
 clear hG
 go_enter Tryz.func120, Tryz.ntmps120
 go_wp2
 go_loopw [3] (fun _ wr => ∃ p, wr = w.iter s p ∧ p ≤ s.size ∧ wLen s.data.toList = p + wLen (s.data.toList.drop p)) (fun _ wr => s.size - wr.iterPos w.heap.size)
 case atStart => exact ⟨0, rfl, by omega, by simp⟩
 case round =>
  obtain ⟨p, rfl, hp, hl⟩ := hrel
  have HL := hx hl
  clear hl
  have hE : Ext w (w.iter s p) := Ext.new _ _
  by_cases hlt : p < s.size
  ·have hb := hx (str_at hlt)
   have hnx := fun ty => run_next_any (P := Tryz.prog) w s p ty hlt
   by_cases ha : (s[p]'hlt).toNat < 128
   ·have hd := decode_ascii s p hlt ha
    rw [hd] at hnx
    clear hd
    generalize (s[p]'hlt) = b at *
    have hc := fun p' => inWord_any b.toNat (w.iter s p') (by omega) (HG.out.ext (Ext.new _ _))
    have HC := hx hc
    clear hc
    cases hi : inW b.toNat with
    | true =>
     have hg := hx (wLen_go hb.out hi)
     rw [hi] at HC
     clear hi
     go_wp2_with (first | (go_at_call 124; refine (HC.out _).mono ?_; rintro e w' ⟨rfl, rfl⟩))
     go_roundw
     case rel => exact ⟨p + 1, rfl, by omega, by rw [HL.out, hg.out]; omega⟩
     case measure => simp; omega
    | false =>
     have hg := hx (wLen_stop hb.out hi)
     rw [hi] at HC
     clear hi
     go_wp2_with (first | (go_at_call 124; refine (HC.out _).mono ?_; rintro e w' ⟨rfl, rfl⟩))
     go_ret
     exact ⟨ret_int (by rw [HL.out, hg.out]; simp), Ext.new _ _⟩
   ·have hd := decode_high s p hlt (by omega)
    have hd2 := decode_le s p
    have hi : inW (s[p]'hlt).toNat = false := by unfold inW; simp; omega
    have hg := hx (wLen_stop hb.out hi)
    have hi2 : inW (Utf8.decode s p).1 = false := by unfold inW; simp; omega
    generalize Utf8.decode s p = D at *
    obtain ⟨c, n⟩ := D
    have hc := fun p' => inWord_any c (w.iter s p') (by simpa using hd2) (HG.out.ext (Ext.new _ _))
    simp only at hi2
    rw [hi2] at hc
    have HC := hx hc
    clear hc hi hi2 hd hd2
    go_wp2_with (first | (go_at_call 124; refine (HC.out _).mono ?_; rintro e w' ⟨rfl, rfl⟩))
    go_ret
    exact ⟨ret_int (by rw [HL.out, hg.out]; simp), Ext.new _ _⟩
  ·obtain rfl : p = s.size := by omega
   have hnx := fun ty => run_next_end (P := Tryz.prog) w s s.size ty hlt
   go_wp2
   go_ret
   exact ⟨ret_int (by rw [HL.out, List.drop_eq_nil_of_le (by simp)]; simp [wLen]), Ext.new _ _⟩

end Go.Proofs.YtocnmjpldpbioaaGreatDoor


set_option linter.unusedVariables false
set_option linter.unusedSimpArgs false
namespace Go.Proofs.YtocnmjpldpbioaaGreatDoor
open Go.RowKit Go.Lib

def ddN (u : Nat) : List UInt8 := if u = 0 then [] else Lib.decDigits u
theorem dec_step (u : Nat) : Lib.decDigits u = ddN (u / 10) ++ [UInt8.ofNat (48 + u % 10)] := by
 unfold ddN
 by_cases h : u < 10
 ·rw [Lib.decDigits_one h, if_pos (by omega), Nat.mod_eq_of_lt h]; rfl
 ·rw [if_neg (by omega)]
  conv => lhs; rw [Lib.decDigits, dif_neg h]
def digs : ByteArray := ⟨#[48, 49, 50, 51, 52, 53, 54, 55, 56, 57]⟩
theorem dig_at (d : Nat) (h : d < 10) : digs.extract d (d + 1) = ⟨#[UInt8.ofNat (48 + d)]⟩ := by
 have : ∀ d : Fin 10, digs.extract d.val (d.val + 1) = ⟨#[UInt8.ofNat (48 + d.val)]⟩ := by decide +kernel
 exact this ⟨d, h⟩
def strL (l : List UInt8) : ByteArray := ⟨l.toArray⟩
theorem strL_cons (c : UInt8) (l : List UInt8) : (⟨#[c]⟩ : ByteArray) ++ strL l = strL (c :: l) := by
 apply ByteArray.ext
 apply Array.ext'
 rw [ByteArray.toList_data_append]
 simp [strL]
theorem strL_size (l : List UInt8) : (strL l).size = l.length := by simp [strL, ByteArray.size]
theorem strL_ne {l : List UInt8} (h : l ≠ []) : (strL l).toList.isEmpty = false := toList_ne (by rw [strL_size]; exact fun e => h (List.eq_nil_of_length_eq_zero e))

def emp : Value → Nat | .string b => if b.size = 0 then 1 else 0 | _ => 0
theorem emp_strL (l : List UInt8) : emp (.string (strL l)) = if l.length = 0 then 1 else 0 := by simp [emp, strL_size]
theorem slice_dig (w : World) (d : Nat) (h : d < 10) : (Instr.slice 9 (.string ⟨#[48, 49, 50, 51, 52, 53, 54, 55, 56, 57]⟩) (some (.int .u64 (d : Int))) (some (.int .u64 ((d : Int) + 1))) none).run Tryz.prog w = .ok (.string ⟨#[UInt8.ofNat (48 + d)]⟩) w := by
 have hd := dig_at d h
 unfold digs at hd
 have hsz : (⟨#[48, 49, 50, 51, 52, 53, 54, 55, 56, 57]⟩ : ByteArray).size = 10 := rfl
 have e0 : (0 : Int) ≤ (d : Int) := by omega
 have e1 : (d : Int) ≤ (d : Int) + 1 := by omega
 have e2 : ((d : Int) + 1).toNat = d + 1 := by omega
 have e3 : (0 : Int) ≤ (d : Int) + 1 ∧ (d : Int) + 1 ≤ 10 := by omega
 simp [Instr.slice, run_underlying Tryz.underlying9, Instr.sliceBounds, Instr.sliceBound, asIntOf, hsz, e2, e3, e0, hd]
theorem pow_len {u k : Nat} (h : u * 10 ^ k ≤ 9223372036854775807) (hu : 0 < u) : k ≤ 18 := by
 refine Nat.le_of_lt_succ (Nat.lt_of_not_le fun hk => ?_)
 have h1 : 10 ^ 19 ≤ 10 ^ k := Nat.pow_le_pow_right (by decide) hk
 have h2 : 1 * 10 ^ k ≤ u * 10 ^ k := Nat.mul_le_mul_right _ hu
 have h3 : (10 : Nat) ^ 19 = 10000000000000000000 := by decide
 omega
theorem pow_step {u k : Nat} (h : u * 10 ^ k ≤ 9223372036854775807) : u / 10 * 10 ^ (k + 1) ≤ 9223372036854775807 := by
 have h1 : u / 10 * 10 ≤ u := Nat.div_mul_le_self u 10
 have h2 : u / 10 * 10 * 10 ^ k ≤ u * 10 ^ k := Nat.mul_le_mul_right _ h1
 have h3 : u / 10 * 10 ^ (k + 1) = u / 10 * 10 * 10 ^ k := by rw [Nat.pow_succ, Nat.mul_comm (10 ^ k) 10, Nat.mul_assoc]
 omega
set_option maxRecDepth 20000 in
set_option maxHeartbeats 1000000 in
theorem ref01_Format_nat (n : Nat) (w : World) (hn : n ≤ 9223372036854775807) :
  Calls Tryz.prog 7 #[.int .i64 n] w fun e w' => e = .returned (.string (strL (Lib.decDigits n))) ∧ w' = w := by
 go_enter Tryz.func7, Tryz.ntmps7
 go_wp2
 go_loop [4, 5] (fun r s => ∃ (u : Nat) (l : List UInt8), r = .int .u64 u ∧ s = .string (strL l) ∧ u ≤ 9223372036854775807 ∧ l.length ≤ 20 ∧ Hx (u * 10 ^ l.length ≤ 9223372036854775807) ∧ ((l = [] ∧ u = n) ∨ (l ≠ [] ∧ ddN u ++ l = Lib.decDigits n))) (fun r s => 2 * (RowKit.intOf r).toNat + emp s)
 case atStart => exact ⟨n, [], rfl, rfl, hn, by simp, ⟨by simpa using hn⟩, .inl ⟨rfl, rfl⟩⟩
 case round =>
  obtain ⟨u, l, rfl, rfl, hu, hll, hpw, hr⟩ := hrel
  have HR := hx hr
  clear hr
  have hd := slice_dig w (u % 10) (by omega)
  rw [Int.natCast_emod] at hd
  simp only [Int.cast_ofNat_Int] at hd
  have hds := hx (dec_step u)
  have hcc := strL_cons (UInt8.ofNat (48 + u % 10)) l
  have hls := strL_size l
  have hc1 : (⟨#[UInt8.ofNat (48 + u % 10)]⟩ : ByteArray).size = 1 := rfl
  have hsm : ¬ 9223372036854775807 < (⟨#[UInt8.ofNat (48 + u % 10)]⟩ : ByteArray).size + (strL l).size := by rw [hc1, hls]; omega
  have HCC := hx hcc
  by_cases hu0 : 0 < u
  ·have hl18 := pow_len hpw.out hu0
   clear hcc hls hc1
   generalize hS : strL l = S at *
   generalize hC : (⟨#[UInt8.ofNat (48 + u % 10)]⟩ : ByteArray) = C at *
   have HS := hx hS
   clear hS hC
   go_wp2
   go_round
   case rel =>
    refine ⟨u / 10, UInt8.ofNat (48 + u % 10) :: l, by simp, by rw [HCC.out], by omega, by simp; omega, ⟨pow_step hpw.out⟩, .inr ⟨by simp, ?_⟩⟩
    rcases HR.out with ⟨rfl, rfl⟩ | ⟨hne, h⟩
    ·rw [hds.out]
    ·rw [← h, show ddN u = Lib.decDigits u from if_neg (by omega), hds.out]; simp
   case measure =>
    rw [HCC.out, emp_strL, ← HS.out, emp_strL]
    simp [RowKit.intOf]; split <;> omega
  ·obtain rfl : u = 0 := by omega
   cases l with
   | nil =>
    have hn0 : n = 0 := by rcases HR.out with ⟨_, h⟩ | ⟨h, _⟩ <;> simp_all
    have hem : (strL []).toList.isEmpty = true := by rw [Go.ByteArray.toList_eq]; rfl
    have hsz : ¬ 9223372036854775807 < 1 + (strL []).size := by rw [strL_size]; simp
    have hx1 := hx (show (⟨#[48, 49, 50, 51, 52, 53, 54, 55, 56, 57]⟩ : ByteArray).extract 0 1 ++ strL [] = strL [48] from by
     rw [show (⟨#[48, 49, 50, 51, 52, 53, 54, 55, 56, 57]⟩ : ByteArray).extract 0 1 = ⟨#[48]⟩ from dig_at 0 (by decide)]; exact strL_cons _ _)
    generalize hS : strL [] = S at *
    have HS := hx hS
    clear hS hcc hls hc1 hd hsm HCC
    go_wp2
    go_round
    case rel => exact ⟨0, [48], by simp, by rw [hx1.out], by omega, by simp, ⟨by simp⟩, .inr ⟨by simp, by rw [hn0, dec_step 0]; rfl⟩⟩
    case measure => rw [hx1.out, emp_strL, ← HS.out, emp_strL]; simp [RowKit.intOf]
   | cons c l =>
    have hd2 : strL (c :: l) = strL (Lib.decDigits n) := by rcases HR.out with ⟨h, _⟩ | ⟨_, h⟩ <;> simp_all [ddN]
    have hem := strL_ne (l := c :: l) (by simp)
    have HD := hx hd2
    clear hd2 hcc hls hc1 hd
    generalize hS : strL (c :: l) = S at *
    clear hS
    go_wp2
    go_ret
    exact ⟨ret_str HD.out, rfl⟩
end Go.Proofs.YtocnmjpldpbioaaGreatDoor
