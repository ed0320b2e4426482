/- The layer slot: get. -/
import Derived.Test.YtmnbalbiehlkpaaGreatDoorJIdentR
import Derived.Test.YtmnbalbiehlkpaaGreatDoorJCore
import Derived.Test.YtmnbalbiehlkpaaGreatDoorJForm
import Derived.Deep.DeepCutAuto
set_option linter.unusedVariables false
set_option linter.unusedSimpArgs false
namespace Go.Proofs.YtmnbalbiehlkpaaGreatDoor
open Go.RowKit

theorem wrap_u64 (z : Int) (h0 : 0 ≤ z) (h1 : z < 18446744073709551616) : IntKind.u64.wrap z = z := by
 simp [IntKind.wrap, IntKind.signed, IntKind.bits]
 omega
end Go.Proofs.YtmnbalbiehlkpaaGreatDoor


set_option linter.unusedVariables false
set_option linter.unusedSimpArgs false
namespace Go.Proofs.YtmnbalbiehlkpaaGreatDoor
open Go.RowKit

theorem form_cases (n : Int) : formN n = -1 ∨ formN n = 0 ∨ formN n = 1 ∨ formN n = 2 ∨ formN n = 3 ∨ formN n = 4 ∨ formN n = 5 ∨ formN n = 6 ∨ formN n = 7 ∨ formN n = 8 ∨ formN n = 9 ∨ formN n = 10 ∨ formN n = 11 := by
 have := refF_bd n
 rw [formN_eq]
 omega
def slotsN (n : Int) : Int := if formN n = -1 then 0 else if formN n = 10 ∨ formN n = 11 then 2 else 1
def jumpsX (x : Ins) : Bool := decide (formN x.op = 3 ∨ formN x.op = 4)
def endsX (x : Ins) : Bool := decide (formN x.op = 3 ∨ formN x.op = 6)
def writesX (x : Ins) : Int := if formN x.op = 0 ∨ formN x.op = 1 ∨ formN x.op = 2 ∨ formN x.op = 7 ∨ formN x.op = 10 ∨ formN x.op = 11 then x.dst else if formN x.op = 5 then 0 else -1
set_option maxRecDepth 40000 in
set_option maxHeartbeats 4000000 in
theorem insnWrites_any (x : Ins) (w : World) (hx0 : x.Ok) (hO : OpsQ x.op w) :
  Calls Tryz.prog 166 #[x.v] w fun e w' => e = .returned (.int .i64 (writesX x)) ∧ Ext w w' := by
 have e0 := Ext.new w (.cells #[.int .i64 x.op, .bool x.reg, .int .i64 x.dst, .int .i64 x.src, .int .i64 x.off, .int .i64 x.imm] 53)
 have hc := opForm_any x.op _ hx0.op (hO.ext e0)
 unfold writesX Ins.v
 have E0 := hx e0
 rcases form_cases x.op with h | h | h | h | h | h | h | h | h | h | h | h | h
 all_goals
  rw [h] at hc ⊢
  have H := hx hc
  clear hc hO h hx0 e0
  go_enter Tryz.func166, Tryz.ntmps166
  go_wp2_with (go_at_call 65; refine H.out.mono ?_; rintro e w1 ⟨rfl, e1⟩; have k2 := e1.cell (a := ⟨w.heap.size, 2, none⟩) (v := .int .i64 x.dst) (by simp))
  go_ret
  exact ⟨ret_int (by simp), E0.out.trans e1⟩
set_option maxRecDepth 40000 in
set_option maxHeartbeats 4000000 in
theorem insnEnds_any (x : Ins) (w : World) (hx0 : x.Ok) (hO : OpsQ x.op w) :
  Calls Tryz.prog 31 #[x.v] w fun e w' => e = .returned (.bool (endsX x)) ∧ Ext w w' := by
 have e0 := Ext.new w (.cells #[.int .i64 x.op, .bool x.reg, .int .i64 x.dst, .int .i64 x.src, .int .i64 x.off, .int .i64 x.imm] 53)
 have hc := opForm_any x.op _ hx0.op (hO.ext e0)
 unfold endsX Ins.v
 have E0 := hx e0
 rcases form_cases x.op with h | h | h | h | h | h | h | h | h | h | h | h | h
 all_goals
  rw [h] at hc ⊢
  have H := hx hc
  clear hc hO h hx0 e0
  go_enter Tryz.func31, Tryz.ntmps31
  go_wp2_with (go_at_call 65; refine H.out.mono ?_; rintro e w1 ⟨rfl, e1⟩)
  go_ret
  exact ⟨ret_bool (by simp), E0.out.trans e1⟩
set_option maxRecDepth 40000 in
set_option maxHeartbeats 4000000 in
theorem insnJumps_any (x : Ins) (w : World) (hx0 : x.Ok) (hO : OpsQ x.op w) :
  Calls Tryz.prog 30 #[x.v] w fun e w' => e = .returned (.bool (jumpsX x)) ∧ Ext w w' := by
 have e0 := Ext.new w (.cells #[.int .i64 x.op, .bool x.reg, .int .i64 x.dst, .int .i64 x.src, .int .i64 x.off, .int .i64 x.imm] 53)
 have hc := opForm_any x.op _ hx0.op (hO.ext e0)
 unfold jumpsX Ins.v
 have E0 := hx e0
 rcases form_cases x.op with h | h | h | h | h | h | h | h | h | h | h | h | h
 all_goals
  rw [h] at hc ⊢
  have H := hx hc
  clear hc hO h hx0 e0
  go_enter Tryz.func30, Tryz.ntmps30
  go_wp2_with (go_at_call 65; refine H.out.mono ?_; rintro e w1 ⟨rfl, e1⟩)
  go_ret
  exact ⟨ret_bool (by simp), E0.out.trans e1⟩
end Go.Proofs.YtmnbalbiehlkpaaGreatDoor


set_option linter.unusedVariables false
set_option linter.unusedSimpArgs false
namespace Go.Proofs.YtmnbalbiehlkpaaGreatDoor
open Go.RowKit

set_option maxRecDepth 40000 in
set_option maxHeartbeats 4000000 in
theorem in_any (x : Int) (v : Value) (l : List Int) (w : World) (hv : IsInts w v l) (hl : l.length ≤ 1000) :
  Calls Tryz.prog 81 #[.int .i64 x, v] w fun e w' => e = .returned (.bool (decide (x ∈ l))) ∧ w' = w := by
 obtain ⟨A, c, rfl, -, -, hv'⟩ := hv.form
 go_enter Tryz.func81, Tryz.ntmps81
 go_wp2
 go_loopw [5] (fun i wr => ∃ (pre suf : List Int), l = pre ++ suf ∧ x ∉ pre ∧ i = .int .i64 (pre.length : Nat) ∧ wr = w) (fun i _ => l.length - (RowKit.intOf i).toNat)
 case atStart => exact ⟨[], l, rfl, by simp, rfl, rfl⟩
 case round =>
  obtain ⟨pre, suf, hl', hni, rfl, rfl⟩ := hrel
  have HNI := hx hni
  clear hni
  cases suf with
  | cons y suf =>
   have hlt : pre.length < l.length := by rw [hl']; simp
   have hv2 := hv'
   rw [hl'] at hv2
   obtain ⟨b, o, rfl, t1, -⟩ := hv2.at
   rw [Nat.mul_one] at t1
   have HL := hx hl'
   clear hl' hv2
   have j1 : (pre.length : Int) < (l.length : Int) := by omega
   by_cases hxy : y = x
   ·have d : (y == x) = true := beq_iff_eq.2 hxy
    have hm := hx (show decide (x ∈ l) = true from decide_eq_true (by rw [HL.out, ← hxy]; simp))
    clear hxy
    go_wp2
    go_ret
    exact ⟨ret_bool hm.out.symm, rfl⟩
   ·have d : (y == x) = false := beq_eq_false_iff_ne.2 hxy
    have HXY := hx hxy
    clear hxy
    go_wp2
    go_roundw
    case rel => exact ⟨pre ++ [y], suf, by simp [HL.out], by have h1 := HNI.out; have h2 := HXY.out; simp [h1]; exact fun e => h2 e.symm, by simp, by simp⟩
    case measure => simp [RowKit.intOf]; omega
  | nil =>
   obtain rfl : l = pre := by simpa using hl'
   clear hl'
   have hm := hx (show decide (x ∈ l) = false from decide_eq_false HNI.out)
   have hlt : ¬ l.length < l.length := by omega
   go_wp2
   go_ret
   exact ⟨ret_bool hm.out.symm, rfl⟩
set_option maxRecDepth 40000 in
set_option maxHeartbeats 4000000 in
theorem ref04Writes_any (x : Ins) (w : World) (hx0 : x.Ok) :
  Calls Tryz.prog 48 #[x.v] w fun e w' => e = .returned (.int .i64 (writesX x)) ∧ Ext w w' := by
 obtain ⟨W0, hW0⟩ : ∃ W0, W0 = w.alloc (.cells #[.int .i64 x.op, .bool x.reg, .int .i64 x.dst, .int .i64 x.src, .int .i64 x.off, .int .i64 x.imm] 53) := ⟨_, rfl⟩
 have e0 : Ext w W0 := by rw [hW0]; exact Ext.new _ _
 have hc := refForm_any x.op W0 hx0.op
 rw [← formN_eq] at hc
 have hs : W0.heap.size = w.heap.size + 1 := by rw [hW0]; simp
 have hrow : RowI (W0.alloc (.cells #[.int .i64 0, .int .i64 1, .int .i64 2, .int .i64 7, .int .i64 10, .int .i64 11] 3)) (w.heap.size + 1) [0, 1, 2, 7, 10, 11] := by
  have := heap_alloc_new W0 (.cells #[.int .i64 0, .int .i64 1, .int .i64 2, .int .i64 7, .int .i64 10, .int .i64 11] 3)
  rwa [hs] at this
 have hri : IsInts (W0.alloc (.cells #[.int .i64 0, .int .i64 1, .int .i64 2, .int .i64 7, .int .i64 10, .int .i64 11] 3)) (.slice (some ⟨w.heap.size + 1, 0, none⟩) 6 6) [0, 1, 2, 7, 10, 11] := by
  exact hrow.read (by intro x hx; simp at hx; rcases hx with rfl | rfl | rfl | rfl | rfl | rfl <;> exact ⟨by decide, by decide⟩) rfl (by decide)
 have hi := fun y => in_any y _ _ _ hri (by decide)
 have eF : Ext w (W0.alloc (.cells #[.int .i64 0, .int .i64 1, .int .i64 2, .int .i64 7, .int .i64 10, .int .i64 11] 3)) := e0.alloc _
 rw [hW0] at hc hi eF
 unfold writesX Ins.v
 have E0 := hx eF
 rcases form_cases x.op with h | h | h | h | h | h | h | h | h | h | h | h | h
 all_goals
  rw [h] at hc ⊢
  have H := hx hc
  have HI := hx hi
  clear hc h hx0 e0 hW0 hs hrow hri hi eF
  go_enter Tryz.func48, Tryz.ntmps48
  go_wp2_with (first | (go_at_call 33; refine H.out.mono ?_; rintro e w1 ⟨rfl, rfl⟩) | (go_at_call 81; refine (HI.out _).mono ?_; rintro e w1 ⟨rfl, rfl⟩))
  go_ret
  exact ⟨ret_int (by simp), E0.out⟩
end Go.Proofs.YtmnbalbiehlkpaaGreatDoor


set_option linter.unusedVariables false
set_option linter.unusedSimpArgs false
namespace Go.Proofs.YtmnbalbiehlkpaaGreatDoor
open Go.RowKit

/-- What the variable widths of num holds. -/
structure WidN (w : World) : Prop where
 k0 : w.cell? ⟨2, 0, none⟩ = some (.int .i64 8)
 k1 : w.cell? ⟨2, 1, none⟩ = some (.int .i64 16)
 k2 : w.cell? ⟨2, 2, none⟩ = some (.int .i64 32)
 k3 : w.cell? ⟨2, 3, none⟩ = some (.int .i64 64)
theorem WidN.ext {w w' : World} (h : WidN w) (he : Ext w w') : WidN w' := ⟨he.cell h.k0, he.cell h.k1, he.cell h.k2, he.cell h.k3⟩
theorem WidN.ints {w : World} (h : WidN w) : IsInts w (.slice (some ⟨2, 0, none⟩) 4 4) [8, 16, 32, 64] := by
 refine ⟨_, 4, rfl, ⟨Nat.le_refl _, by simp only [maxLen]; omega⟩, by decide, (fun h => by cases h), fun i x hx => ⟨_, 0, rfl, ?_⟩⟩
 match i, hx with
 | 0, hx => obtain rfl := Option.some.inj hx; exact ⟨by simpa using h.k0, by decide, by decide⟩
 | 1, hx => obtain rfl := Option.some.inj hx; exact ⟨by simpa using h.k1, by decide, by decide⟩
 | 2, hx => obtain rfl := Option.some.inj hx; exact ⟨by simpa using h.k2, by decide, by decide⟩
 | 3, hx => obtain rfl := Option.some.inj hx; exact ⟨by simpa using h.k3, by decide, by decide⟩
 | n + 4, hx => simp at hx
set_option maxRecDepth 40000 in
set_option maxHeartbeats 4000000 in
theorem indexI_any (x : Int) (v : Value) (l : List Int) (w : World) (hv : IsInts w v l) (hl : l.length ≤ 1000) :
  Calls Tryz.prog 32 #[v, .int .i64 x] w fun e w' => (∃ r : Int, e = .returned (.int .i64 r) ∧ decide (r ≥ 0) = decide (x ∈ l)) ∧ w' = w := by
 obtain ⟨A, c, rfl, -, -, hv'⟩ := hv.form
 go_enter Tryz.func32, Tryz.ntmps32
 go_wp2
 go_loopw [8] (fun i wr => ∃ (pre suf : List Int), l = pre ++ suf ∧ x ∉ pre ∧ i = .int .i64 (pre.length : Nat) ∧ wr = w) (fun i _ => l.length - (RowKit.intOf i).toNat)
 case atStart => exact ⟨[], l, rfl, by simp, rfl, rfl⟩
 case round =>
  obtain ⟨pre, suf, hl', hni, rfl, rfl⟩ := hrel
  have HNI := hx hni
  clear hni
  cases suf with
  | cons y suf =>
   have hlt : pre.length < l.length := by rw [hl']; simp
   have hv2 := hv'
   rw [hl'] at hv2
   obtain ⟨b, o, rfl, t1, -⟩ := hv2.at
   rw [Nat.mul_one] at t1
   have HL := hx hl'
   clear hl' hv2
   have j1 : (pre.length : Int) < (l.length : Int) := by omega
   by_cases hxy : x = y
   ·have d : (x == y) = true := beq_iff_eq.2 hxy
    have hm := hx (show decide (x ∈ l) = true from decide_eq_true (by rw [HL.out, ← hxy]; simp))
    clear hxy
    go_wp2
    go_ret
    exact ⟨⟨_, rfl, by rw [hm.out]; exact decide_eq_true (by omega)⟩, rfl⟩
   ·have d : (x == y) = false := beq_eq_false_iff_ne.2 hxy
    have HXY := hx hxy
    clear hxy
    go_wp2
    go_roundw
    case rel => exact ⟨pre ++ [y], suf, by simp [HL.out], by have h1 := HNI.out; have h2 := HXY.out; simp [h1]; exact h2, by simp, by simp⟩
    case measure => simp [RowKit.intOf]; omega
  | nil =>
   obtain rfl : l = pre := by simpa using hl'
   clear hl'
   have hm := hx (show decide (x ∈ l) = false from decide_eq_false HNI.out)
   have hlt : ¬ l.length < l.length := by omega
   go_wp2
   go_ret
   exact ⟨⟨_, rfl, by rw [hm.out]; rfl⟩, rfl⟩
set_option maxRecDepth 40000 in
set_option maxHeartbeats 4000000 in
theorem containsI_any (x : Int) (v : Value) (l : List Int) (w : World) (hv : IsInts w v l) (hl : l.length ≤ 1000) :
  Calls Tryz.prog 16 #[v, .int .i64 x] w fun e w' => e = .returned (.bool (decide (x ∈ l))) ∧ w' = w := by
 have h := indexI_any x v l w hv hl
 have H := hx h
 obtain ⟨A, c, rfl, -, -, -⟩ := hv.form
 clear h hv
 go_enter Tryz.func16, Tryz.ntmps16
 go_wp2_with (go_at_call 32; refine H.out.mono ?_; rintro e w1 ⟨⟨r, rfl, hr⟩, rfl⟩)
 go_ret
 exact ⟨rfl, rfl⟩
theorem known_any (x : Int) (w : World) (hW : WidN w) :
  Calls Tryz.prog 176 #[.int .i64 x] w fun e w' => e = .returned (.bool (decide (x ∈ [8, 16, 32, 64]))) ∧ w' = w := by
 have h := containsI_any x _ _ w hW.ints (by decide)
 obtain ⟨k0, k1, k2, k3⟩ := hW
 have H := hx h
 clear h
 go_enter Tryz.func176, Tryz.ntmps176
 go_wp2_with (go_at_call 16; refine H.out.mono ?_; rintro e w1 ⟨rfl, rfl⟩)
 go_ret
 exact ⟨ret_bool (by simp), rfl⟩
/-- A number of b bits, its sign extended. -/
def sext (b : Nat) (x : Int) : Int := if x < 2 ^ (b - 1) then x else x - 2 ^ b
end Go.Proofs.YtmnbalbiehlkpaaGreatDoor


set_option linter.unusedVariables false
set_option linter.unusedSimpArgs false
namespace Go.Proofs.YtmnbalbiehlkpaaGreatDoor
open Go.RowKit

set_option maxRecDepth 40000 in
set_option maxHeartbeats 4000000 in
theorem power_any (n : Nat) (p : Int) (w : World) (hn : n ≤ 63) (hp : p = 2 ^ n) :
  Calls Tryz.prog 98 #[.int .i64 n] w fun e w' => e = .returned (.int .u64 p) ∧ w' = w := by
 go_enter Tryz.func98, Tryz.ntmps98
 go_wp2
 go_loop [3, 4] (fun x i => ∃ (k : Nat) (q : Int), k ≤ n ∧ i = .int .i64 (k : Nat) ∧ x = .int .u64 q ∧ q = 2 ^ k) (fun _ i => n - (RowKit.intOf i).toNat)
 case atStart => exact ⟨0, 1, by omega, rfl, rfl, rfl⟩
 case round =>
  obtain ⟨k, q, hk, rfl, rfl, hq⟩ := hrel
  have HQ := hx hq
  by_cases hlt : k < n
  ·have j1 : (k : Int) < (n : Int) := by omega
   have d : decide ((k : Int) < (n : Int)) = true := decide_eq_true j1
   have hb : q ≤ 4611686018427387904 := by
    rw [hq]
    have : (2 : Nat) ^ k ≤ 2 ^ 62 := Nat.pow_le_pow_right (by decide) (by omega)
    have e : ((2 : Int) ^ k) = ((2 ^ k : Nat) : Int) := by rw [Int.natCast_pow]; rfl
    have h2 : (2 : Nat) ^ 62 = 4611686018427387904 := by rfl
    rw [h2] at this
    rw [e]
    omega
   have hb0 : 0 ≤ q := by rw [hq]; exact Int.pow_nonneg (by decide)
   clear hq
   have w2 : IntKind.u64.wrap (q * 2) = q * 2 := wrap_u64 _ (by omega) (by omega)
   go_wp2
   go_round
   case rel => exact ⟨k + 1, q * 2, by omega, by simp, by simp, by rw [HQ.out, Int.pow_succ]⟩
   case measure => simp [RowKit.intOf]; omega
  ·obtain rfl : k = n := by omega
   have d : decide ((k : Int) < (k : Int)) = false := by simp
   clear hq
   go_wp2
   go_ret
   exact ⟨ret_int HQ.out, rfl⟩
theorem width_any (x : Int) (w : World) (h : x = 16 ∨ x = 32) : Calls Tryz.prog 97 #[.int .i64 x] w fun e w' => e = .returned (.bool true) ∧ w' = w := by
 rcases h with rfl | rfl
 all_goals
  go_enter Tryz.func97, Tryz.ntmps97
  go_wp2
  go_ret
  exact ⟨rfl, rfl⟩
set_option maxRecDepth 40000 in
set_option maxHeartbeats 4000000 in
theorem refExtend32 (x : Int) (w : World) (h0 : 0 ≤ x) (h1 : x < 18446744073709551616) :
  Calls Tryz.prog 61 #[.int .u64 x, .int .i64 32] w fun e w' => e = .returned (.int .i64 (sext 32 (x % 4294967296))) ∧ w' = w := by
 have HW := hx (width_any 32 w (.inr rfl))
 have HP := hx (power_any 32 4294967296 w (by omega) (by rfl))
 have HQ := hx (power_any 31 2147483648 w (by omega) (by rfl))
 have e1 : x.tmod 4294967296 = x % 4294967296 := Int.tmod_eq_emod_of_nonneg h0
 obtain ⟨y, hy⟩ : ∃ y, y = x % 4294967296 := ⟨_, rfl⟩
 have hyb : 0 ≤ y ∧ y < 4294967296 := by omega
 rw [← hy] at e1 ⊢
 have HE := hx e1
 have w1 : IntKind.u64.wrap y = y := wrap_u64 _ (by omega) (by omega)
 clear hy
 by_cases hb : y ≥ 2147483648
 ·have d : decide (y ≥ 2147483648) = true := decide_eq_true hb
  have hs : sext 32 y = y - 4294967296 := by unfold sext; rw [if_neg (by simp; omega)]; rfl
  rw [hs]
  clear hs
  go_enter Tryz.func61, Tryz.ntmps61
  go_wp2_with fail
  refine HW.out.mono ?_
  rintro e w1 ⟨rfl, rfl⟩
  go_wp2_with fail
  refine HP.out.mono ?_
  rintro e w1 ⟨rfl, rfl⟩
  go_wp2_with fail
  refine HQ.out.mono ?_
  rintro e w1 ⟨rfl, rfl⟩
  go_wp2_with fail
  refine HP.out.mono ?_
  rintro e w1 ⟨rfl, rfl⟩
  go_wp2
  go_ret
  exact ⟨rfl, rfl⟩
 ·have d : decide (y ≥ 2147483648) = false := decide_eq_false hb
  have hs : sext 32 y = y := by unfold sext; rw [if_pos (by simp; omega)]
  rw [hs]
  clear hs
  go_enter Tryz.func61, Tryz.ntmps61
  go_wp2_with fail
  refine HW.out.mono ?_
  rintro e w1 ⟨rfl, rfl⟩
  go_wp2_with fail
  refine HP.out.mono ?_
  rintro e w1 ⟨rfl, rfl⟩
  go_wp2_with fail
  refine HQ.out.mono ?_
  rintro e w1 ⟨rfl, rfl⟩
  go_wp2
  go_ret
  exact ⟨rfl, rfl⟩
end Go.Proofs.YtmnbalbiehlkpaaGreatDoor


set_option linter.unusedVariables false
set_option linter.unusedSimpArgs false
namespace Go.Proofs.YtmnbalbiehlkpaaGreatDoor
open Go.RowKit

theorem lit_ints (w : World) (l : List Int) (hb : ∀ x ∈ l, I64 x) (hl : l.length ≤ 1000) :
  IsInts (w.alloc (.cells (l.map (Value.int .i64)).toArray 3)) (.slice (some ⟨w.heap.size, 0, none⟩) l.length l.length) l :=
 RowI.read (h := heap_alloc_new w _) hb rfl (by omega)
def usesDst (n : Int) : Bool := decide (formN n ∈ [0, 1, 2, 4, 7, 8, 9, 10, 11])
def usesOff (n : Int) : Bool := decide (formN n ∈ [3, 4, 7, 8, 9])
set_option maxRecDepth 40000 in
set_option maxHeartbeats 4000000 in
theorem ref04Dst_any (n : Int) (w : World) (hn : I64 n) :
  Calls Tryz.prog 141 #[.int .i64 n] w fun e w' => e = .returned (.bool (usesDst n)) ∧ Ext w w' := by
 have hf := refForm_any n w hn
 rw [← formN_eq] at hf
 have hi := fun y => in_any y _ _ _ (lit_ints w [0, 1, 2, 4, 7, 8, 9, 10, 11] (by intro x hx; simp at hx; constructor <;> omega) (by decide)) (by decide)
 have e1 := Ext.new w (.cells ([0, 1, 2, 4, 7, 8, 9, 10, 11].map (Value.int .i64)).toArray 3)
 unfold usesDst
 generalize formN n = F at *
 have HF := hx hf
 have HI := hx hi
 clear hf hi
 go_enter Tryz.func141, Tryz.ntmps141
 go_wp2_with fail
 refine HF.out.mono ?_
 rintro e w1 ⟨rfl, rfl⟩
 go_wp2_with fail
 refine (HI.out F).mono ?_
 rintro e w2 ⟨rfl, rfl⟩
 go_wp2
 go_ret
 exact ⟨ret_bool (by simp), e1⟩
set_option maxRecDepth 40000 in
set_option maxHeartbeats 4000000 in
theorem ref04Off_any (n : Int) (w : World) (hn : I64 n) :
  Calls Tryz.prog 143 #[.int .i64 n] w fun e w' => e = .returned (.bool (usesOff n)) ∧ Ext w w' := by
 have hf := refForm_any n w hn
 rw [← formN_eq] at hf
 have hi := fun y => in_any y _ _ _ (lit_ints w [3, 4, 7, 8, 9] (by intro x hx; simp at hx; constructor <;> omega) (by decide)) (by decide)
 have e1 := Ext.new w (.cells ([3, 4, 7, 8, 9].map (Value.int .i64)).toArray 3)
 unfold usesOff
 generalize formN n = F at *
 have HF := hx hf
 have HI := hx hi
 clear hf hi
 go_enter Tryz.func143, Tryz.ntmps143
 go_wp2_with fail
 refine HF.out.mono ?_
 rintro e w1 ⟨rfl, rfl⟩
 go_wp2_with fail
 refine (HI.out F).mono ?_
 rintro e w2 ⟨rfl, rfl⟩
 go_wp2
 go_ret
 exact ⟨ret_bool (by simp), e1⟩
def regOk (n : Int) : Bool := decide (0 ≤ n ∧ n ≤ 10)
theorem ref04register_any (n : Int) (w : World) : Calls Tryz.prog 145 #[.int .i64 n] w fun e w' => e = .returned (.bool (regOk n)) ∧ w' = w := by
 by_cases h0 : 0 ≤ n
 ·have d0 : decide (n ≥ 0) = true := decide_eq_true h0
  by_cases h1 : n ≤ 10
  ·have d1 : decide (n ≤ 10) = true := decide_eq_true h1
   have hr : regOk n = true := decide_eq_true ⟨h0, h1⟩
   rw [hr]
   go_enter Tryz.func145, Tryz.ntmps145
   go_wp2
   go_ret
   exact ⟨rfl, rfl⟩
  ·have d1 : decide (n ≤ 10) = false := decide_eq_false h1
   have hr : regOk n = false := decide_eq_false (by omega)
   rw [hr]
   go_enter Tryz.func145, Tryz.ntmps145
   go_wp2
   go_ret
   exact ⟨rfl, rfl⟩
 ·have d0 : decide (n ≥ 0) = false := decide_eq_false h0
  have hr : regOk n = false := decide_eq_false (by omega)
  rw [hr]
  go_enter Tryz.func145, Tryz.ntmps145
  go_wp2
  go_ret
  exact ⟨rfl, rfl⟩
end Go.Proofs.YtmnbalbiehlkpaaGreatDoor


set_option linter.unusedVariables false
set_option linter.unusedSimpArgs false
namespace Go.Proofs.YtmnbalbiehlkpaaGreatDoor
open Go.RowKit

def usesSrc (n : Int) (reg : Bool) : Bool := decide (formN n ∈ [2, 7, 9]) || (reg && decide (formN n ∈ [0, 4]))
set_option maxRecDepth 40000 in
set_option maxHeartbeats 4000000 in
theorem ref04Src_any (n : Int) (reg : Bool) (w : World) (hn : I64 n) :
  Calls Tryz.prog 142 #[.int .i64 n, .bool reg] w fun e w' => e = .returned (.bool (usesSrc n reg)) ∧ Ext w w' := by
 have hf := refForm_any n w hn
 rw [← formN_eq] at hf
 have hi := fun y => in_any y _ _ _ (lit_ints w [2, 7, 9] (by intro x hx; simp at hx; constructor <;> omega) (by decide)) (by decide)
 have hs : (w.alloc (.cells ([2, 7, 9].map (Value.int .i64)).toArray 3)).heap.size = w.heap.size + 1 := by simp
 have hL := lit_ints (w.alloc (.cells ([2, 7, 9].map (Value.int .i64)).toArray 3)) [0, 4] (by intro x hx; simp at hx; constructor <;> omega) (by decide)
 rw [hs] at hL
 have hj := fun y => in_any y _ _ _ hL (by decide)
 have e1 := Ext.new w (.cells ([2, 7, 9].map (Value.int .i64)).toArray 3)
 have e2 := e1.alloc (.cells ([0, 4].map (Value.int .i64)).toArray 3)
 unfold usesSrc
 generalize formN n = F at *
 have h1 := hi F
 have h2 := hj F
 generalize decide (F ∈ [2, 7, 9]) = B1 at *
 generalize decide (F ∈ [0, 4]) = B2 at *
 have HF := hx hf
 have H1 := hx h1
 have H2 := hx h2
 clear hf hi hj h1 h2 hs hL
 cases B1 with
 | true =>
  cases reg
  all_goals
   go_enter Tryz.func142, Tryz.ntmps142
   go_wp2_with fail
   refine HF.out.mono ?_
   rintro e w1 ⟨rfl, rfl⟩
   go_wp2_with fail
   refine H1.out.mono ?_
   rintro e w2 ⟨rfl, rfl⟩
   go_wp2
   go_ret
   exact ⟨ret_bool (by simp), e1⟩
 | false =>
  cases reg with
  | false =>
   go_enter Tryz.func142, Tryz.ntmps142
   go_wp2_with fail
   refine HF.out.mono ?_
   rintro e w1 ⟨rfl, rfl⟩
   go_wp2_with fail
   refine H1.out.mono ?_
   rintro e w2 ⟨rfl, rfl⟩
   go_wp2
   go_ret
   exact ⟨ret_bool (by simp), e1⟩
  | true =>
   go_enter Tryz.func142, Tryz.ntmps142
   go_wp2_with fail
   refine HF.out.mono ?_
   rintro e w1 ⟨rfl, rfl⟩
   go_wp2_with fail
   refine H1.out.mono ?_
   rintro e w2 ⟨rfl, rfl⟩
   go_wp2_with fail
   refine H2.out.mono ?_
   rintro e w3 ⟨rfl, rfl⟩
   go_wp2
   go_ret
   exact ⟨ret_bool (by simp), e2⟩
def usesImm (n : Int) (reg : Bool) : Bool := decide (formN n ∈ [5, 8, 10, 11]) || (!reg && decide (formN n ∈ [0, 4]))
set_option maxRecDepth 40000 in
set_option maxHeartbeats 4000000 in
theorem ref04Imm_any (n : Int) (reg : Bool) (w : World) (hn : I64 n) :
  Calls Tryz.prog 144 #[.int .i64 n, .bool reg] w fun e w' => e = .returned (.bool (usesImm n reg)) ∧ Ext w w' := by
 have hf := refForm_any n w hn
 rw [← formN_eq] at hf
 have hi := fun y => in_any y _ _ _ (lit_ints w [5, 8, 10, 11] (by intro x hx; simp at hx; constructor <;> omega) (by decide)) (by decide)
 have hs : (w.alloc (.cells ([5, 8, 10, 11].map (Value.int .i64)).toArray 3)).heap.size = w.heap.size + 1 := by simp
 have hL := lit_ints (w.alloc (.cells ([5, 8, 10, 11].map (Value.int .i64)).toArray 3)) [0, 4] (by intro x hx; simp at hx; constructor <;> omega) (by decide)
 rw [hs] at hL
 have hj := fun y => in_any y _ _ _ hL (by decide)
 have e1 := Ext.new w (.cells ([5, 8, 10, 11].map (Value.int .i64)).toArray 3)
 have e2 := e1.alloc (.cells ([0, 4].map (Value.int .i64)).toArray 3)
 unfold usesImm
 generalize formN n = F at *
 have h1 := hi F
 have h2 := hj F
 generalize decide (F ∈ [5, 8, 10, 11]) = B1 at *
 generalize decide (F ∈ [0, 4]) = B2 at *
 have HF := hx hf
 have H1 := hx h1
 have H2 := hx h2
 clear hf hi hj h1 h2 hs hL
 cases B1 with
 | true =>
  cases reg
  all_goals
   go_enter Tryz.func144, Tryz.ntmps144
   go_wp2_with fail
   refine HF.out.mono ?_
   rintro e w1 ⟨rfl, rfl⟩
   go_wp2_with fail
   refine H1.out.mono ?_
   rintro e w2 ⟨rfl, rfl⟩
   go_wp2
   go_ret
   exact ⟨ret_bool (by simp), e1⟩
 | false =>
  cases reg with
  | true =>
   go_enter Tryz.func144, Tryz.ntmps144
   go_wp2_with fail
   refine HF.out.mono ?_
   rintro e w1 ⟨rfl, rfl⟩
   go_wp2_with fail
   refine H1.out.mono ?_
   rintro e w2 ⟨rfl, rfl⟩
   go_wp2
   go_ret
   exact ⟨ret_bool (by simp), e1⟩
  | false =>
   go_enter Tryz.func144, Tryz.ntmps144
   go_wp2_with fail
   refine HF.out.mono ?_
   rintro e w1 ⟨rfl, rfl⟩
   go_wp2_with fail
   refine H1.out.mono ?_
   rintro e w2 ⟨rfl, rfl⟩
   go_wp2_with fail
   refine H2.out.mono ?_
   rintro e w3 ⟨rfl, rfl⟩
   go_wp2
   go_ret
   exact ⟨ret_bool (by simp), e2⟩
end Go.Proofs.YtmnbalbiehlkpaaGreatDoor


set_option linter.unusedVariables false
set_option linter.unusedSimpArgs false
namespace Go.Proofs.YtmnbalbiehlkpaaGreatDoor
open Go.RowKit

set_option maxRecDepth 40000 in
set_option maxHeartbeats 1000000 in
theorem numExtend32g (x : Int) (w : World) (hW : WidN w) (h0 : 0 ≤ x) (h1 : x < 18446744073709551616) :
  Calls Tryz.prog 112 #[.int .u64 x, .int .i64 32] w fun e w' => e = .returned (.int .i64 (sext 32 (x % 4294967296))) ∧ w' = w := by
 have h := known_any 32 w hW
 have H := hx h
 have w1 : IntKind.u64.wrap (x * 4294967296) = (x % 4294967296) * 4294967296 := by
  simp [IntKind.wrap, IntKind.signed, IntKind.bits]
  omega
 obtain ⟨y, hy⟩ : ∃ y, y = x % 4294967296 := ⟨_, rfl⟩
 have hyb : 0 ≤ y ∧ y < 4294967296 := by omega
 rw [← hy] at w1 ⊢
 clear h hW hy
 go_enter Tryz.func112, Tryz.ntmps112
 go_wp2_with (go_at_call 176; refine H.out.mono ?_; rintro e w1 ⟨rfl, rfl⟩)
 go_ret
 exact ⟨ret_int (by unfold wrap64 sext; simp only [Nat.reduceSub, Int.reducePow]; split <;> omega), rfl⟩
def fits32 (x : Int) : Bool := decide (-2147483648 ≤ x ∧ x ≤ 2147483647)
set_option maxRecDepth 40000 in
set_option maxHeartbeats 1000000 in
theorem numFits32 (x : Int) (w : World) (hW : WidN w) (hI : I64 x) :
  Calls Tryz.prog 262 #[.int .i64 x, .int .i64 32] w fun e w' => e = .returned (.bool (fits32 x)) ∧ w' = w := by
 have HK := hx (known_any 32 w hW)
 obtain ⟨i0, i1⟩ := hI
 obtain ⟨y, hy⟩ : ∃ y, y = IntKind.u64.wrap x := ⟨_, rfl⟩
 have hyb : 0 ≤ y ∧ y < 18446744073709551616 := by
  rw [hy]; simp [IntKind.wrap, IntKind.signed, IntKind.bits]; omega
 have hz : (sext 32 (y % 4294967296) == x) = fits32 x := by
  have hy2 : y = if x < 0 then x + 18446744073709551616 else x := by
   rw [hy]; simp [IntKind.wrap, IntKind.signed, IntKind.bits]; split <;> omega
  unfold fits32 sext
  simp only [Nat.reduceSub, Int.reducePow]
  rw [Bool.eq_iff_iff]
  simp only [beq_iff_eq, decide_eq_true_eq]
  split at hy2 <;> split <;> omega
 have HE := hx (numExtend32g y w hW hyb.1 hyb.2)
 generalize sext 32 (y % 4294967296) = z at *
 have w1 : IntKind.u64.wrap x = y := hy.symm
 have HZ := hx hz
 clear hy hz hW
 go_enter Tryz.func262, Tryz.ntmps262
 go_wp2_with (first | (go_at_call 176; refine HK.out.mono ?_; rintro e w1 ⟨rfl, rfl⟩) | (go_at_call 112; refine HE.out.mono ?_; rintro e w1 ⟨rfl, rfl⟩))
 go_ret
 exact ⟨ret_bool HZ.out, rfl⟩
set_option maxRecDepth 40000 in
set_option maxHeartbeats 1000000 in
theorem numExtend16g (x : Int) (w : World) (hW : WidN w) (h0 : 0 ≤ x) (h1 : x < 18446744073709551616) :
  Calls Tryz.prog 112 #[.int .u64 x, .int .i64 16] w fun e w' => e = .returned (.int .i64 (sext 16 (x % 65536))) ∧ w' = w := by
 have h := known_any 16 w hW
 have H := hx h
 have w1 : IntKind.u64.wrap (x * 281474976710656) = (x % 65536) * 281474976710656 := by
  simp [IntKind.wrap, IntKind.signed, IntKind.bits]
  omega
 obtain ⟨y, hy⟩ : ∃ y, y = x % 65536 := ⟨_, rfl⟩
 have hyb : 0 ≤ y ∧ y < 65536 := by omega
 rw [← hy] at w1 ⊢
 clear h hW hy
 go_enter Tryz.func112, Tryz.ntmps112
 go_wp2_with (go_at_call 176; refine H.out.mono ?_; rintro e w1 ⟨rfl, rfl⟩)
 go_ret
 exact ⟨ret_int (by unfold wrap64 sext; simp only [Nat.reduceSub, Int.reducePow]; split <;> omega), rfl⟩
def fits16 (x : Int) : Bool := decide (-32768 ≤ x ∧ x ≤ 32767)
set_option maxRecDepth 40000 in
set_option maxHeartbeats 1000000 in
theorem numFits16 (x : Int) (w : World) (hW : WidN w) (hI : I64 x) :
  Calls Tryz.prog 262 #[.int .i64 x, .int .i64 16] w fun e w' => e = .returned (.bool (fits16 x)) ∧ w' = w := by
 have HK := hx (known_any 16 w hW)
 obtain ⟨i0, i1⟩ := hI
 obtain ⟨y, hy⟩ : ∃ y, y = IntKind.u64.wrap x := ⟨_, rfl⟩
 have hyb : 0 ≤ y ∧ y < 18446744073709551616 := by
  rw [hy]; simp [IntKind.wrap, IntKind.signed, IntKind.bits]; omega
 have hz : (sext 16 (y % 65536) == x) = fits16 x := by
  have hy2 : y = if x < 0 then x + 18446744073709551616 else x := by
   rw [hy]; simp [IntKind.wrap, IntKind.signed, IntKind.bits]; split <;> omega
  unfold fits16 sext
  simp only [Nat.reduceSub, Int.reducePow]
  rw [Bool.eq_iff_iff]
  simp only [beq_iff_eq, decide_eq_true_eq]
  split at hy2 <;> split <;> omega
 have HE := hx (numExtend16g y w hW hyb.1 hyb.2)
 generalize sext 16 (y % 65536) = z at *
 have w1 : IntKind.u64.wrap x = y := hy.symm
 have HZ := hx hz
 clear hy hz hW
 go_enter Tryz.func262, Tryz.ntmps262
 go_wp2_with (first | (go_at_call 176; refine HK.out.mono ?_; rintro e w1 ⟨rfl, rfl⟩) | (go_at_call 112; refine HE.out.mono ?_; rintro e w1 ⟨rfl, rfl⟩))
 go_ret
 exact ⟨ret_bool HZ.out, rfl⟩
end Go.Proofs.YtmnbalbiehlkpaaGreatDoor


set_option linter.unusedVariables false
set_option linter.unusedSimpArgs false
namespace Go.Proofs.YtmnbalbiehlkpaaGreatDoor
open Go.RowKit

/-- A block of plain cells. -/
def RowV (w : World) (g : Nat) (t : TypeId) (l : List Value) : Prop := w.heap[g]? = some (.cells l.toArray t (0, 0))
section
variable {w w' : World} {g : Nat} {t : TypeId} {l : List Value}
theorem RowV.cell (h : RowV w g t l) {i : Nat} {v : Value} (hv : l[i]? = some v) : w.cell? ⟨g, i, none⟩ = some v := by simp [World.cell?, show w.heap[g]? = _ from h, hv]
theorem RowV.frozen (h : RowV w g t l) (i : Nat) : w.frozen? ⟨g, i, none⟩ = false := by simp [World.frozen?, show w.heap[g]? = _ from h]
theorem RowV.lt (h : RowV w g t l) : g < w.heap.size := (Array.getElem?_eq_some_iff.1 h).1
theorem RowV.ext (h : RowV w g t l) (he : Ext w w') : RowV w' g t l := he.obj h
theorem RowV.keep {row : Option Nat} (h : RowV w g t l) (hg : w.grownBy w' row) (hne : some g ≠ row) : RowV w' g t l := (hg.block g h.lt hne).trans h
theorem RowV.new (w : World) (l : List Value) (t : TypeId) : RowV (w.alloc (.cells l.toArray t)) w.heap.size t l := heap_alloc_new w _
theorem RowV.set (h : RowV w g t l) (i : Nat) (u : Value) : RowV (w.setCell ⟨g, i, none⟩ u) g t (l.set i u) := by
 unfold RowV at *
 simp only [World.setCell, Array.getElem?_modify, h, if_true, Option.map_some]
 simp
end

theorem results_rowV {P : Program} {fn : Func} {p : Tmp} {ty : TypeId} (cs : Array Value) (h : fn.results = #[.cell p ty]) (tmps : Array Value) (w : World) (g : Nat) (t : TypeId) (d : TypeDesc)
  (hp : tmps.getD p undef = .pointer (some ⟨g, 0, none⟩)) (hg : ∃ l, RowV w g t l ∧ l.toArray = cs)
  (hu : P.underlying ty = some d) (hd : (match d with | .struct _ | .array _ _ => true | _ => false) = true) (hi : (P.info? ty).map (·.size) = some cs.size) :
  (results fn tmps).run P w = .ok (.agg cs) w := by
 obtain ⟨l, hg, rfl⟩ := hg
 exact results_cell_row h tmps w g t l.toArray (0, 0) d hp hg hu hd hi

def fBad (u : Bool) (n : Int) : Bool := !u && !(n == 0)
def fieldBad (x : Ins) : Bool := fBad (usesDst x.op) x.dst || fBad (usesSrc x.op x.reg) x.src || fBad (usesOff x.op) x.off || fBad (usesImm x.op x.reg) x.imm
def regBad (x : Ins) : Bool := x.reg && !(formN x.op == 0) && !(formN x.op == 4)
def immOk (x : Ins) : Bool := if formN x.op = 10 then true else if formN x.op = 5 then decide (1 ≤ x.imm ∧ x.imm ≤ 3) else if formN x.op = 11 then decide (0 ≤ x.imm ∧ x.imm < 255) else fits32 x.imm
def insE (x : Ins) : Int :=
 if formN x.op = -1 then 6 else if regBad x then 12 else if fieldBad x then 12 else if !(regOk x.dst && regOk x.src) then 5 else if !(fits16 x.off && immOk x) then 4 else 0

theorem uses_end {n : Int} {reg : Bool} {w W : World} {l : List Value} (a : Act) (g : Nat) (hp : a.tmps.getD 4 undef = .pointer (some ⟨g, 0, none⟩)) (hd : a.defers = []) (hr : RowV W g 290 l) (he : Ext w W)
  (hl : l = [.bool (usesDst n), .bool (usesSrc n reg), .bool (usesOff n), .bool (usesImm n reg)]) :
  bodyPost Tryz.prog Tryz.f215 (fun e w' => e = .returned (.agg #[.bool (usesDst n), .bool (usesSrc n reg), .bool (usesOff n), .bool (usesImm n reg)]) ∧ Ext w w') .ret a W := by
 subst hl
 exact bodyPost_ret (results_rowV #[.bool (usesDst n), .bool (usesSrc n reg), .bool (usesOff n), .bool (usesImm n reg)] (by rfl) _ _ g 290 _ hp ⟨_, hr, rfl⟩ Tryz.underlying290 rfl (by kernel_rfl)) hd ⟨rfl, he⟩
set_option maxRecDepth 40000 in
set_option maxHeartbeats 4000000 in
theorem insnUses_any (n : Int) (reg : Bool) (w : World) (hn : I64 n) (hO : OpsQ n w) :
  Calls Tryz.prog 215 #[.int .i64 n, .bool reg] w fun e w' => e = .returned (.agg #[.bool (usesDst n), .bool (usesSrc n reg), .bool (usesOff n), .bool (usesImm n reg)]) ∧ Ext w w' := by
 have e0 := Ext.new w (.cells #[.bool false, .bool false, .bool false, .bool false] 290)
 have r0 := RowV.new w [.bool false, .bool false, .bool false, .bool false] 290
 have hc := opForm_any n (w.alloc (.cells #[.bool false, .bool false, .bool false, .bool false] 290)) hn (hO.ext e0)
 have R0 := hx r0
 have E0 := hx e0
 clear e0 r0 hO hn
 rcases form_cases n with h | h | h | h | h | h | h | h | h | h | h | h | h
 all_goals
  rw [h] at hc
  have H := hx hc
  have HF := hx h
  clear hc h
  go_enter Tryz.func215, Tryz.ntmps215
  go_wp2_with fail
  refine H.out.mono ?_
  rintro e w1 ⟨rfl, e1⟩
  have r1 := R0.out.ext e1
  have f0 := r1.frozen 0
  have f1 := r1.frozen 1
  have f2 := r1.frozen 2
  have f3 := r1.frozen 3
  have c0 := r1.cell (i := 0) rfl
  have c1 := r1.cell (i := 1) rfl
  have c2 := r1.cell (i := 2) rfl
  have c3 := r1.cell (i := 3) rfl
  have R1 := hx r1
  have E1 := hx (E0.out.trans e1)
  clear r1 e1
  go_wp2
 ·exact uses_end _ _ (by rfl) rfl ((((R1.out.set 0 (.bool false)).set 1 (.bool false)).set 2 (.bool false)).set 3 (.bool false)) ((((E1.out.setCell (a := ⟨w.heap.size, 0, none⟩) (.bool false) (Nat.le_refl _)).setCell (a := ⟨w.heap.size, 1, none⟩) (.bool false) (Nat.le_refl _)).setCell (a := ⟨w.heap.size, 2, none⟩) (.bool false) (Nat.le_refl _)).setCell (a := ⟨w.heap.size, 3, none⟩) (.bool false) (Nat.le_refl _)) (by unfold usesDst usesSrc usesOff usesImm; rw [HF.out]; cases reg <;> rfl)
 ·exact uses_end _ _ (by rfl) rfl (((((((R1.out.set 0 (.bool true)).set 1 (.bool reg)).set 3 (.bool !reg)).set 0 (.bool true)).set 1 (.bool reg)).set 2 (.bool false)).set 3 (.bool !reg)) (((((((E1.out.setCell (a := ⟨w.heap.size, 0, none⟩) (.bool true) (Nat.le_refl _)).setCell (a := ⟨w.heap.size, 1, none⟩) (.bool reg) (Nat.le_refl _)).setCell (a := ⟨w.heap.size, 3, none⟩) (.bool !reg) (Nat.le_refl _)).setCell (a := ⟨w.heap.size, 0, none⟩) (.bool true) (Nat.le_refl _)).setCell (a := ⟨w.heap.size, 1, none⟩) (.bool reg) (Nat.le_refl _)).setCell (a := ⟨w.heap.size, 2, none⟩) (.bool false) (Nat.le_refl _)).setCell (a := ⟨w.heap.size, 3, none⟩) (.bool !reg) (Nat.le_refl _)) (by unfold usesDst usesSrc usesOff usesImm; rw [HF.out]; cases reg <;> rfl)
 ·exact uses_end _ _ (by rfl) rfl (((((R1.out.set 0 (.bool true)).set 0 (.bool true)).set 1 (.bool false)).set 2 (.bool false)).set 3 (.bool false)) (((((E1.out.setCell (a := ⟨w.heap.size, 0, none⟩) (.bool true) (Nat.le_refl _)).setCell (a := ⟨w.heap.size, 0, none⟩) (.bool true) (Nat.le_refl _)).setCell (a := ⟨w.heap.size, 1, none⟩) (.bool false) (Nat.le_refl _)).setCell (a := ⟨w.heap.size, 2, none⟩) (.bool false) (Nat.le_refl _)).setCell (a := ⟨w.heap.size, 3, none⟩) (.bool false) (Nat.le_refl _)) (by unfold usesDst usesSrc usesOff usesImm; rw [HF.out]; cases reg <;> rfl)
 ·exact uses_end _ _ (by rfl) rfl ((((((R1.out.set 1 (.bool true)).set 0 (.bool true)).set 0 (.bool true)).set 1 (.bool true)).set 2 (.bool false)).set 3 (.bool false)) ((((((E1.out.setCell (a := ⟨w.heap.size, 1, none⟩) (.bool true) (Nat.le_refl _)).setCell (a := ⟨w.heap.size, 0, none⟩) (.bool true) (Nat.le_refl _)).setCell (a := ⟨w.heap.size, 0, none⟩) (.bool true) (Nat.le_refl _)).setCell (a := ⟨w.heap.size, 1, none⟩) (.bool true) (Nat.le_refl _)).setCell (a := ⟨w.heap.size, 2, none⟩) (.bool false) (Nat.le_refl _)).setCell (a := ⟨w.heap.size, 3, none⟩) (.bool false) (Nat.le_refl _)) (by unfold usesDst usesSrc usesOff usesImm; rw [HF.out]; cases reg <;> rfl)
 ·exact uses_end _ _ (by rfl) rfl (((((R1.out.set 2 (.bool true)).set 0 (.bool false)).set 1 (.bool false)).set 2 (.bool true)).set 3 (.bool false)) (((((E1.out.setCell (a := ⟨w.heap.size, 2, none⟩) (.bool true) (Nat.le_refl _)).setCell (a := ⟨w.heap.size, 0, none⟩) (.bool false) (Nat.le_refl _)).setCell (a := ⟨w.heap.size, 1, none⟩) (.bool false) (Nat.le_refl _)).setCell (a := ⟨w.heap.size, 2, none⟩) (.bool true) (Nat.le_refl _)).setCell (a := ⟨w.heap.size, 3, none⟩) (.bool false) (Nat.le_refl _)) (by unfold usesDst usesSrc usesOff usesImm; rw [HF.out]; cases reg <;> rfl)
 ·exact uses_end _ _ (by rfl) rfl ((((((((R1.out.set 2 (.bool true)).set 0 (.bool true)).set 1 (.bool reg)).set 3 (.bool !reg)).set 0 (.bool true)).set 1 (.bool reg)).set 2 (.bool true)).set 3 (.bool !reg)) ((((((((E1.out.setCell (a := ⟨w.heap.size, 2, none⟩) (.bool true) (Nat.le_refl _)).setCell (a := ⟨w.heap.size, 0, none⟩) (.bool true) (Nat.le_refl _)).setCell (a := ⟨w.heap.size, 1, none⟩) (.bool reg) (Nat.le_refl _)).setCell (a := ⟨w.heap.size, 3, none⟩) (.bool !reg) (Nat.le_refl _)).setCell (a := ⟨w.heap.size, 0, none⟩) (.bool true) (Nat.le_refl _)).setCell (a := ⟨w.heap.size, 1, none⟩) (.bool reg) (Nat.le_refl _)).setCell (a := ⟨w.heap.size, 2, none⟩) (.bool true) (Nat.le_refl _)).setCell (a := ⟨w.heap.size, 3, none⟩) (.bool !reg) (Nat.le_refl _)) (by unfold usesDst usesSrc usesOff usesImm; rw [HF.out]; cases reg <;> rfl)
 ·exact uses_end _ _ (by rfl) rfl (((((R1.out.set 3 (.bool true)).set 0 (.bool false)).set 1 (.bool false)).set 2 (.bool false)).set 3 (.bool true)) (((((E1.out.setCell (a := ⟨w.heap.size, 3, none⟩) (.bool true) (Nat.le_refl _)).setCell (a := ⟨w.heap.size, 0, none⟩) (.bool false) (Nat.le_refl _)).setCell (a := ⟨w.heap.size, 1, none⟩) (.bool false) (Nat.le_refl _)).setCell (a := ⟨w.heap.size, 2, none⟩) (.bool false) (Nat.le_refl _)).setCell (a := ⟨w.heap.size, 3, none⟩) (.bool true) (Nat.le_refl _)) (by unfold usesDst usesSrc usesOff usesImm; rw [HF.out]; cases reg <;> rfl)
 ·exact uses_end _ _ (by rfl) rfl ((((R1.out.set 0 (.bool false)).set 1 (.bool false)).set 2 (.bool false)).set 3 (.bool false)) ((((E1.out.setCell (a := ⟨w.heap.size, 0, none⟩) (.bool false) (Nat.le_refl _)).setCell (a := ⟨w.heap.size, 1, none⟩) (.bool false) (Nat.le_refl _)).setCell (a := ⟨w.heap.size, 2, none⟩) (.bool false) (Nat.le_refl _)).setCell (a := ⟨w.heap.size, 3, none⟩) (.bool false) (Nat.le_refl _)) (by unfold usesDst usesSrc usesOff usesImm; rw [HF.out]; cases reg <;> rfl)
 ·exact uses_end _ _ (by rfl) rfl (((((((R1.out.set 2 (.bool true)).set 1 (.bool true)).set 0 (.bool true)).set 0 (.bool true)).set 1 (.bool true)).set 2 (.bool true)).set 3 (.bool false)) (((((((E1.out.setCell (a := ⟨w.heap.size, 2, none⟩) (.bool true) (Nat.le_refl _)).setCell (a := ⟨w.heap.size, 1, none⟩) (.bool true) (Nat.le_refl _)).setCell (a := ⟨w.heap.size, 0, none⟩) (.bool true) (Nat.le_refl _)).setCell (a := ⟨w.heap.size, 0, none⟩) (.bool true) (Nat.le_refl _)).setCell (a := ⟨w.heap.size, 1, none⟩) (.bool true) (Nat.le_refl _)).setCell (a := ⟨w.heap.size, 2, none⟩) (.bool true) (Nat.le_refl _)).setCell (a := ⟨w.heap.size, 3, none⟩) (.bool false) (Nat.le_refl _)) (by unfold usesDst usesSrc usesOff usesImm; rw [HF.out]; cases reg <;> rfl)
 ·exact uses_end _ _ (by rfl) rfl (((((((R1.out.set 2 (.bool true)).set 0 (.bool true)).set 3 (.bool true)).set 0 (.bool true)).set 1 (.bool false)).set 2 (.bool true)).set 3 (.bool true)) (((((((E1.out.setCell (a := ⟨w.heap.size, 2, none⟩) (.bool true) (Nat.le_refl _)).setCell (a := ⟨w.heap.size, 0, none⟩) (.bool true) (Nat.le_refl _)).setCell (a := ⟨w.heap.size, 3, none⟩) (.bool true) (Nat.le_refl _)).setCell (a := ⟨w.heap.size, 0, none⟩) (.bool true) (Nat.le_refl _)).setCell (a := ⟨w.heap.size, 1, none⟩) (.bool false) (Nat.le_refl _)).setCell (a := ⟨w.heap.size, 2, none⟩) (.bool true) (Nat.le_refl _)).setCell (a := ⟨w.heap.size, 3, none⟩) (.bool true) (Nat.le_refl _)) (by unfold usesDst usesSrc usesOff usesImm; rw [HF.out]; cases reg <;> rfl)
 ·exact uses_end _ _ (by rfl) rfl (((((((R1.out.set 2 (.bool true)).set 1 (.bool true)).set 0 (.bool true)).set 0 (.bool true)).set 1 (.bool true)).set 2 (.bool true)).set 3 (.bool false)) (((((((E1.out.setCell (a := ⟨w.heap.size, 2, none⟩) (.bool true) (Nat.le_refl _)).setCell (a := ⟨w.heap.size, 1, none⟩) (.bool true) (Nat.le_refl _)).setCell (a := ⟨w.heap.size, 0, none⟩) (.bool true) (Nat.le_refl _)).setCell (a := ⟨w.heap.size, 0, none⟩) (.bool true) (Nat.le_refl _)).setCell (a := ⟨w.heap.size, 1, none⟩) (.bool true) (Nat.le_refl _)).setCell (a := ⟨w.heap.size, 2, none⟩) (.bool true) (Nat.le_refl _)).setCell (a := ⟨w.heap.size, 3, none⟩) (.bool false) (Nat.le_refl _)) (by unfold usesDst usesSrc usesOff usesImm; rw [HF.out]; cases reg <;> rfl)
 ·exact uses_end _ _ (by rfl) rfl ((((((R1.out.set 0 (.bool true)).set 3 (.bool true)).set 0 (.bool true)).set 1 (.bool false)).set 2 (.bool false)).set 3 (.bool true)) ((((((E1.out.setCell (a := ⟨w.heap.size, 0, none⟩) (.bool true) (Nat.le_refl _)).setCell (a := ⟨w.heap.size, 3, none⟩) (.bool true) (Nat.le_refl _)).setCell (a := ⟨w.heap.size, 0, none⟩) (.bool true) (Nat.le_refl _)).setCell (a := ⟨w.heap.size, 1, none⟩) (.bool false) (Nat.le_refl _)).setCell (a := ⟨w.heap.size, 2, none⟩) (.bool false) (Nat.le_refl _)).setCell (a := ⟨w.heap.size, 3, none⟩) (.bool true) (Nat.le_refl _)) (by unfold usesDst usesSrc usesOff usesImm; rw [HF.out]; cases reg <;> rfl)
 ·exact uses_end _ _ (by rfl) rfl ((((((R1.out.set 0 (.bool true)).set 3 (.bool true)).set 0 (.bool true)).set 1 (.bool false)).set 2 (.bool false)).set 3 (.bool true)) ((((((E1.out.setCell (a := ⟨w.heap.size, 0, none⟩) (.bool true) (Nat.le_refl _)).setCell (a := ⟨w.heap.size, 3, none⟩) (.bool true) (Nat.le_refl _)).setCell (a := ⟨w.heap.size, 0, none⟩) (.bool true) (Nat.le_refl _)).setCell (a := ⟨w.heap.size, 1, none⟩) (.bool false) (Nat.le_refl _)).setCell (a := ⟨w.heap.size, 2, none⟩) (.bool false) (Nat.le_refl _)).setCell (a := ⟨w.heap.size, 3, none⟩) (.bool true) (Nat.le_refl _)) (by unfold usesDst usesSrc usesOff usesImm; rw [HF.out]; cases reg <;> rfl)
end Go.Proofs.YtmnbalbiehlkpaaGreatDoor


set_option linter.unusedVariables false
set_option linter.unusedSimpArgs false
namespace Go.Proofs.YtmnbalbiehlkpaaGreatDoor
open Go.RowKit

/-- A region: where it begins, and its bytes. -/
structure Reg where
 base : Int
 data : List Int
instance : Inhabited Reg := ⟨⟨0, []⟩⟩
def Reg.len (r : Reg) : Int := (r.data.length : Nat)
structure Reg.Ok (r : Reg) : Prop where
 lo : 0 ≤ r.base
 pos : 0 < r.len
 hi : r.base + r.len ≤ 18446744073709551616
 byt : Byt r.data
 small : r.data.length ≤ 100000
end Go.Proofs.YtmnbalbiehlkpaaGreatDoor
