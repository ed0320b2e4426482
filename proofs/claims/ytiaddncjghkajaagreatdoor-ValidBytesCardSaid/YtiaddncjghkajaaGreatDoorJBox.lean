/- The layer box: what its functions and those of its reference return. -/
import Derived.Test.YtiaddncjghkajaaGreatDoorJCore
import Derived.Laws.CopyOwn
import Derived.Lib.SlBytesConst
import Derived.BigQuiet
import Derived.Deep.QuietTactic
set_option linter.unusedVariables false
set_option linter.unusedSimpArgs false
namespace Go.Proofs.YtiaddncjghkajaaGreatDoor
open Go.RowKit

/-- The n least significant bytes of x, the least one first. -/
def le : Nat → Int → List Int
 | 0, _ => []
 | n + 1, x => x % 256 :: le n (x / 256)
theorem le_length (n : Nat) (x : Int) : (le n x).length = n := by
 induction n generalizing x with
 | zero => rfl
 | succ n ih => simp [le, ih]
theorem le_snoc (n : Nat) (x : Int) : le (n + 1) x = le n x ++ [x / 256 ^ n % 256] := by
 induction n generalizing x with
 | zero => simp [le]
 | succ n ih =>
  rw [le, ih, le, List.cons_append]
  congr 3
  rw [Int.ediv_ediv_of_nonneg (by decide), Int.pow_succ, Int.mul_comm]
theorem le_snoc2 (n : Nat) (x : Int) : le (n + 1) x = le n x ++ [x / 2 ^ (8 * n) % 256] := by
 rw [le_snoc, Int.pow_mul]; rfl
theorem le_byt (n : Nat) (x : Int) : Byt (le n x) := by
 induction n generalizing x with
 | zero => intro y hy; simp [le] at hy
 | succ n ih =>
  intro y hy
  simp only [le, List.mem_cons] at hy
  rcases hy with rfl | hy
  ·omega
  ·exact ih _ y hy
theorem splice_snoc {α : Type} (L : List α) (o : Nat) (cs : List α) (y : α) (h : o + cs.length < L.length) : splice L o (cs ++ [y]) = (splice L o cs).set (o + cs.length) y := by
 unfold splice
 have e1 : (L.take o).length = o := by simp; omega
 rw [List.set_append_right _ _ (by omega), e1, Nat.add_sub_cancel_left, List.set_append_right _ _ (by omega), Nat.sub_self]
 rw [List.drop_eq_getElem_cons h]
 simp [Nat.add_assoc]
theorem splice_mid {α : Type} (A B B' C : List α) (h : B.length = B'.length) : splice (A ++ (B ++ C)) A.length B' = A ++ (B' ++ C) := by
 unfold splice
 rw [List.take_left', ← h, show A.length + B.length = (A ++ B).length by simp, ← List.append_assoc A B C, List.drop_left']
 ·rfl
 ·rfl
theorem splice_nil {α : Type} (L : List α) (o : Nat) : splice L o [] = L := by simp [splice]

/-- A block of bytes, whole. -/
def RowB (w : World) (g : Nat) (l : List Int) : Prop := w.heap[g]? = some (.cells (l.map (Value.int .u8)).toArray 5 (0, 0))
theorem RowB.cell {w : World} {g : Nat} {l : List Int} (h : RowB w g l) {i : Nat} {y : Int} (hy : l[i]? = some y) : w.cell? ⟨g, i, none⟩ = some (.int .u8 y) := by
 simp [World.cell?, show w.heap[g]? = _ from h, hy]
theorem RowB.frozen {w : World} {g : Nat} {l : List Int} (h : RowB w g l) (i : Nat) : w.frozen? ⟨g, i, none⟩ = false := by
 simp [World.frozen?, show w.heap[g]? = _ from h]
theorem RowB.set {w : World} {g : Nat} {l : List Int} (h : RowB w g l) (i : Nat) (y : Int) : RowB (w.setCell ⟨g, i, none⟩ (.int .u8 y)) g (l.set i y) := by
 unfold RowB at *
 simp only [World.setCell, Array.getElem?_modify, h, if_true, Option.map_some]
 simp [List.map_set]
theorem RowB.lt {w : World} {g : Nat} {l : List Int} (h : RowB w g l) : g < w.heap.size := (Array.getElem?_eq_some_iff.1 h).1
theorem grown_setCell (w : World) (g o : Nat) (u : Value) : w.grownBy (w.setCell ⟨g, o, none⟩ u) (some g) :=
 ⟨rfl, rfl, rfl, by simp [World.setCell], fun i _ hi => Below.heap_setCell _ _ _ _ (fun e => hi (by rw [e]))⟩
theorem RowB.keep {w w' : World} {g : Nat} {l : List Int} {row : Option Nat} (h : RowB w g l) (hg : w.grownBy w' row) (hne : some g ≠ row) : RowB w' g l :=
 (hg.block g h.lt hne).trans h
theorem RowB.ext {w w' : World} {g : Nat} {l : List Int} (h : RowB w g l) (hg : Ext w w') : RowB w' g l := hg.obj h

set_option maxHeartbeats 400000 in
theorem set_any (g o n c : Nat) (x : Int) (l : List Int) (w : World) (hn : n ≤ 8) (ho : o + n ≤ l.length) (hg : RowB w g l) (hL : l.length ≤ 281474976710656) (hx0 : 0 ≤ x) (hx1 : x < 72057594037927936) :
  Calls Tryz.prog 91 #[.slice (some ⟨g, o, none⟩) n c, .int .i64 x] w fun e w' => e = .returned (.tuple #[]) ∧ RowB w' g (splice l o (le n x)) ∧ w.grownBy w' (some g) := by
 go_enter Tryz.func91, Tryz.ntmps91
 go_wp2
 go_loopw [7] (fun i wr => ∃ k : Nat, k ≤ n ∧ i = .int .i64 k ∧ RowB wr g (splice l o (le k x)) ∧ w.grownBy wr (some g))
  (fun i _ => n - (RowKit.intOf i).toNat)
 case atStart => exact ⟨0, by omega, rfl, by rw [le, splice_nil]; exact hg, World.grownBy.refl _ _⟩
 case round =>
  obtain ⟨k, hk, rfl, hr, hb⟩ := hrel
  by_cases hlt : k < n
  ·have hcell : wr.cell? ⟨g, o + k, none⟩ = some (.int .u8 ((splice l o (le k x))[o + k]'(by rw [length_splice _ _ _ (by rw [le_length]; omega)]; omega))) := hr.cell (List.getElem?_eq_getElem _)
   have hfr := hr.frozen (o + k)
   obtain ⟨y, hy⟩ : ∃ y, wr.cell? ⟨g, o + k, none⟩ = some y := ⟨_, hcell⟩
   clear hcell
   go_wp2
   go_roundw
   case rel => exact ⟨k + 1, by omega, by simp, by
    rw [le_snoc2, splice_snoc _ _ _ _ (by rw [le_length]; omega), le_length]; exact hr.set _ _, World.grownBy.trans hb (grown_setCell _ _ _ _)⟩
   case measure => simp [RowKit.intOf]; omega
  ·obtain rfl : k = n := by omega
   go_wp2
   go_end0
   exact ⟨rfl, hr, hb⟩

def up (n : Int) : Int := (n + 7) / 8 * 8
theorem up_bd (n : Int) : n ≤ up n ∧ up n ≤ n + 7 := by unfold up; omega
def secSize (l : List Sec) : Int := up (16 + 12 * l.length) + (l.map fun s => up s.data.length).sum
theorem andn7 (x : BitVec 64) : x &&& ~~~7#64 = (x >>> 3) <<< 3 := by
 have h7 : ∀ i, i < 64 → (7#64).getLsbD i = decide (i < 3) := by decide
 ext i hi
 have := h7 i hi
 simp only [← BitVec.getLsbD_eq_getElem, BitVec.getLsbD_and, BitVec.getLsbD_not, BitVec.getLsbD_shiftLeft, BitVec.getLsbD_ushiftRight, this, hi]
 by_cases h3 : i < 3
 ·simp [h3]
 ·simp [h3]; congr 1; omega
theorem andNot7 (n : Int) (h0 : 0 ≤ n) (h1 : n ≤ 9000000000000000000) : bits BinOp.andNot IntKind.i64 (n + 8 - 1) 7 = up n := by
 unfold up
 obtain ⟨m, rfl⟩ := Int.eq_ofNat_of_zero_le h0
 have e : ((m : Int) + 8 - 1) = ((m + 7 : Nat) : Int) := by omega
 rw [e]
 show IntKind.i64.wrap ((BitVec.ofInt 64 ((m + 7 : Nat) : Int) &&& ~~~BitVec.ofInt 64 7).toNat : Int) = _
 have e2 : BitVec.ofInt 64 7 = 7#64 := by decide
 have e3 : BitVec.ofInt 64 ((m + 7 : Nat) : Int) = BitVec.ofNat 64 (m + 7) := BitVec.ofInt_natCast ..
 rw [e2, andn7, e3, BitVec.toNat_shiftLeft, BitVec.toNat_ushiftRight, BitVec.toNat_ofNat, Nat.mod_eq_of_lt (by omega), Nat.shiftRight_eq_div_pow, Nat.shiftLeft_eq, Nat.mod_eq_of_lt (by omega)]
 have : IntKind.i64.wrap (((m + 7) / 2 ^ 3 * 2 ^ 3 : Nat) : Int) = (((m + 7) / 2 ^ 3 * 2 ^ 3 : Nat) : Int) := by
  rw [IntKind.wrap_i64]; omega
 rw [this]; omega
set_option maxHeartbeats 400000 in
theorem box_up_any (n : Int) (w : World) (h0 : 0 ≤ n) (h1 : n ≤ 9000000000000000000) :
  Calls Tryz.prog 92 #[.int .i64 n] w fun e w' => e = .returned (.int .i64 (up n)) ∧ w = w' := by
 have H := hx (andNot7 n h0 h1)
 go_enter Tryz.func92, Tryz.ntmps92
 go_wp2
 go_ret
 exact ⟨ret_int H.out, rfl⟩
set_option maxHeartbeats 400000 in
theorem ref15_up_any (n : Int) (w : World) (h0 : 0 ≤ n) (h1 : n ≤ 9000000000000000000) :
  Calls Tryz.prog 95 #[.int .i64 n] w fun e w' => e = .returned (.int .i64 (up n)) ∧ w = w' := by
 go_enter Tryz.func95, Tryz.ntmps95
 go_wp2
 go_ret
 exact ⟨rfl, rfl⟩

set_option maxHeartbeats 400000 in
theorem box_Size_any (v : Value) (l : List Sec) (w : World) (hl : l.length ≤ 1000) (hv : IsSecs w v l) :
  Calls Tryz.prog 90 #[v] w fun e w' => e = .returned (.int .i64 (secSize l)) ∧ Ext w w' := by
 obtain ⟨A, c, rfl, -, -, hv'⟩ := hv.form
 go_enter Tryz.func90, Tryz.ntmps90
 go_wp2_with (first | (go_at_call 92; refine (box_up_any _ _ (by omega) (by omega)).mono ?_; rintro e w' ⟨rfl, rfl⟩))
 go_loopw [3, 13] (fun n i wr => ∃ (pre suf : List Sec) (n' : Int), l = pre ++ suf ∧ i = .int .i64 (pre.length : Nat) ∧ n = .int .i64 n' ∧ 0 ≤ n' ∧ n' ≤ 20000 + pre.length * 281474976710664 ∧ n' + (suf.map fun s => up s.data.length).sum = secSize l ∧ Ext w wr)
  (fun _ i _ => l.length - (RowKit.intOf i).toNat)
 case atStart => exact ⟨[], l, _, rfl, rfl, rfl, by have := up_bd (16 + 12 * l.length); omega, by have := up_bd (16 + 12 * l.length); simp; omega, rfl, Ext.refl w⟩
 case round =>
  obtain ⟨pre, suf, n', hl', rfl, rfl, hn0, hn1, hsum, hb⟩ := hrel
  cases suf with
  | cons x suf =>
   have hlt : pre.length < l.length := by rw [hl']; simp
   rw [hl'] at hv'
   obtain ⟨b, o, rfl, d1, v', d2, hv2⟩ := hv'.at
   obtain ⟨A', c', rfl, -, hxl, -⟩ := hv2.form
   replace d1 := hb.cell d1.1
   replace d2 := hb.cell d2
   have HL := hx hl'; clear hl'
   have HS := hx hsum; clear hsum
   obtain ⟨hu0, hu1⟩ := up_bd x.data.length
   go_wp2_with (first | (go_at_call 92; refine (box_up_any _ _ (by omega) (by omega)).mono ?_; rintro e w' ⟨rfl, rfl⟩))
   go_roundw
   case rel => exact ⟨pre ++ [x], suf, _, by simp [HL.out], by simp, rfl, by omega, by simp; omega, by have := HS.out; simp at this; omega, hb.alloc _⟩
   case measure => simp [RowKit.intOf]; omega
  | nil =>
   obtain rfl : l = pre := by simpa using hl'
   clear hl'
   have hlt : ¬ l.length < l.length := by omega
   have HS := hx hsum; clear hsum
   go_wp2
   go_ret
   exact ⟨ret_int (by have := HS.out; simp at this; omega), hb⟩

set_option maxHeartbeats 400000 in
theorem ref15_Size_any (v : Value) (l : List Sec) (w : World) (hl : l.length ≤ 1000) (hv : IsSecs w v l) :
  Calls Tryz.prog 94 #[v] w fun e w' => e = .returned (.int .i64 (secSize l)) ∧ w = w' := by
 obtain ⟨A, c, rfl, -, -, hv'⟩ := hv.form
 go_enter Tryz.func94, Tryz.ntmps94
 go_wp2_with (first | (go_at_call 95; refine (ref15_up_any _ _ (by omega) (by omega)).mono ?_; rintro e w' ⟨rfl, rfl⟩))
 go_loop [3, 4] (fun n i => ∃ (pre suf : List Sec) (n' : Int), l = pre ++ suf ∧ i = .int .i64 (pre.length : Nat) ∧ n = .int .i64 n' ∧ 0 ≤ n' ∧ n' ≤ 20000 + pre.length * 281474976710664 ∧ n' + (suf.map fun s => up s.data.length).sum = secSize l)
  (fun _ i => l.length - (RowKit.intOf i).toNat)
 case atStart => exact ⟨[], l, _, rfl, rfl, rfl, by have := up_bd (16 + 12 * l.length); omega, by have := up_bd (16 + 12 * l.length); simp; omega, rfl⟩
 case round =>
  obtain ⟨pre, suf, n', hl', rfl, rfl, hn0, hn1, hsum⟩ := hrel
  cases suf with
  | cons x suf =>
   have hlt : pre.length < l.length := by rw [hl']; simp
   rw [hl'] at hv'
   obtain ⟨b, o, rfl, d1, v', d2, hv2⟩ := hv'.at
   obtain ⟨A', c', rfl, -, hxl, -⟩ := hv2.form
   replace d1 := d1.1
   have HL := hx hl'; clear hl'
   have HS := hx hsum; clear hsum
   obtain ⟨hu0, hu1⟩ := up_bd x.data.length
   go_wp2_with (first | (go_at_call 95; refine (ref15_up_any _ _ (by omega) (by omega)).mono ?_; rintro e w' ⟨rfl, rfl⟩))
   go_round
   case rel => exact ⟨pre ++ [x], suf, _, by simp [HL.out], by simp, rfl, by omega, by simp; omega, by have := HS.out; simp at this; omega⟩
   case measure => simp [RowKit.intOf]; omega
  | nil =>
   obtain rfl : l = pre := by simpa using hl'
   clear hl'
   have hlt : ¬ l.length < l.length := by omega
   have HS := hx hsum; clear hsum
   go_wp2
   go_ret
   exact ⟨ret_int (by have := HS.out; simp at this; omega), rfl⟩

set_option maxRecDepth 20000 in
set_option maxHeartbeats 400000 in
theorem ref15_number_any (v : Value) (l : List Int) (base n : Nat) (x : Int) (w : World) (hx0 : 0 ≤ x) (hx1 : x ≤ 1099511627776) (hn : n ≤ 8) (ho : AppB w base v l) (hB : base ≤ w.heap.size) (hL : l.length ≤ 100000000000000) :
  Calls Tryz.prog 93 #[v, .int .i64 x, .int .i64 n] w fun e w' => ∃ v' l', e = .returned v' ∧ Hx (l' = l ++ le n x) ∧ Hx (l'.length = l.length + n) ∧ AppB w' base v' l' ∧ (n ≠ 0 → OwnB w' base v' l') ∧ Grew w w' v v' := by
 go_enter Tryz.func93, Tryz.ntmps93
 go_wp2
 go_loopw [0, 1, 7] (fun s y i wr => ∃ (k : Nat) (y' : Int) (l' : List Int), k ≤ n ∧ i = .int .i64 k ∧ y = .int .i64 y' ∧ 0 ≤ y' ∧ y' ≤ 1099511627776 ∧ AppB wr base s l' ∧ (k ≠ 0 → OwnB wr base s l') ∧ l' ++ le (n - k) y' = l ++ le n x ∧ l'.length = l.length + k ∧ Grew w wr v s)
  (fun _ _ i _ => n - (RowKit.intOf i).toNat)
 case atStart => exact ⟨0, x, l, by omega, rfl, rfl, hx0, hx1, ho, fun h => absurd rfl h, rfl, rfl, Grew.refl _ _⟩
 case round =>
  obtain ⟨k, y', l', hk, rfl, rfl, hy0, hy1, ho', hok, hle, hl', hG⟩ := hrel
  have HE := hx hle; clear hle
  have HLn := hx hl'; clear hl'
  have hsz := hG.size
  by_cases hlt : k < n
  ·go_wp2_with (first | (at_builtin; refine wp_appF tyB encB_ok ho' (y' % 256) rfl rfl rfl rfl rfl (by omega) (by decide) (by have := HLn.out; omega) ?_; intro g cap w1 ho1 hg1 hat1 hbg1))
   have hG1 := hG.trans (Grew.mk1 (n := l'.length + 1) (cap := cap) hg1 hat1)
   clear ho' hG hg1 hok
   go_wp2
   go_roundw
   case rel => exact ⟨k + 1, y' / 256, l' ++ [y' % 256], by omega, by simp, rfl, by omega, by omega, .inl ho1, fun _ => ho1, by
    have := HE.out; rw [show n - k = (n - (k + 1)) + 1 by omega, le] at this; simpa using this, by simp [HLn.out]; omega, hG1⟩
   case measure => simp [RowKit.intOf]; omega
  ·obtain rfl : k = n := by omega
   obtain ⟨A, c, rfl⟩ := ho'.slice
   go_wp2
   go_ret
   have h : l' = l ++ le k x := by have := HE.out; simpa [le] using this
   exact ⟨_, l', rfl, ⟨h⟩, ⟨by rw [h]; simp [le_length]⟩, ho', hok, hG⟩

def vLen : Value → Nat | .slice _ n _ => n | _ => 0
def rowsOf : Int → List Sec → List Int
 | _, [] => []
 | at_, s :: l => le 4 s.kind ++ (le 4 at_ ++ (le 4 s.data.length ++ rowsOf (at_ + up s.data.length) l))
def pad8 (l : List Int) : List Int := l ++ List.replicate ((up l.length).toNat - l.length) 0
def headB (l : List Sec) : List Int := [83, 76, 67, 49] ++ (le 2 1 ++ (le 2 l.length ++ (le 4 (secSize l) ++ le 4 0)))
def boxOf (l : List Sec) : List Int := pad8 (headB l ++ rowsOf (up (16 + 12 * l.length)) l) ++ l.flatMap fun s => pad8 s.data
theorem pad8_length (l : List Int) : ((pad8 l).length : Int) = up l.length := by
 have := up_bd l.length
 simp [pad8]; omega
theorem pad8_done (l : List Int) (h : l.length % 8 = 0) : pad8 l = l := by
 have : (up l.length).toNat - l.length = 0 := by unfold up; omega
 simp [pad8, this]
theorem pad8_step (l : List Int) (h : l.length % 8 ≠ 0) : pad8 (l ++ [0]) = pad8 l := by
 have h1 : (up l.length).toNat - l.length = ((up (l ++ [0]).length).toNat - (l ++ [0]).length) + 1 := by simp; unfold up; omega
 unfold pad8
 rw [h1, List.replicate_succ, List.append_assoc]; rfl
theorem pad8_append (l d : List Int) (h : l.length % 8 = 0) : pad8 (l ++ d) = l ++ pad8 d := by
 have h1 : (up (l ++ d).length).toNat - (l ++ d).length = (up d.length).toNat - d.length := by simp; unfold up; omega
 unfold pad8
 rw [h1, List.append_assoc]

set_option maxRecDepth 20000 in
set_option maxHeartbeats 400000 in
theorem ref15_pad_any (v : Value) (l : List Int) (base : Nat) (w : World) (ho : OwnB w base v l) (hB : base ≤ w.heap.size) (hL : l.length ≤ 100000000000000) :
  Calls Tryz.prog 96 #[v] w fun e w' => ∃ v' l', e = .returned v' ∧ Hx (l' = pad8 l) ∧ OwnB w' base v' l' ∧ Grew w w' v v' := by
 go_enter Tryz.func96, Tryz.ntmps96
 go_wp2
 go_loopw [0] (fun s wr => ∃ (l' : List Int), OwnB wr base s l' ∧ pad8 l' = pad8 l ∧ l'.length ≤ l.length + 8 ∧ (l'.length : Int) ≤ up l.length ∧ Grew w wr v s)
  (fun s _ => (up l.length).toNat - vLen s)
 case atStart => exact ⟨l, ho, rfl, by omega, (up_bd _).1, Grew.refl _ _⟩
 case round =>
  obtain ⟨l', ho', hle, hl', hu, hG⟩ := hrel
  have HE := hx hle; clear hle
  have HU := hx hu; clear hu
  have hsz := hG.size
  obtain ⟨A, c, rfl⟩ := ho'.slice
  by_cases hm : l'.length % 8 = 0
  ·have hb : (((l'.length : Int) % 8) != 0) = false := by simp; omega
   go_wp2
   go_ret
   exact ⟨_, l', rfl, ⟨by rw [← HE.out, pad8_done _ hm]⟩, ho', hG⟩
  ·have hb : (((l'.length : Int) % 8) != 0) = true := by simp; omega
   go_wp2_with (first | (at_builtin; refine wp_app1 tyB encB_ok ho' 0 rfl rfl rfl rfl rfl (by omega) (by decide) (by omega) ?_; intro g cap w1 ho1 hg1 hat1 hbg1))
   have hG1 := hG.trans (Grew.mk1 (n := l'.length + 1) (cap := cap) hg1 hat1)
   clear ho' hG hg1
   go_roundw
   case rel => exact ⟨l' ++ [0], ho1, by rw [pad8_step _ hm]; exact HE.out, by
    have := HU.out; have := (up_bd l.length); simp; omega, by have := HU.out; simp; unfold up at *; omega, hG1⟩
   case measure => have := HU.out; simp [vLen]; unfold up at *; omega

theorem secSize_nil : secSize [] = 16 := rfl
theorem sum_nonneg (l : List Sec) : 0 ≤ (l.map fun s => up s.data.length).sum := by
 induction l with
 | nil => simp
 | cons s l ih => have := up_bd s.data.length; simp; omega
theorem secSize_ge (l : List Sec) : 0 ≤ secSize l := by
 have := sum_nonneg l; have := up_bd (16 + 12 * l.length); unfold secSize; omega
theorem secSize_mem (pre suf : List Sec) (s : Sec) : (s.data.length : Int) ≤ secSize (pre ++ s :: suf) := by
 have := sum_nonneg pre; have := sum_nonneg suf; have := up_bd s.data.length; have := up_bd (16 + 12 * (pre ++ s :: suf).length)
 unfold secSize; simp at *; omega

theorem Sl.src {w : World} {v : Value} {l : List Int} (h : IsB w v l) : Src w v l.length (l.flatMap fun x : Int => [Value.int .u8 x]) := by
 obtain ⟨A, c, rfl, h1, h2, hn, h4⟩ := h
 refine ⟨A, c, rfl, fun e => ⟨hn e, by have := hn e; omega⟩, fun j u hu => ?_⟩
 have e : (l.flatMap fun x : Int => [Value.int .u8 x]) = l.map (Value.int .u8) := flat1 _ _
 rw [e, List.getElem?_map, Option.map_eq_some_iff] at hu
 obtain ⟨x, hx, rfl⟩ := hu
 obtain ⟨b, o, hA, hE⟩ := h4 j x hx
 exact ⟨b, o, hA, by rw [Nat.mul_one] at hE; exact hE.1⟩
theorem OwnB.lit (W : World) (base : Nat) (cs : List Int) (hb : base ≤ W.heap.size) (hm : cs.length ≤ 1000000) :
  OwnB (W.alloc (.cells (cs.map (Value.int .u8)).toArray 5)) base (.slice (some ⟨W.heap.size, 0, none⟩) cs.length cs.length) cs := by
 have h := World.ownsRow_lit (base := base) (e := 5) (size := 1) W (cs.map (Value.int .u8)).toArray cs.length hb (by simp only [maxLen]; omega) (by simp)
 unfold OwnB Own
 have e : (cs.flatMap fun x : Int => [Value.int .u8 x]) = cs.map (Value.int .u8) := flat1 _ _
 rw [e]; simpa using h

end Go.Proofs.YtiaddncjghkajaaGreatDoor


set_option linter.unusedVariables false
set_option linter.unusedSimpArgs false
namespace Go.Proofs.YtiaddncjghkajaaGreatDoor
open Go.RowKit

set_option maxRecDepth 40000 in
set_option maxHeartbeats 1600000 in
theorem ref15_Write_any (v : Value) (l : List Sec) (w : World) (hv : IsSecs w v l) (hl : l.length ≤ 16) (hk : ∀ s ∈ l, 0 ≤ s.kind ∧ s.kind ≤ 65535) (hS : secSize l ≤ 1073741824) :
  Calls Tryz.prog 56 #[v] w fun e w' => ∃ v', e = .returned v' ∧ OwnB w' w.heap.size v' (boxOf l) ∧ Ext w w' := by
 obtain ⟨A, c, rfl, -, -, hv'⟩ := hv.form
 have hS0 := secSize_ge l
 have HS := hx hS; clear hS
 obtain ⟨W0, hW0⟩ : ∃ W0, W0 = w.alloc (.cells ([83, 76, 67, 49].map (Value.int .u8)).toArray 5 (4, 5)) := ⟨_, rfl⟩
 have e0 : Ext w W0 := by rw [hW0]; exact Ext.new w _
 have hz0 := e0.size
 have o0 : AppB W0 w.heap.size (.slice (some ⟨w.heap.size, 0, none⟩) 4 4) [83, 76, 67, 49] := .inr ⟨_, rfl, (fun h => by cases h), (fun b hb j u hu => by
  cases hb
  have h := World.news_of_block (w := W0) (B := w.heap.size) (cs := ([83, 76, 67, 49].map (Value.int .u8)).toArray) (t := 5) (fr := (4, 5)) (by rw [hW0]; exact heap_alloc_new w _) j u (by simpa using hu)
  exact h), fun k hk => by simp [Value.ownBlock] at hk; omega⟩
 have hcv := fun (w : World) (C : Array Value) (n c : Nat) => Lib.run_convert_bytes_const (P := Tryz.prog) w 23 5 C n c Tryz.underlying23 Tryz.underlying5
 go_enter Tryz.func56, Tryz.ntmps56
 go_wp2_with fail
 clear hcv
 rw [show w.alloc (.cells #[.int .u8 83, .int .u8 76, .int .u8 67, .int .u8 49] 5 (4, 5)) = W0 from hW0.symm]
 refine (ref15_number_any _ _ w.heap.size 2 1 _ (by omega) (by omega) (by omega) o0 hz0 (by simp)).mono ?_
 clear hW0
 rintro e w1 ⟨v1, L1, rfl, hL1, hn1, -, o1, g1⟩
 replace o1 := o1 (by decide)
 obtain ⟨A1, c1, rfl⟩ := o1.slice
 have e1 := e0.grew g1 o0.base_le
 clear g1
 go_wp2_with fail
 refine (ref15_number_any _ _ w.heap.size 2 l.length _ (by omega) (by omega) (by omega) (.inl o1) e1.size (by have := hn1.out; simp at this; omega)).mono ?_
 rintro e w2 ⟨v2, L2, rfl, hL2, hn2, -, o2, g2⟩
 replace o2 := o2 (by decide)
 obtain ⟨A2, c2, rfl⟩ := o2.slice
 have e2 := e1.grew g2 o1.base_le
 clear g2 o1 e1
 go_wp2_with fail
 refine (ref15_Size_any _ _ _ (by omega) (IsSecs.ext hv' e2)).mono ?_
 rintro e w2 ⟨rfl, rfl⟩
 go_wp2_with fail
 refine (ref15_number_any _ _ w.heap.size 4 (secSize l) _ (by omega) (by have := HS.out; omega) (by omega) (.inl o2) e2.size (by have := hn1.out; have := hn2.out; simp at *; omega)).mono ?_
 rintro e w3 ⟨v3, L3, rfl, hL3, hn3, -, o3, g3⟩
 replace o3 := o3 (by decide)
 obtain ⟨A3, c3, rfl⟩ := o3.slice
 have e3 := e2.grew g3 o2.base_le
 clear g3 o2 e2
 go_wp2_with fail
 refine (ref15_number_any _ _ w.heap.size 4 0 _ (by omega) (by omega) (by omega) (.inl o3) e3.size (by have := hn1.out; have := hn2.out; have := hn3.out; simp at *; omega)).mono ?_
 rintro e w4 ⟨v4, L4, rfl, hL4, hn4, -, o4, g4⟩
 replace o4 := o4 (by decide)
 obtain ⟨A4, c4, rfl⟩ := o4.slice
 have e4 := e3.grew g4 o3.base_le
 clear g4 o3 e3
 go_wp2_with (first | (go_at_call 95; refine (ref15_up_any _ _ (by omega) (by omega)).mono ?_; rintro e w' ⟨rfl, rfl⟩))
 have hL4' : Hx (L4 = headB l) := ⟨by rw [hL4.out, hL3.out, hL2.out, hL1.out]; simp [headB]⟩
 have hn4' : Hx (L4.length = 16) := ⟨by have := hn1.out; have := hn2.out; have := hn3.out; have := hn4.out; simp at *; omega⟩
 clear hL1 hL2 hL3 hL4 hn1 hn2 hn3 hn4
 have hR : ∃ R, R = headB l ++ rowsOf (up (16 + 12 * l.length)) l := ⟨_, rfl⟩
 obtain ⟨R, hR⟩ := hR
 have hu := up_bd (16 + 12 * l.length)
 have HR := hx hR; clear hR
 go_loopw [3, 4, 5] (fun s t i wr => ∃ (pre suf : List Sec) (l' : List Int) (at' : Int), l = pre ++ suf ∧ i = .int .i64 (pre.length : Nat) ∧ t = .int .i64 at' ∧ OwnB wr w.heap.size s l' ∧ l' ++ rowsOf at' suf = R ∧
   l'.length = 16 + 12 * pre.length ∧ 0 ≤ at' ∧ at' + (suf.map fun s => up s.data.length).sum = secSize l ∧ Ext w wr)
  (fun _ _ i _ => l.length - (RowKit.intOf i).toNat)
 case atStart => exact ⟨[], l, L4, _, rfl, rfl, rfl, o4, by rw [HR.out, hL4'.out], by simp [hn4'.out], by omega, rfl, e4⟩
 case round =>
  obtain ⟨pre, suf, l', at', hl', rfl, rfl, ho, hr, hln, ha0, hsum, he⟩ := hrel
  have HRR := hx hr; clear hr
  have HLN := hx hln; clear hln
  have HSum := hx hsum; clear hsum
  have hsz := he.size
  obtain ⟨A6, c6, rfl⟩ := ho.slice
  cases suf with
  | cons x suf =>
   have hlt : pre.length < l.length := by rw [hl']; simp
   have hkx := hk x (by rw [hl']; simp)
   have hsx := sum_nonneg suf
   have hux := up_bd x.data.length
   have hatb : at' ≤ 1073741824 := by have h1 := HSum.out; have h2 := HS.out; rw [List.map_cons, List.sum_cons] at h1; omega
   have hxd : (x.data.length : Int) ≤ 1073741824 := by have h1 := HSum.out; have h2 := HS.out; rw [List.map_cons, List.sum_cons] at h1; omega
   have hvx := hv'
   rw [hl'] at hvx
   obtain ⟨b, o, rfl, d1, v', d2, hv2⟩ := hvx.at
   obtain ⟨A', c', rfl, -, hxl, -⟩ := hv2.form
   replace d1 := d1.1
   have d1' := he.cell d1
   have HL := hx hl'; clear hl'
   clear hvx
   go_wp2_with fail
   refine (ref15_number_any _ _ w.heap.size 4 x.kind _ (by omega) (by omega) (by omega) (.inl ho) hsz (by have := HLN.out; omega)).mono ?_
   rintro e w5 ⟨v5, L5, rfl, hL5, hn5, -, o5, g5⟩
   replace o5 := o5 (by decide)
   obtain ⟨A5, c5, rfl⟩ := o5.slice
   have e5 := he.grew g5 ho.base_le
   clear g5 ho
   have hsz5 := e5.size
   go_wp2_with fail
   refine (ref15_number_any _ _ w.heap.size 4 at' _ (by omega) (by omega) (by omega) (.inl o5) hsz5 (by have := HLN.out; have := hn5.out; omega)).mono ?_
   rintro e w6 ⟨v6, L6, rfl, hL6, hn6, -, o6, g6⟩
   replace o6 := o6 (by decide)
   obtain ⟨A6, c6, rfl⟩ := o6.slice
   have e6 := e5.grew g6 o5.base_le
   clear g6 o5
   have hsz6 := e6.size
   have d2' := e6.cell d2
   go_wp2_with fail
   refine (ref15_number_any _ _ w.heap.size 4 x.data.length _ (by omega) (by omega) (by omega) (.inl o6) hsz6 (by have := HLN.out; have := hn5.out; have := hn6.out; omega)).mono ?_
   rintro e w7 ⟨v7, L7, rfl, hL7, hn7, -, o7, g7⟩
   replace o7 := o7 (by decide)
   obtain ⟨A7, c7, rfl⟩ := o7.slice
   have e7 := e6.grew g7 o6.base_le
   clear g7 o6 d2'
   have d2' := e7.cell d2
   go_wp2_with (first | (go_at_call 95; refine (ref15_up_any _ _ (by omega) (by omega)).mono ?_; rintro e w' ⟨rfl, rfl⟩))
   go_roundw
   case rel => exact ⟨pre ++ [x], suf, _, _, by simp [HL.out], by simp, rfl, o7, by rw [← HRR.out, hL7.out, hL6.out, hL5.out]; simp [rowsOf], by have := HLN.out; have := hn5.out; have := hn6.out; have := hn7.out; simp; omega, by omega, by have := HSum.out; simp at this; omega, e7⟩
   case measure => simp [RowKit.intOf]; omega
  | nil =>
   obtain rfl : l = pre := by simpa using hl'
   clear hl'
   have hlt : ¬ l.length < l.length := by omega
   go_wp2_with fail
   refine (ref15_pad_any _ _ w.heap.size _ ho hsz (by have := HLN.out; omega)).mono ?_
   rintro e w5 ⟨v5, L5, rfl, hL5, o5, g5⟩
   have e5 := he.grew g5 ho.base_le
   clear g5 ho
   go_wp2
   have hP : Hx (L5 ++ l.flatMap (fun s => pad8 s.data) = boxOf l) := ⟨by rw [hL5.out]; have h := HRR.out; simp only [rowsOf, List.append_nil] at h; rw [h, HR.out]; rfl⟩
   have hP8 : Hx (L5.length % 8 = 0) := ⟨by have h := pad8_length l'; rw [← hL5.out] at h; unfold up at h; omega⟩
   have hPb : Hx ((L5.length : Int) + (l.map fun s => up s.data.length).sum ≤ 10000000000) := ⟨by
    have h := pad8_length l'; rw [← hL5.out] at h; have := (up_bd l'.length).2; have h3 := HLN.out; have h4 := HSum.out; have h5 := HS.out; unfold secSize at h5; have := (up_bd (16 + 12 * l.length)).1; omega⟩
   clear hL5 HRR HLN HSum HR
   go_loopw [3, 6] (fun s i wr => ∃ (pre suf : List Sec) (l' : List Int), l = pre ++ suf ∧ i = .int .i64 (pre.length : Nat) ∧ OwnB wr w.heap.size s l' ∧ l' ++ suf.flatMap (fun s => pad8 s.data) = boxOf l ∧
     l'.length % 8 = 0 ∧ (l'.length : Int) + (suf.map fun s => up s.data.length).sum ≤ 10000000000 ∧ Ext w wr)
    (fun _ i _ => l.length - (RowKit.intOf i).toNat)
   case atStart => exact ⟨[], l, L5, rfl, rfl, o5, hP.out, hP8.out, hPb.out, e5⟩
   case round =>
    clear he o5 hP hP8 hPb e5
    obtain ⟨pre, suf, l', hl', rfl, ho, hr, hm8, hbd, he⟩ := hrel
    have HRR := hx hr; clear hr
    have HM := hx hm8; clear hm8
    have HB := hx hbd; clear hbd
    have hsz := he.size
    obtain ⟨A6, c6, rfl⟩ := ho.slice
    cases suf with
    | cons x suf =>
     have hlt : pre.length < l.length := by rw [hl']; simp
     have hsx := sum_nonneg suf
     have hux := up_bd x.data.length
     have hvx := hv'
     rw [hl'] at hvx
     obtain ⟨b, o, rfl, d1, v', d2, hv2⟩ := hvx.at
     have hsrc := Sl.src (IsB.ext hv2 he)
     obtain ⟨A', c', rfl, -, hxl, -⟩ := hv2.form
     replace d2 := he.cell d2
     clear d1
     have HL := hx hl'; clear hl'
     clear hvx
     have hb2 : Hx (l'.length + x.data.length ≤ 20000000000) := ⟨by have h := HB.out; simp at h; omega⟩
     go_wp2_with (at_builtin; refine wp_appS tyB encB_ok ho hsrc rfl rfl rfl rfl hsz (by have := hb2.out; omega) (by have := hb2.out; omega) ?_; intro v6 w6 o6 g6 a6)
     have e6 := he.grew (Grew.mkS g6 a6) ho.base_le
     clear g6 a6 ho hsrc
     have hsz6 := e6.size
     obtain ⟨A7, c7, rfl⟩ := o6.slice
     go_wp2_with fail
     refine (ref15_pad_any _ _ w.heap.size _ o6 hsz6 (by have := hb2.out; simp; omega)).mono ?_
     rintro e w7 ⟨v7, L7, rfl, hL7, o7, g7⟩
     have e7 := e6.grew g7 o6.base_le
     clear g7 o6
     go_wp2
     go_roundw
     case rel => exact ⟨pre ++ [x], suf, _, by simp [HL.out], by simp, o7, by rw [hL7.out, pad8_append _ _ HM.out, ← HRR.out]; simp, by
      have h := pad8_length (l' ++ x.data); rw [← hL7.out] at h; unfold up at h; omega, by
      have h := pad8_length (l' ++ x.data); rw [← hL7.out] at h; have h2 := HB.out; have h3 := HM.out; simp at h h2; unfold up at *; omega, e7⟩
     case measure => simp [RowKit.intOf]; omega
    | nil =>
     obtain rfl : l = pre := by simpa using hl'
     clear hl'
     have hlt : ¬ l.length < l.length := by omega
     go_wp2
     go_ret
     exact ⟨_, rfl, by have := HRR.out; simp at this; rw [← this]; exact ho, he⟩
end Go.Proofs.YtiaddncjghkajaaGreatDoor


set_option linter.unusedVariables false
set_option linter.unusedSimpArgs false
namespace Go.Proofs.YtiaddncjghkajaaGreatDoor
open Go.RowKit

def kindsOk : Int → List Sec → Bool
 | _, [] => true
 | last, s :: l => decide (last < s.kind ∧ s.kind ≤ 65535) && kindsOk s.kind l
def secErr (l : List Sec) : Int := if l.length > 16 ∨ secSize l > 1073741824 then 16 else if kindsOk 0 l then 0 else 4
theorem kindsOk_pos {last : Int} {l : List Sec} (h : kindsOk last l = true) (h0 : 0 ≤ last) : ∀ s ∈ l, 0 ≤ s.kind ∧ s.kind ≤ 65535 := by
 induction l generalizing last with
 | nil => intro s hs; cases hs
 | cons x l ih =>
  simp [kindsOk] at h
  intro s hs
  rcases List.mem_cons.1 hs with rfl | hs
  ·omega
  ·exact ih h.2 (by omega) s hs

set_option maxRecDepth 40000 in
set_option maxHeartbeats 800000 in
theorem box_check_any (v : Value) (l : List Sec) (w : World) (hl : l.length ≤ 1000) (hv : IsSecs w v l) :
  Calls Tryz.prog 89 #[v] w fun e w' => e = .returned (.int .i64 (secErr l)) ∧ Ext w w' := by
 obtain ⟨A, c, rfl, -, -, hv'⟩ := hv.form
 by_cases h16 : 16 < l.length
 ·have hd : Hx (secErr l = 16) := ⟨by simp [secErr]; intro h; omega⟩
  go_enter Tryz.func89, Tryz.ntmps89
  go_wp2
  go_ret
  exact ⟨ret_int hd.out.symm, Ext.refl _⟩
 ·by_cases hs : 1073741824 < secSize l
  ·have hd : Hx (secErr l = 16) := ⟨by simp [secErr]; intro h; omega⟩
   go_enter Tryz.func89, Tryz.ntmps89
   go_wp2_with (go_at_call 90; refine (box_Size_any _ l _ hl hv').mono ?_; rintro e w1 ⟨rfl, e1⟩)
   go_ret
   exact ⟨ret_int hd.out.symm, e1⟩
  ·have hd : Hx (secErr l = if kindsOk 0 l then 0 else 4) := ⟨by unfold secErr; rw [if_neg (by omega)]⟩
   go_enter Tryz.func89, Tryz.ntmps89
   go_wp2_with (go_at_call 90; refine (box_Size_any _ l _ hl hv').mono ?_; rintro e w1 ⟨rfl, e1⟩)
   go_loopw [3, 16] (fun n i wr => ∃ (pre suf : List Sec) (n' : Int), l = pre ++ suf ∧ i = .int .i64 (pre.length : Nat) ∧ n = .int .i64 n' ∧ kindsOk 0 l = kindsOk n' suf ∧ Ext w wr)
    (fun _ i _ => l.length - (RowKit.intOf i).toNat)
   case atStart => exact ⟨[], l, 0, rfl, rfl, rfl, rfl, e1⟩
   case round =>
    obtain ⟨pre, suf, n', hl', rfl, rfl, hkk, hb⟩ := hrel
    have HK := hx hkk; clear hkk
    cases suf with
    | cons x suf =>
     have hlt : pre.length < l.length := by rw [hl']; simp
     rw [hl'] at hv'
     obtain ⟨b, o, rfl, d1, v', d2, hv2⟩ := hv'.at
     obtain ⟨A', c', rfl, -, hxl, -⟩ := hv2.form
     replace d1 := hb.cell d1.1
     replace d2 := hb.cell d2
     have HL := hx hl'; clear hl'
     by_cases h1 : x.kind ≤ n'
     ·have hf : Hx (kindsOk 0 l = false) := ⟨by rw [HK.out]; simp [kindsOk]; intro h; omega⟩
      go_wp2
      go_ret
      exact ⟨ret_int (by rw [hd.out, hf.out]; rfl), hb.alloc _⟩
     ·by_cases h2 : 65535 < x.kind
      ·have hf : Hx (kindsOk 0 l = false) := ⟨by rw [HK.out]; simp [kindsOk]; intro h; omega⟩
       go_wp2
       go_ret
       exact ⟨ret_int (by rw [hd.out, hf.out]; rfl), hb.alloc _⟩
      ·go_wp2
       go_roundw
       case rel => exact ⟨pre ++ [x], suf, x.kind, by simp [HL.out], by simp, rfl, by rw [HK.out]; simp [kindsOk]; intro h; omega, hb.alloc _⟩
       case measure => simp [RowKit.intOf]; omega
    | nil =>
     obtain rfl : l = pre := by simpa using hl'
     clear hl'
     have hlt : ¬ l.length < l.length := by omega
     go_wp2
     go_ret
     exact ⟨ret_int (by rw [hd.out, HK.out]; rfl), hb⟩

set_option maxRecDepth 40000 in
set_option maxHeartbeats 800000 in
theorem ref15_Check_any (v : Value) (l : List Sec) (w : World) (hl : l.length ≤ 1000) (hv : IsSecs w v l) :
  Calls Tryz.prog 99 #[v] w fun e w' => e = .returned (.int .i64 (secErr l)) ∧ Ext w w' := by
 obtain ⟨A, c, rfl, -, -, hv'⟩ := hv.form
 by_cases h16 : 16 < l.length
 ·have hd : Hx (secErr l = 16) := ⟨by simp [secErr]; intro h; omega⟩
  go_enter Tryz.func99, Tryz.ntmps99
  go_wp2
  go_ret
  exact ⟨ret_int hd.out.symm, Ext.refl _⟩
 ·by_cases hs : 1073741824 < secSize l
  ·have hd : Hx (secErr l = 16) := ⟨by simp [secErr]; intro h; omega⟩
   go_enter Tryz.func99, Tryz.ntmps99
   go_wp2_with (go_at_call 94; refine (ref15_Size_any _ l _ hl hv').mono ?_; rintro e w1 ⟨rfl, rfl⟩)
   go_ret
   exact ⟨ret_int hd.out.symm, Ext.refl _⟩
  ·have hd : Hx (secErr l = if kindsOk 0 l then 0 else 4) := ⟨by unfold secErr; rw [if_neg (by omega)]⟩
   go_enter Tryz.func99, Tryz.ntmps99
   go_wp2_with (go_at_call 94; refine (ref15_Size_any _ l _ hl hv').mono ?_; rintro e w1 ⟨rfl, rfl⟩)
   go_loopw [3] (fun i wr => ∃ (pre suf : List Sec) (n' : Int), l = pre ++ suf ∧ i = .int .i64 (pre.length : Nat) ∧ 0 ≤ n' ∧ (∀ j, pre.length = j + 1 → (pre[j]?).map Sec.kind = some n') ∧ (pre = [] → n' = 0) ∧ kindsOk 0 l = kindsOk n' suf ∧ Ext w wr)
    (fun i _ => l.length - (RowKit.intOf i).toNat)
   case atStart => exact ⟨[], l, 0, rfl, rfl, by omega, fun j h => by simp at h, fun _ => rfl, rfl, Ext.refl _⟩
   case round =>
    obtain ⟨pre, suf, n', hl', rfl, hn0, hlast, hfirst, hkk, hb⟩ := hrel
    have HK := hx hkk; clear hkk
    cases suf with
    | cons x suf =>
     have hlt : pre.length < l.length := by rw [hl']; simp
     have hvx := hv'
     rw [hl'] at hvx
     obtain ⟨b, o, rfl, d1, v', d2, hv2⟩ := hvx.at
     replace d1 := hb.cell d1.1
     clear d2
     have HL := hx hl'
     have HF := hx hlast
     have HF0 := hx hfirst
     clear hl' hlast hfirst
     obtain ⟨k, hk⟩ : ∃ k, pre.length = k := ⟨_, rfl⟩
     have hlk : k < l.length := by omega
     have hl2 := hx hl
     rw [hk] at d1 ⊢
     have HK2 := hx hk; clear hk hlt hvx
     have i0 : (0 : Int) ≤ (k : Int) := by omega
     have i1 : (k : Int) < (l.length : Int) := by omega
     by_cases h1 : x.kind < 1
     ·have hf : Hx (kindsOk 0 l = false) := ⟨by rw [HK.out]; simp [kindsOk]; intro h; omega⟩
      have b1 : decide (x.kind < 1) = true := by simpa using h1
      clear hv'
      go_wp2
      go_quiet (fail)
      go_wp2
      go_ret
      exact ⟨ret_int (by rw [hd.out, hf.out]; rfl), hb.drewN _⟩
     ·have b1 : decide (x.kind < 1) = false := by simpa using h1
      by_cases h2 : 65535 < x.kind
      ·have hf : Hx (kindsOk 0 l = false) := ⟨by rw [HK.out]; simp [kindsOk]; intro h; omega⟩
       have b2 : decide (65535 < x.kind) = true := by simpa using h2
       clear hv'
       go_wp2
       go_quiet (fail)
       go_wp2
       go_ret
       exact ⟨ret_int (by rw [hd.out, hf.out]; rfl), hb.drewN _⟩
      ·have b2 : decide (65535 < x.kind) = false := by simpa using h2
       cases k with
       | zero =>
        have hn' : n' = 0 := HF0.out (List.eq_nil_of_length_eq_zero HK2.out)
        have hkk : Hx (kindsOk n' (x :: suf) = kindsOk x.kind suf) := ⟨by simp [kindsOk]; intro h; omega⟩
        clear hv' hn'
        simp only [Nat.zero_mul, Nat.add_zero, Int.ofNat_zero] at d1 ⊢
        go_wp2
        go_quiet (fail)
        go_wp2
        go_roundw
        case rel => exact ⟨pre ++ [x], suf, x.kind, by simp [HL.out], by simp [HK2.out], by omega, fun j hj => by simp at hj; subst hj; simp, fun h => by simp at h, by rw [HK.out, hkk.out], hb.drewN _⟩
        case measure => simp [RowKit.intOf]; omega
       | succ k =>
        have hy := HF.out k HK2.out
        rw [Option.map_eq_some_iff] at hy
        obtain ⟨y, hy, hyk⟩ := hy
        obtain ⟨b2, o2, hb2, dy, -⟩ := hv'.get (i := k) (x := y) (by
         have h : (pre ++ x :: suf)[k]? = some y := by rw [List.getElem?_append_left (by rw [HK2.out]; omega)]; exact hy
         rw [HL.out]; exact h)
        cases hb2
        replace dy := hb.cell dy.1
        rw [hyk] at dy
        clear hv' hy hyk
        have i2 : (0 : Int) ≤ (k : Int) := by omega
        by_cases h3 : x.kind ≤ n'
        ·have hf : Hx (kindsOk 0 l = false) := ⟨by rw [HK.out]; simp [kindsOk]; intro h; omega⟩
         have b3 : decide (x.kind ≤ n') = true := by simpa using h3
         go_wp2
         go_quiet (fail)
         go_wp2
         go_ret
         exact ⟨ret_int (by rw [hd.out, hf.out]; rfl), hb.drewN _⟩
        ·have hkk : Hx (kindsOk n' (x :: suf) = kindsOk x.kind suf) := ⟨by simp [kindsOk]; intro h; omega⟩
         have b3 : decide (x.kind ≤ n') = false := by simpa using h3
         go_wp2
         go_quiet (fail)
         go_wp2
         go_roundw
         case rel => exact ⟨pre ++ [x], suf, x.kind, by simp [HL.out], by simp [HK2.out], by omega, fun j hj => by simp at hj; subst hj; simp, fun h => by simp at h, by rw [HK.out, hkk.out], hb.drewN _⟩
         case measure => simp [RowKit.intOf]; omega
    | nil =>
     obtain rfl : l = pre := by simpa using hl'
     clear hl'
     have hlt : ¬ l.length < l.length := by omega
     have HF := hx hlast; clear hlast
     have HF0 := hx hfirst; clear hfirst
     go_wp2
     go_ret
     exact ⟨ret_int (by rw [hd.out, HK.out]; rfl), hb⟩
end Go.Proofs.YtiaddncjghkajaaGreatDoor
