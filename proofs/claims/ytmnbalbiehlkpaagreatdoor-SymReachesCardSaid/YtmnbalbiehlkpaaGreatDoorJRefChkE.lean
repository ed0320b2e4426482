/- The layer insn, the reference: Check, its cases joined. -/
import Derived.Test.YtmnbalbiehlkpaaGreatDoorJRefChkB
import Derived.Test.YtmnbalbiehlkpaaGreatDoorJRefChkC
import Derived.Test.YtmnbalbiehlkpaaGreatDoorJRefChkD
import Derived.Test.YtmnbalbiehlkpaaGreatDoorJMemA
import Derived.Test.YtmnbalbiehlkpaaGreatDoorJDec
import Derived.Test.YtmnbalbiehlkpaaGreatDoorJTab
import Derived.RangeFuncNested
import Derived.RangeFuncBound
import Derived.RangeFuncCalls
import Derived.RangeFuncLeaves
import Derived.RangeFuncBox
import Derived.Shelf.Abstract
import Derived.Shelf.RegionOpen
import Derived.OwnWalkIn
import Derived.TacticsInMore
import Derived.LoopNIn
import Derived.LoopIn
import Derived.OrdersHeld
import Derived.Lib.SmallJoins
import Derived.Lib.AtoiAllCases
import Derived.Deep.QuietTactic
import Derived.BigQuiet
namespace Go.Proofs.YtmnbalbiehlkpaaGreatDoor
open Go.RowKit
theorem ref04Check_any (x : Ins) (w : World) (hx0 : x.Ok) : Calls Tryz.prog 80 #[x.v] w fun e w' => e = .returned (.int .i64 (insE x)) ∧ Ext w w' := by
 by_cases h : x.reg = true
 ·by_cases h0 : formN x.op = 0
  ·exact ref04Check_B x w hx0 ⟨h, h0⟩
  ·by_cases h4 : formN x.op = 4
   ·exact ref04Check_C x w hx0 ⟨h, h4⟩
   ·exact ref04Check_D x w hx0 ⟨h, h0, h4⟩
 ·exact ref04Check_A x w hx0 (by simpa using h)
end Go.Proofs.YtmnbalbiehlkpaaGreatDoor


set_option linter.unusedVariables false
set_option linter.unusedSimpArgs false
namespace Go.Proofs.YtmnbalbiehlkpaaGreatDoor
open Go.RowKit

end Go.Proofs.YtmnbalbiehlkpaaGreatDoor


set_option linter.unusedVariables false
set_option linter.unusedSimpArgs false
namespace Go.Proofs.YtmnbalbiehlkpaaGreatDoor
open Go.RowKit Go.Lib Go.Shelf Go.Proofs
attribute [local go_sem] Oper.semAt_some

def KpT (n₀ B : Nat) (W W' : World) : Prop := Below n₀ W W' ∧ W'.heap[B]? = W.heap[B]?
theorem KpT.refl (n₀ B : Nat) (W : World) : KpT n₀ B W W := ⟨Below.refl _ _, rfl⟩
theorem KpT.trans {n₀ B : Nat} {W W1 W2 : World} (h : KpT n₀ B W W1) (k : KpT n₀ B W1 W2) : KpT n₀ B W W2 := ⟨h.1.trans k.1, k.2.trans h.2⟩

end Go.Proofs.YtmnbalbiehlkpaaGreatDoor


set_option linter.unusedVariables false
set_option linter.unusedSimpArgs false
namespace Go.Proofs.YtmnbalbiehlkpaaGreatDoor
open Go.RowKit Go.Lib Go.Shelf Go.Proofs

/-- From one world to another only rows of some types have turned. -/
structure Mid (B : Nat) (W X : World) : Prop where
 box : ∀ b t v, Boxed W b t v → t ≠ 9 → t ≠ 3 → Boxed X b t v
 ko : KeepsOthers W X
 bel : Below B W X
theorem Mid.refl (B : Nat) (W : World) : Mid B W W := ⟨fun _ _ _ h _ _ => h, KeepsOthers.refl _, Below.refl _ _⟩
theorem Mid.drew {B : Nat} {W X : World} (h : Mid B W X) : Mid B W X.drew := ⟨h.box, h.ko.trans (KeepsOthers.drew X), h.bel.drew⟩
theorem Mid.alloc {B : Nat} {W X : World} (h : Mid B W X) (hB : B ≤ X.heap.size) (o : Obj) : Mid B W (X.alloc o) := ⟨fun b t v hb h1 h2 => (h.box b t v hb h1 h2).alloc o, h.ko.trans (KeepsOthers.alloc X o), h.bel.alloc hB o⟩
end Go.Proofs.YtmnbalbiehlkpaaGreatDoor


set_option linter.unusedVariables false
set_option linter.unusedSimpArgs false
namespace Go.Proofs.YtmnbalbiehlkpaaGreatDoor
open Go.RowKit Go.Lib

def wLen (l : List UInt8) : Nat := (l.takeWhile fun b => inW b.toNat).length
theorem wLen_stop {l : List UInt8} {p : Nat} {b : UInt8} (h : l[p]? = some b) (hw : inW b.toNat = false) : wLen (l.drop p) = 0 := by
 obtain ⟨hp, hb⟩ := List.getElem?_eq_some_iff.1 h
 rw [List.drop_eq_getElem_cons hp, hb]
 simp [wLen, List.takeWhile_cons, hw]
theorem wLen_go {l : List UInt8} {p : Nat} {b : UInt8} (h : l[p]? = some b) (hw : inW b.toNat = true) : wLen (l.drop p) = wLen (l.drop (p + 1)) + 1 := by
 obtain ⟨hp, hb⟩ := List.getElem?_eq_some_iff.1 h
 rw [List.drop_eq_getElem_cons hp, hb]
 simp [wLen, List.takeWhile_cons, hw]
theorem str_at {s : ByteArray} {p : Nat} (h : p < s.size) : s.data.toList[p]? = some (s[p]'h) := by
 have hp : p < s.data.toList.length := by simpa using h
 rw [List.getElem?_eq_getElem hp]
 rfl

set_option maxRecDepth 20000 in
set_option maxHeartbeats 1000000 in
theorem ident_Word_any (s : ByteArray) (w : World) (hs : s.size ≤ 281474976710656) (hG : GlobP w) :
  Calls Tryz.prog 212 #[.string s] w fun e w' => e = .returned (.int .i64 (wLen s.data.toList)) ∧ Ext w w' := by
 have HG := hx hG
 clear hG
 go_enter Tryz.func212, Tryz.ntmps212
 go_wp2
 go_loopw [3] (fun _ wr => ∃ p, wr = w.iter s p ∧ p ≤ s.size ∧ wLen s.data.toList = p + wLen (s.data.toList.drop p)) (fun _ wr => s.size - wr.iterPos w.heap.size)
 case atStart => exact ⟨0, rfl, by omega, by simp⟩
 case round =>
  obtain ⟨p, rfl, hp, hl⟩ := hrel
  have HL := hx hl
  clear hl
  have hE : Ext w (w.iter s p) := Ext.new _ _
  by_cases hlt : p < s.size
  ·have hb := hx (str_at hlt)
   have hnx := fun ty => run_next_any (P := Tryz.prog) w s p ty hlt
   by_cases ha : (s[p]'hlt).toNat < 128
   ·have hd := decode_ascii s p hlt ha
    rw [hd] at hnx
    clear hd
    generalize (s[p]'hlt) = b at *
    have hc := fun p' => inWord_any b.toNat (w.iter s p') (by omega) (HG.out.ext (Ext.new _ _))
    have HC := hx hc
    clear hc
    cases hi : inW b.toNat with
    | true =>
     have hg := hx (wLen_go hb.out hi)
     rw [hi] at HC
     clear hi
     go_wp2_with (first | (go_at_call 252; refine (HC.out _).mono ?_; rintro e w' ⟨rfl, rfl⟩))
     go_roundw
     case rel => exact ⟨p + 1, rfl, by omega, by rw [HL.out, hg.out]; omega⟩
     case measure => simp; omega
    | false =>
     have hg := hx (wLen_stop hb.out hi)
     rw [hi] at HC
     clear hi
     go_wp2_with (first | (go_at_call 252; refine (HC.out _).mono ?_; rintro e w' ⟨rfl, rfl⟩))
     go_ret
     exact ⟨ret_int (by rw [HL.out, hg.out]; simp), Ext.new _ _⟩
   ·have hd := decode_high s p hlt (by omega)
    have hd2 := decode_le s p
    have hi : inW (s[p]'hlt).toNat = false := by unfold inW; simp; omega
    have hg := hx (wLen_stop hb.out hi)
    have hi2 : inW (Utf8.decode s p).1 = false := by unfold inW; simp; omega
    generalize Utf8.decode s p = D at *
    obtain ⟨c, n⟩ := D
    have hc := fun p' => inWord_any c (w.iter s p') (by simpa using hd2) (HG.out.ext (Ext.new _ _))
    simp only at hi2
    rw [hi2] at hc
    have HC := hx hc
    clear hc hi hi2 hd hd2
    go_wp2_with (first | (go_at_call 252; refine (HC.out _).mono ?_; rintro e w' ⟨rfl, rfl⟩))
    go_ret
    exact ⟨ret_int (by rw [HL.out, hg.out]; simp), Ext.new _ _⟩
  ·obtain rfl : p = s.size := by omega
   have hnx := fun ty => run_next_end (P := Tryz.prog) w s s.size ty hlt
   go_wp2
   go_ret
   exact ⟨ret_int (by rw [HL.out, List.drop_eq_nil_of_le (by simp)]; simp [wLen]), Ext.new _ _⟩

set_option maxRecDepth 20000 in
set_option maxHeartbeats 1000000 in
theorem ref02_in_any (c : Int) (w : World) (h0 : 0 ≤ c) (h1 : c < 256) :
  Calls Tryz.prog 140 #[.int .u8 c] w fun e w' => e = .returned (.bool (inW c)) ∧ w' = w := by
 obtain ⟨B, hB⟩ : ∃ B, B = inW c := ⟨_, rfl⟩
 have HB := hx hB
 rw [← hB]
 clear hB
 by_cases z1 : c = 95
 ·subst z1
  go_enter Tryz.func140, Tryz.ntmps140
  go_wp2
  go_ret
  exact ⟨ret_bool (by rw [HB.out]; rfl), rfl⟩
 by_cases z2 : c = 46
 ·subst z2
  go_enter Tryz.func140, Tryz.ntmps140
  go_wp2
  go_ret
  exact ⟨ret_bool (by rw [HB.out]; rfl), rfl⟩
 have e1 : (c == 95) = false := beq_eq_false_iff_ne.2 z1
 have e2 : (c == 46) = false := beq_eq_false_iff_ne.2 z2
 by_cases k1 : 97 ≤ c
 ·by_cases k2 : c ≤ 122
  ·go_enter Tryz.func140, Tryz.ntmps140
   go_wp2
   go_ret
   exact ⟨ret_bool (by rw [HB.out]; unfold inW; simp; omega), rfl⟩
  ·go_enter Tryz.func140, Tryz.ntmps140
   go_wp2
   go_ret
   exact ⟨ret_bool (by rw [HB.out]; unfold inW; simp only [← Bool.decide_or, ← Bool.decide_and, decide_eq_decide]; omega), rfl⟩
 ·by_cases k3 : 65 ≤ c
  ·by_cases k4 : c ≤ 90
   ·go_enter Tryz.func140, Tryz.ntmps140
    go_wp2
    go_ret
    exact ⟨ret_bool (by rw [HB.out]; unfold inW; simp; omega), rfl⟩
   ·go_enter Tryz.func140, Tryz.ntmps140
    go_wp2
    go_ret
    exact ⟨ret_bool (by rw [HB.out]; unfold inW; simp only [← Bool.decide_or, ← Bool.decide_and, decide_eq_decide]; omega), rfl⟩
  ·by_cases k5 : 48 ≤ c
   ·by_cases k6 : c ≤ 57
    ·go_enter Tryz.func140, Tryz.ntmps140
     go_wp2
     go_ret
     exact ⟨ret_bool (by rw [HB.out]; unfold inW; simp; omega), rfl⟩
    ·go_enter Tryz.func140, Tryz.ntmps140
     go_wp2
     go_ret
     exact ⟨ret_bool (by rw [HB.out]; unfold inW; simp; omega), rfl⟩
   ·go_enter Tryz.func140, Tryz.ntmps140
    go_wp2
    go_ret
    exact ⟨ret_bool (by rw [HB.out]; unfold inW; simp; omega), rfl⟩

set_option maxRecDepth 20000 in
set_option maxHeartbeats 1000000 in
theorem ref02_Word_any (s : ByteArray) (w : World) (hs : s.size ≤ 281474976710656) :
  Calls Tryz.prog 79 #[.string s] w fun e w' => e = .returned (.int .i64 (wLen s.data.toList)) ∧ w' = w := by
 go_enter Tryz.func79, Tryz.ntmps79
 go_wp2
 go_loop [3] (fun i => ∃ p : Nat, i = .int .i64 p ∧ p ≤ s.size ∧ wLen s.data.toList = p + wLen (s.data.toList.drop p)) (fun i => s.size - (RowKit.intOf i).toNat)
 case atStart => exact ⟨0, rfl, by omega, by simp⟩
 case round =>
  obtain ⟨p, rfl, hp, hl⟩ := hrel
  have HL := hx hl
  clear hl
  by_cases hlt : p < s.size
  ·have hb := hx (str_at hlt)
   have hc := fun w => ref02_in_any ((s[p]'hlt).toNat : Int) w (by omega) (by have := (s[p]'hlt).toNat_lt; omega)
   have HC := hx hc
   clear hc
   cases hi : inW (s[p]'hlt).toNat with
   | true =>
    have hg := hx (wLen_go hb.out hi)
    rw [hi] at HC
    clear hi
    go_wp2_with (first | (go_at_call 140; refine (HC.out _).mono ?_; rintro e w' ⟨rfl, rfl⟩))
    go_round
    case rel => exact ⟨p + 1, by simp, by omega, by rw [HL.out, hg.out]; omega⟩
    case measure => simp [RowKit.intOf]; omega
   | false =>
    have hg := hx (wLen_stop hb.out hi)
    rw [hi] at HC
    clear hi
    go_wp2_with (first | (go_at_call 140; refine (HC.out _).mono ?_; rintro e w' ⟨rfl, rfl⟩))
    go_ret
    exact ⟨ret_int (by rw [HL.out, hg.out]; simp), rfl⟩
  ·obtain rfl : p = s.size := by omega
   go_wp2
   go_ret
   exact ⟨ret_int (by rw [HL.out, List.drop_eq_nil_of_le (by simp)]; simp [wLen]), rfl⟩
end Go.Proofs.YtmnbalbiehlkpaaGreatDoor


set_option linter.unusedVariables false
set_option linter.unusedSimpArgs false
namespace Go.Proofs.YtmnbalbiehlkpaaGreatDoor
open Go.RowKit Go.Lib

def ddN (u : Nat) : List UInt8 := if u = 0 then [] else Lib.decDigits u
theorem dec_step (u : Nat) : Lib.decDigits u = ddN (u / 10) ++ [UInt8.ofNat (48 + u % 10)] := by
 unfold ddN
 by_cases h : u < 10
 ·rw [Lib.decDigits_one h, if_pos (by omega), Nat.mod_eq_of_lt h]; rfl
 ·rw [if_neg (by omega)]
  conv => lhs; rw [Lib.decDigits, dif_neg h]
def digs : ByteArray := ⟨#[48, 49, 50, 51, 52, 53, 54, 55, 56, 57]⟩
theorem dig_at (d : Nat) (h : d < 10) : digs.extract d (d + 1) = ⟨#[UInt8.ofNat (48 + d)]⟩ := by
 have : ∀ d : Fin 10, digs.extract d.val (d.val + 1) = ⟨#[UInt8.ofNat (48 + d.val)]⟩ := by decide +kernel
 exact this ⟨d, h⟩
def strL (l : List UInt8) : ByteArray := ⟨l.toArray⟩
theorem strL_cons (c : UInt8) (l : List UInt8) : (⟨#[c]⟩ : ByteArray) ++ strL l = strL (c :: l) := by
 apply ByteArray.ext
 apply Array.ext'
 rw [ByteArray.toList_data_append]
 simp [strL]
theorem strL_size (l : List UInt8) : (strL l).size = l.length := by simp [strL, ByteArray.size]
theorem strL_ne {l : List UInt8} (h : l ≠ []) : (strL l).toList.isEmpty = false := toList_ne (by rw [strL_size]; exact fun e => h (List.eq_nil_of_length_eq_zero e))

def emp : Value → Nat | .string b => if b.size = 0 then 1 else 0 | _ => 0
theorem emp_strL (l : List UInt8) : emp (.string (strL l)) = if l.length = 0 then 1 else 0 := by simp [emp, strL_size]
theorem slice_dig (w : World) (d : Nat) (h : d < 10) : (Instr.slice 9 (.string ⟨#[48, 49, 50, 51, 52, 53, 54, 55, 56, 57]⟩) (some (.int .u64 (d : Int))) (some (.int .u64 ((d : Int) + 1))) none).run Tryz.prog w = .ok (.string ⟨#[UInt8.ofNat (48 + d)]⟩) w := by
 have hd := dig_at d h
 unfold digs at hd
 have hsz : (⟨#[48, 49, 50, 51, 52, 53, 54, 55, 56, 57]⟩ : ByteArray).size = 10 := rfl
 have e0 : (0 : Int) ≤ (d : Int) := by omega
 have e1 : (d : Int) ≤ (d : Int) + 1 := by omega
 have e2 : ((d : Int) + 1).toNat = d + 1 := by omega
 have e3 : (0 : Int) ≤ (d : Int) + 1 ∧ (d : Int) + 1 ≤ 10 := by omega
 simp [Instr.slice, run_underlying Tryz.underlying9, Instr.sliceBounds, Instr.sliceBound, asIntOf, hsz, e2, e3, e0, hd]
theorem pow_len {u k : Nat} (h : u * 10 ^ k ≤ 9223372036854775807) (hu : 0 < u) : k ≤ 18 := by
 refine Nat.le_of_lt_succ (Nat.lt_of_not_le fun hk => ?_)
 have h1 : 10 ^ 19 ≤ 10 ^ k := Nat.pow_le_pow_right (by decide) hk
 have h2 : 1 * 10 ^ k ≤ u * 10 ^ k := Nat.mul_le_mul_right _ hu
 have h3 : (10 : Nat) ^ 19 = 10000000000000000000 := by decide
 omega
theorem pow_step {u k : Nat} (h : u * 10 ^ k ≤ 9223372036854775807) : u / 10 * 10 ^ (k + 1) ≤ 9223372036854775807 := by
 have h1 : u / 10 * 10 ≤ u := Nat.div_mul_le_self u 10
 have h2 : u / 10 * 10 * 10 ^ k ≤ u * 10 ^ k := Nat.mul_le_mul_right _ h1
 have h3 : u / 10 * 10 ^ (k + 1) = u / 10 * 10 * 10 ^ k := by rw [Nat.pow_succ, Nat.mul_comm (10 ^ k) 10, Nat.mul_assoc]
 omega
set_option maxRecDepth 20000 in
set_option maxHeartbeats 1000000 in
theorem ref01_Format_nat (n : Nat) (w : World) (hn : n ≤ 9223372036854775807) :
  Calls Tryz.prog 193 #[.int .i64 n] w fun e w' => e = .returned (.string (strL (Lib.decDigits n))) ∧ w' = w := by
 go_enter Tryz.func193, Tryz.ntmps193
 go_wp2
 go_loop [4, 5] (fun r s => ∃ (u : Nat) (l : List UInt8), r = .int .u64 u ∧ s = .string (strL l) ∧ u ≤ 9223372036854775807 ∧ l.length ≤ 20 ∧ Hx (u * 10 ^ l.length ≤ 9223372036854775807) ∧ ((l = [] ∧ u = n) ∨ (l ≠ [] ∧ ddN u ++ l = Lib.decDigits n))) (fun r s => 2 * (RowKit.intOf r).toNat + emp s)
 case atStart => exact ⟨n, [], rfl, rfl, hn, by simp, ⟨by simpa using hn⟩, .inl ⟨rfl, rfl⟩⟩
 case round =>
  obtain ⟨u, l, rfl, rfl, hu, hll, hpw, hr⟩ := hrel
  have HR := hx hr
  clear hr
  have hd := slice_dig w (u % 10) (by omega)
  rw [Int.natCast_emod] at hd
  simp only [Int.cast_ofNat_Int] at hd
  have hds := hx (dec_step u)
  have hcc := strL_cons (UInt8.ofNat (48 + u % 10)) l
  have hls := strL_size l
  have hc1 : (⟨#[UInt8.ofNat (48 + u % 10)]⟩ : ByteArray).size = 1 := rfl
  have hsm : ¬ 9223372036854775807 < (⟨#[UInt8.ofNat (48 + u % 10)]⟩ : ByteArray).size + (strL l).size := by rw [hc1, hls]; omega
  have HCC := hx hcc
  by_cases hu0 : 0 < u
  ·have hl18 := pow_len hpw.out hu0
   clear hcc hls hc1
   generalize hS : strL l = S at *
   generalize hC : (⟨#[UInt8.ofNat (48 + u % 10)]⟩ : ByteArray) = C at *
   have HS := hx hS
   clear hS hC
   go_wp2
   go_round
   case rel =>
    refine ⟨u / 10, UInt8.ofNat (48 + u % 10) :: l, by simp, by rw [HCC.out], by omega, by simp; omega, ⟨pow_step hpw.out⟩, .inr ⟨by simp, ?_⟩⟩
    rcases HR.out with ⟨rfl, rfl⟩ | ⟨hne, h⟩
    ·rw [hds.out]
    ·rw [← h, show ddN u = Lib.decDigits u from if_neg (by omega), hds.out]; simp
   case measure =>
    rw [HCC.out, emp_strL, ← HS.out, emp_strL]
    simp [RowKit.intOf]; split <;> omega
  ·obtain rfl : u = 0 := by omega
   cases l with
   | nil =>
    have hn0 : n = 0 := by rcases HR.out with ⟨_, h⟩ | ⟨h, _⟩ <;> simp_all
    have hem : (strL []).toList.isEmpty = true := by rw [Go.ByteArray.toList_eq]; rfl
    have hsz : ¬ 9223372036854775807 < 1 + (strL []).size := by rw [strL_size]; simp
    have hx1 := hx (show (⟨#[48, 49, 50, 51, 52, 53, 54, 55, 56, 57]⟩ : ByteArray).extract 0 1 ++ strL [] = strL [48] from by
     rw [show (⟨#[48, 49, 50, 51, 52, 53, 54, 55, 56, 57]⟩ : ByteArray).extract 0 1 = ⟨#[48]⟩ from dig_at 0 (by decide)]; exact strL_cons _ _)
    generalize hS : strL [] = S at *
    have HS := hx hS
    clear hS hcc hls hc1 hd hsm HCC
    go_wp2
    go_round
    case rel => exact ⟨0, [48], by simp, by rw [hx1.out], by omega, by simp, ⟨by simp⟩, .inr ⟨by simp, by rw [hn0, dec_step 0]; rfl⟩⟩
    case measure => rw [hx1.out, emp_strL, ← HS.out, emp_strL]; simp [RowKit.intOf]
   | cons c l =>
    have hd2 : strL (c :: l) = strL (Lib.decDigits n) := by rcases HR.out with ⟨h, _⟩ | ⟨_, h⟩ <;> simp_all [ddN]
    have hem := strL_ne (l := c :: l) (by simp)
    have HD := hx hd2
    clear hd2 hcc hls hc1 hd
    generalize hS : strL (c :: l) = S at *
    clear hS
    go_wp2
    go_ret
    exact ⟨ret_str HD.out, rfl⟩
end Go.Proofs.YtmnbalbiehlkpaaGreatDoor


set_option linter.unusedVariables false
set_option linter.unusedSimpArgs false
namespace Go.Proofs.YtmnbalbiehlkpaaGreatDoor
open Go.RowKit Go.Lib

def nameOf (n : Int) : ByteArray := if 0 ≤ n ∧ n ≤ 10 then strL (114 :: Lib.decDigits n.toNat) else ⟨#[]⟩
theorem nameOf_in {n : Nat} (h : n ≤ 10) : nameOf n = strL (114 :: Lib.decDigits n) := by unfold nameOf; rw [if_pos (by omega)]; rfl
theorem nameOf_out {n : Int} (h : ¬ (0 ≤ n ∧ n ≤ 10)) : nameOf n = ⟨#[]⟩ := by unfold nameOf; rw [if_neg h]
theorem dec_len {n : Nat} (h : n ≤ 10) : (Lib.decDigits n).length ≤ 2 := by
 by_cases h1 : n < 10
 ·rw [Lib.decDigits_one h1]; simp
 ·rw [Lib.decDigits_two h1 (by omega)]; simp
set_option maxRecDepth 20000 in
set_option maxHeartbeats 1000000 in
theorem ident_Name_any (n : Int) (w : World) (h0 : -9223372036854775808 ≤ n) (h1 : n ≤ 9223372036854775807) :
  Calls Tryz.prog 254 #[.int .i64 n] w fun e w' => e = .returned (.string (nameOf n)) ∧ w' = w := by
 by_cases hin : 0 ≤ n ∧ n ≤ 10
 ·obtain ⟨k, rfl⟩ := Int.eq_ofNat_of_zero_le hin.1
  have hk : k ≤ 10 := by omega
  have hn := nameOf_in hk
  have hc : Calls Tryz.prog 269 #[.int .i64 (k : Int)] w fun e w' => e = .returned (.string (strL (Lib.decDigits k))) ∧ w' = w := Tryz.strconv_Itoa_small k (by omega) w
  have hcc := strL_cons 114 (Lib.decDigits k)
  have hls := dec_len hk
  have hsm : ¬ 9223372036854775807 < 1 + (strL (Lib.decDigits k)).size := by rw [strL_size]; omega
  generalize strL (Lib.decDigits k) = S at *
  rw [hn, ← hcc]
  clear hn hcc
  have hk2 : ¬ (11 : Int) ≤ (k : Int) := by omega
  go_enter Tryz.func254, Tryz.ntmps254
  go_wp2_with (first | (go_at_call 269; refine hc.mono ?_; rintro e w' ⟨rfl, rfl⟩))
  go_ret
  exact ⟨rfl, rfl⟩
 ·rw [nameOf_out hin]
  by_cases hneg : n < 0
  ·go_enter Tryz.func254, Tryz.ntmps254
   go_wp2
   go_ret
   exact ⟨rfl, rfl⟩
  ·have hge : 11 ≤ n := by omega
   go_enter Tryz.func254, Tryz.ntmps254
   go_wp2
   go_ret
   exact ⟨rfl, rfl⟩
set_option maxRecDepth 20000 in
set_option maxHeartbeats 1000000 in
theorem ref02_Name_any (n : Int) (w : World) (h0 : -9223372036854775808 ≤ n) (h1 : n ≤ 9223372036854775807) :
  Calls Tryz.prog 139 #[.int .i64 n] w fun e w' => e = .returned (.string (nameOf n)) ∧ w' = w := by
 by_cases hin : 0 ≤ n ∧ n ≤ 10
 ·obtain ⟨k, rfl⟩ := Int.eq_ofNat_of_zero_le hin.1
  have hk : k ≤ 10 := by omega
  have hn := nameOf_in hk
  have hc := ref01_Format_nat k w (by omega)
  have hcc := strL_cons 114 (Lib.decDigits k)
  have hls := dec_len hk
  have hsm : ¬ 9223372036854775807 < 1 + (strL (Lib.decDigits k)).size := by rw [strL_size]; omega
  generalize strL (Lib.decDigits k) = S at *
  rw [hn, ← hcc]
  clear hn hcc
  have hk2 : ¬ (10 : Int) < (k : Int) := by omega
  go_enter Tryz.func139, Tryz.ntmps139
  go_wp2_with (first | (go_at_call 193; refine hc.mono ?_; rintro e w' ⟨rfl, rfl⟩))
  go_ret
  exact ⟨rfl, rfl⟩
 ·rw [nameOf_out hin]
  by_cases hneg : n < 0
  ·go_enter Tryz.func139, Tryz.ntmps139
   go_wp2
   go_ret
   exact ⟨rfl, rfl⟩
  ·have hge : 10 < n := by omega
   go_enter Tryz.func139, Tryz.ntmps139
   go_wp2
   go_ret
   exact ⟨rfl, rfl⟩

/-- The number of a register, if it is one. -/
def regNo (s : ByteArray) : Option Nat := (List.range 11).find? fun n => nameOf n = s
def regB (s : ByteArray) : Bool := (regNo s).isSome
def regN (s : ByteArray) : Int := match regNo s with | none => 0 | some n => n

set_option maxRecDepth 20000 in
set_option maxHeartbeats 1000000 in
theorem ref02_Register_any (s : ByteArray) (w : World) (hs : s.size ≤ 281474976710656) :
  Calls Tryz.prog 78 #[.string s] w fun e w' => e = .returned (.tuple #[.int .i64 (regN s), .bool (regB s)]) ∧ w' = w := by
 go_enter Tryz.func78, Tryz.ntmps78
 go_wp2
 go_loop [4] (fun i => ∃ k : Nat, i = .int .i64 k ∧ k ≤ 11 ∧ ∀ j, j < k → nameOf j ≠ s) (fun i => 11 - (RowKit.intOf i).toNat)
 case atStart => exact ⟨0, rfl, by omega, fun j h => by omega⟩
 case round =>
  obtain ⟨k, rfl, hk, hno⟩ := hrel
  have HN := hx hno
  clear hno
  by_cases hlt : k ≤ 10
  ·have hc := ref02_Name_any k w (by omega) (by omega)
   by_cases he : nameOf k = s
   ·have hr : regNo s = some k := by
     unfold regNo
     rw [List.find?_range_eq_some]
     exact ⟨by simpa using he, by simp; omega, fun j hj => by simpa using HN.out j hj⟩
    have HR := hx hr
    clear hr
    rw [he] at hc
    clear he
    go_wp2_with (first | (go_at_call 139; refine hc.mono ?_; rintro e w' ⟨rfl, rfl⟩))
    go_ret2
    exact ⟨by rw [regN, regB, HR.out]; rfl, rfl⟩
   ·have he2 : (s.toList == (nameOf k).toList) = false := by
     refine beq_eq_false_iff_ne.2 fun e => he ?_
     rw [Go.ByteArray.toList_eq, Go.ByteArray.toList_eq] at e
     exact ByteArray.ext (Array.ext' e.symm)
    have HE := hx he
    clear he
    generalize hS : nameOf k = S at *
    have HS := hx hS
    clear hS
    go_wp2_with (first | (go_at_call 139; refine hc.mono ?_; rintro e w' ⟨rfl, rfl⟩))
    go_round
    case rel => exact ⟨k + 1, by simp, by omega, fun j hj => by
     by_cases h : j = k
     ·subst h; rw [HS.out]; exact HE.out
     ·exact HN.out j (by omega)⟩
    case measure => simp [RowKit.intOf]; omega
  ·have hr : regNo s = none := by
    unfold regNo
    rw [List.find?_eq_none]
    intro j hj
    simp at hj
    simpa using HN.out j (by omega)
   have HR := hx hr
   clear hr
   go_wp2
   go_ret2
   exact ⟨by rw [regN, regB, HR.out]; rfl, rfl⟩

/-- What Atoi makes of a register's number. -/
theorem atoi_dec {n : Nat} (h : n ≤ 10) : Lib.atoiAll (Lib.decDigits n) = .ok n := by
 have h' : ∀ n : Fin 11, Lib.atoiAll (Lib.decDigits n.val) = .ok (n.val : Int) := by decide +kernel
 exact h' ⟨n, by omega⟩
theorem name_inj {a b : Nat} (ha : a ≤ 10) (hb : b ≤ 10) (h : nameOf a = nameOf b) : a = b := by
 have h' : ∀ a b : Fin 11, nameOf (a.val : Int) = nameOf (b.val : Int) → a = b := by decide +kernel
 have := h' ⟨a, by omega⟩ ⟨b, by omega⟩ h
 exact congrArg Fin.val this
theorem regNo_name {n : Nat} (h : n ≤ 10) : regNo (nameOf n) = some n := by
 unfold regNo
 rw [List.find?_range_eq_some]
 refine ⟨by simp, by simp; omega, fun j hj => ?_⟩
 have : nameOf j ≠ nameOf n := fun e => by have := name_inj (by omega) h e; omega
 simpa using this
theorem regNo_some {s : ByteArray} {n : Nat} (h : regNo s = some n) : n ≤ 10 ∧ nameOf n = s := by
 unfold regNo at h
 rw [List.find?_range_eq_some] at h
 have h2 := h.2.1
 simp at h2
 exact ⟨by omega, by simpa using h.1⟩
end Go.Proofs.YtmnbalbiehlkpaaGreatDoor


set_option linter.unusedVariables false
set_option linter.unusedSimpArgs false
namespace Go.Proofs.YtmnbalbiehlkpaaGreatDoor
open Go.RowKit Go.Lib

theorem regNo_cons {s : ByteArray} {n : Nat} (h : regNo s = some n) : n ≤ 10 ∧ s.data.toList = 114 :: Lib.decDigits n := by
 obtain ⟨hn, hs⟩ := regNo_some h
 refine ⟨hn, ?_⟩
 rw [← hs, nameOf_in hn]; rfl
theorem dec_ne (n : Nat) : Lib.decDigits n ≠ [] := by rw [dec_step]; simp
theorem regNo_short {s : ByteArray} (h : s.size < 2) : regNo s = none := by
 cases hr : regNo s with
 | none => rfl
 | some n =>
  obtain ⟨_, h2⟩ := regNo_cons hr
  have h3 : s.data.toList.length = s.size := by simp
  rw [h2] at h3
  have := List.length_pos_iff.2 (dec_ne n)
  simp at h3; omega
theorem regNo_head {s : ByteArray} {b : UInt8} (h : s.data.toList[0]? = some b) (hb : b ≠ 114) : regNo s = none := by
 cases hr : regNo s with
 | none => rfl
 | some n =>
  obtain ⟨_, h2⟩ := regNo_cons hr
  rw [h2] at h
  simp at h
  exact absurd h.symm hb
theorem regNo_atoi {s : ByteArray} {n : Nat} (h : regNo s = some n) : Lib.atoiAll (s.data.toList.drop 1) = .ok n := by
 obtain ⟨hn, h2⟩ := regNo_cons h
 rw [h2]; exact atoi_dec hn
theorem bytesWorld_ext (w : World) (t : TypeId) (s : ByteArray) : Ext w (Lib.bytesWorld w t s) := by
 exact Go.Joins.below_bytesWorld _ w t s (Nat.le_refl _)
theorem extract_tail (s : ByteArray) : (s.extract 1 s.size).data.toList = s.data.toList.drop 1 := by
 rw [ByteArray.data_extract, Array.toList_extract]
 simp [List.extract]
 exact List.take_of_length_le (by simp)

set_option maxRecDepth 20000 in
set_option maxHeartbeats 1000000 in
theorem ident_Register_any (s : ByteArray) (w : World) (hs : s.size ≤ 281474976710656) (hG0 : GlobQ [s] w) :
  Calls Tryz.prog 213 #[.string s] w fun e w' => e = .returned (.tuple #[.int .i64 (regN s), .bool (regB s)]) ∧ Ext w w' := by
 by_cases h2 : s.size < 2
 ·have hr := regNo_short h2
  have h1 : regN s = 0 := by rw [regN, hr]
  have h3 : regB s = false := by rw [regB, hr]; rfl
  rw [h1, h3]
  go_enter Tryz.func213, Tryz.ntmps213
  go_wp2
  go_ret2
  exact ⟨rfl, Ext.refl _⟩
 ·have hlt : 0 < s.size := by omega
  have hat := str_at hlt
  by_cases hb : (s[0]'hlt) = 114
  ·have hG : Glob w := by
    rcases hG0.2 with h | h
    ·rcases h s (by simp) with h | h
     ·exact absurd h h2
     ·exact absurd (by rw [hat, hb]) h
    ·exact h
   clear hG0
   have htl := extract_tail s
   have hne : s.data.toList[0]? = some 114 := by rw [hat, hb]
   have hbn : (((s[0]'hlt).toNat : Int) != 114) = false := by rw [hb]; rfl
   have hxs : (s.extract 1 s.size).size ≤ 281474976710656 := by
    rw [ByteArray.size_extract]; omega
   have HA := hx (fun n (h : regNo s = some n) => regNo_atoi h)
   rw [← htl] at HA
   clear hat hb htl hne
   cases hv : Lib.atoiAll (s.extract 1 s.size).data.toList with
   | ok v =>
    have hc := Tryz.strconv_Atoi_ok (s.extract 1 s.size) (by omega) v hv w
    have hvb : -9223372036854775808 ≤ v ∧ v ≤ 9223372036854775807 := Lib.atoiAll_bounds hv
    have hn := fun W => ident_Name_any v W hvb.1 hvb.2
    have e2 : ∀ w', (w' = w ∨ ∃ t, w' = Lib.bytesWorld w 5 t) → Ext w w' := by
     rintro w' (rfl | ⟨t, rfl⟩)
     ·exact Ext.refl _
     ·exact bytesWorld_ext _ _ _
    have hc2 := hc.mono (R' := fun e w' => e = .returned (.tuple #[.int .i64 v, .nilIface]) ∧ Ext w w') (fun e w' h => ⟨h.1, e2 w' h.2⟩)
    by_cases he : nameOf v = s
    ·have hin : 0 ≤ v ∧ v ≤ 10 := by
      refine Decidable.byContradiction fun hno => ?_
      rw [nameOf_out hno] at he
      rw [← he] at h2; exact h2 (by decide)
     obtain ⟨k, rfl⟩ := Int.eq_ofNat_of_zero_le hin.1
     have hr : regNo s = some k := by rw [← he]; exact regNo_name (by omega)
     have h1 := hx (show regN s = k by rw [regN, hr])
     have h3 := hx (show regB s = true by rw [regB, hr]; rfl)
     rw [he] at hn
     clear hr hv HA hG e2 hc he
     go_enter Tryz.func213, Tryz.ntmps213
     go_wp2_with (first | (go_at_call 253; refine hc2.mono ?_; rintro e w1 ⟨rfl, e1⟩) | (go_at_call 254; refine (hn _).mono ?_; rintro e w' ⟨rfl, rfl⟩))
     go_ret2
     exact ⟨by rw [h1.out, h3.out]; rfl, e1⟩
    ·have hr : regNo s = none := by
      cases hr : regNo s with
      | none => rfl
      | some n =>
       have h := HA.out n hr
       rw [hv] at h
       injection h with h
       exact absurd (by rw [h]; exact (regNo_some hr).2) he
     have h1 := hx (show regN s = 0 by rw [regN, hr])
     have h3 := hx (show regB s = false by rw [regB, hr]; rfl)
     have he2 : ((nameOf v).toList == s.toList) = false := by
      refine beq_eq_false_iff_ne.2 fun e => he ?_
      rw [Go.ByteArray.toList_eq, Go.ByteArray.toList_eq] at e
      exact ByteArray.ext (Array.ext' e)
     have he3 : (nameOf v).toList ≠ s.toList := beq_eq_false_iff_ne.1 he2
     generalize nameOf v = S at *
     clear hr hv HA hG e2 hc he
     go_enter Tryz.func213, Tryz.ntmps213
     go_wp2_with (first | (go_at_call 253; refine hc2.mono ?_; rintro e w1 ⟨rfl, e1⟩) | (go_at_call 254; refine (hn _).mono ?_; rintro e w' ⟨rfl, rfl⟩))
     go_ret2
     exact ⟨by rw [h1.out, h3.out]; rfl, e1⟩
   | range =>
    obtain ⟨ev, hev, hcv⟩ := hG.eran
    have hc := Tryz.strconv_Atoi_range (s.extract 1 s.size) hxs hv ev w hcv hev
    have hr : regNo s = none := by
     cases hr : regNo s with
     | none => rfl
     | some n => have := HA.out n hr; rw [hv] at this; cases this
    have h1 : regN s = 0 := by rw [regN, hr]
    have h3 : regB s = false := by rw [regB, hr]; rfl
    rw [h1, h3]
    clear hr h1 h3 hv HA hG hev
    go_enter Tryz.func213, Tryz.ntmps213
    go_wp2_with (first | (go_at_call 253; refine hc.mono ?_; rintro e w1 ⟨N, rfl, -, -, e1⟩))
    go_ret2
    exact ⟨rfl, e1⟩
   | _ =>
    obtain ⟨ev, hev, hcv⟩ := hG.esyn
    have hc := Tryz.strconv_Atoi_syntax (s.extract 1 s.size) hxs hv ev w hcv hev
    have hr : regNo s = none := by
     cases hr : regNo s with
     | none => rfl
     | some n => have := HA.out n hr; rw [hv] at this; cases this
    have h1 : regN s = 0 := by rw [regN, hr]
    have h3 : regB s = false := by rw [regB, hr]; rfl
    rw [h1, h3]
    clear hr h1 h3 hv HA hG hev
    go_enter Tryz.func213, Tryz.ntmps213
    go_wp2_with (first | (go_at_call 253; refine hc.mono ?_; rintro e w1 ⟨N, rfl, -, -, e1⟩))
    go_ret2
    exact ⟨rfl, e1⟩
  ·have hr := regNo_head hat hb
   have h1 : regN s = 0 := by rw [regN, hr]
   have h3 : regB s = false := by rw [regB, hr]; rfl
   rw [h1, h3]
   have hbn : (((s[0]'hlt).toNat : Int) != 114) = true := by
    simp only [bne_iff_ne, ne_eq]
    intro e
    exact hb (by apply UInt8.toNat.inj; show _ = 114; omega)
   clear hr h1 h3 hat
   go_enter Tryz.func213, Tryz.ntmps213
   go_wp2
   go_ret2
   exact ⟨rfl, Ext.refl _⟩
end Go.Proofs.YtmnbalbiehlkpaaGreatDoor


set_option linter.unusedVariables false
set_option linter.unusedSimpArgs false
namespace Go.Proofs.YtmnbalbiehlkpaaGreatDoor
open Go.RowKit Go.Lib

def dig0 (s : ByteArray) : Bool := match s.data.toList with | [] => false | b :: _ => Lib.isDigitL (b.toNat : Int)
/-- An identifier. -/
def idB (s : ByteArray) : Bool := decide (s.size ≠ 0 ∧ s.size ≤ 32 ∧ wLen s.data.toList = s.size) && (!regB s && !dig0 s)
theorem wLen_le (l : List UInt8) : wLen l ≤ l.length := (List.takeWhile_sublist _).length_le
theorem dig0_eq {s : ByteArray} (h : 0 < s.size) : dig0 s = Lib.isDigitL ((s[0]'h).toNat : Int) := by
 have := str_at h
 unfold dig0
 cases hl : s.data.toList with
 | nil => rw [hl] at this; cases this
 | cons b l => rw [hl] at this; simp at this; rw [this]

set_option maxRecDepth 20000 in
set_option maxHeartbeats 1000000 in
theorem ident_Valid_any (s : ByteArray) (w : World) (hs : s.size ≤ 281474976710656) (hG : GlobQ [s] w) :
  Calls Tryz.prog 196 #[.string s] w fun e w' => e = .returned (.bool (idB s)) ∧ Ext w w' := by
 by_cases h0 : s.size = 0
 ·have hid : idB s = false := by simp [idB, h0]
  have hem : s.toList.isEmpty = true := by
   rw [Go.ByteArray.toList_eq, List.isEmpty_iff]
   exact List.eq_nil_of_length_eq_zero (by simpa using h0)
  rw [hid]
  go_enter Tryz.func196, Tryz.ntmps196
  go_wp2
  go_ret
  exact ⟨rfl, Ext.refl _⟩
 have hem := toList_ne h0
 have hem2 : s.toList ≠ [] := by intro e; rw [e] at hem; cases hem
 by_cases h32 : 32 < s.size
 ·have hid : idB s = false := by simp [idB]; omega
  rw [hid]
  go_enter Tryz.func196, Tryz.ntmps196
  go_wp2
  go_ret
  exact ⟨rfl, Ext.refl _⟩
 have hW := ident_Word_any s w hs hG.1
 by_cases hw : wLen s.data.toList = s.size
 ·have hlt : 0 < s.size := by omega
  have hR := fun W (h : Ext w W) => ident_Register_any s W hs (hG.ext h)
  have HR := hx hR
  rw [hw] at hW
  have hid := hx (show idB s = (!regB s && !Lib.isDigitL ((s[0]'hlt).toNat : Int)) by
   unfold idB; rw [dig0_eq hlt]; simp [h0, hw]; omega)
  have hD := fun W => Tryz.unicode_IsDigit (((s[0]'hlt).toNat : Nat) : Int) W (by have := (s[0]'hlt).toNat_lt; omega)
  clear hR hG hw
  cases hr : regB s with
  | true =>
   rw [hr] at hid HR
   go_enter Tryz.func196, Tryz.ntmps196
   go_wp2_with (first | (go_at_call 212; refine hW.mono ?_; rintro e w1 ⟨rfl, e1⟩; have hR1 := HR.out w1 e1) | (go_at_call 213; refine hR1.mono ?_; rintro e w2 ⟨rfl, e2⟩; replace e2 := e1.trans e2) | (go_at_call 214; refine (hD _).mono ?_; rintro e w' ⟨rfl, rfl⟩))
   go_ret
   exact ⟨ret_bool (by rw [hid.out]; rfl), e2⟩
  | false =>
   rw [hr] at hid HR
   have hdl := (s[0]'hlt).toNat_lt
   go_enter Tryz.func196, Tryz.ntmps196
   go_wp2_with (first | (go_at_call 212; refine hW.mono ?_; rintro e w1 ⟨rfl, e1⟩; have hR1 := HR.out w1 e1) | (go_at_call 213; refine hR1.mono ?_; rintro e w2 ⟨rfl, e2⟩; replace e2 := e1.trans e2) | (go_at_call 214; refine (hD _).mono ?_; rintro e w' ⟨rfl, rfl⟩))
   go_ret
   exact ⟨ret_bool (by rw [hid.out]; rfl), e2⟩
 ·have hid : idB s = false := by simp [idB, hw]
  have hle := wLen_le s.data.toList
  have hwl : wLen s.data.toList ≤ s.size := by simpa using hle
  clear hle
  rw [hid]
  clear hid hG
  have hmn : ((wLen s.data.toList : Int) != (s.size : Int)) = true := by simp only [bne_iff_ne, ne_eq]; omega
  generalize wLen s.data.toList = m at *
  go_enter Tryz.func196, Tryz.ntmps196
  go_wp2_with (first | (go_at_call 212; refine hW.mono ?_; rintro e w1 ⟨rfl, e1⟩))
  go_ret
  exact ⟨rfl, e1⟩

set_option maxRecDepth 20000 in
set_option maxHeartbeats 1000000 in
theorem ref02_Valid_any (s : ByteArray) (w : World) (hs : s.size ≤ 281474976710656) :
  Calls Tryz.prog 41 #[.string s] w fun e w' => e = .returned (.bool (idB s)) ∧ w' = w := by
 have hR := ref02_Register_any s w hs
 by_cases h0 : s.size = 0
 ·have hid : idB s = false := by simp [idB, h0]
  rw [hid]
  clear hid
  go_enter Tryz.func41, Tryz.ntmps41
  go_wp2_with (first | (go_at_call 78; refine hR.mono ?_; rintro e w' ⟨rfl, rfl⟩))
  go_ret
  exact ⟨rfl, rfl⟩
 by_cases h32 : 32 < s.size
 ·have hid : idB s = false := by simp [idB]; omega
  rw [hid]
  clear hid
  go_enter Tryz.func41, Tryz.ntmps41
  go_wp2_with (first | (go_at_call 78; refine hR.mono ?_; rintro e w' ⟨rfl, rfl⟩))
  go_ret
  exact ⟨rfl, rfl⟩
 have hW := ref02_Word_any s w hs
 by_cases hw : wLen s.data.toList = s.size
 ·have hlt : 0 < s.size := by omega
  rw [hw] at hW
  have hid := hx (show idB s = (!regB s && !Lib.isDigitL ((s[0]'hlt).toNat : Int)) by
   unfold idB; rw [dig0_eq hlt]; simp [h0, hw]; omega)
  clear hw
  obtain ⟨d, hd⟩ : ∃ d : Int, d = ((s[0]'hlt).toNat : Int) := ⟨_, rfl⟩
  have hdl := (s[0]'hlt).toNat_lt
  rw [← hd] at hid
  by_cases k1 : (48 : Int) ≤ ((s[0]'hlt).toNat : Int)
  ·by_cases k2 : ((s[0]'hlt).toNat : Int) ≤ 57
   ·have hdg : Lib.isDigitL d = true := by unfold Lib.isDigitL; simp; omega
    rw [hdg] at hid
    clear hdg hd
    go_enter Tryz.func41, Tryz.ntmps41
    go_wp2_with (first | (go_at_call 78; refine hR.mono ?_; rintro e w' ⟨rfl, rfl⟩) | (go_at_call 79; refine hW.mono ?_; rintro e w' ⟨rfl, rfl⟩))
    go_ret
    exact ⟨ret_bool (by rw [hid.out]; simp), rfl⟩
   ·have hdg : Lib.isDigitL d = false := by unfold Lib.isDigitL; simp; omega
    rw [hdg] at hid
    clear hdg hd
    go_enter Tryz.func41, Tryz.ntmps41
    go_wp2_with (first | (go_at_call 78; refine hR.mono ?_; rintro e w' ⟨rfl, rfl⟩) | (go_at_call 79; refine hW.mono ?_; rintro e w' ⟨rfl, rfl⟩))
    go_ret
    exact ⟨ret_bool (by rw [hid.out]; simp; intros; omega), rfl⟩
  ·have hdg : Lib.isDigitL d = false := by unfold Lib.isDigitL; simp; omega
   rw [hdg] at hid
   clear hdg hd
   go_enter Tryz.func41, Tryz.ntmps41
   go_wp2_with (first | (go_at_call 78; refine hR.mono ?_; rintro e w' ⟨rfl, rfl⟩) | (go_at_call 79; refine hW.mono ?_; rintro e w' ⟨rfl, rfl⟩))
   go_ret
   exact ⟨ret_bool (by rw [hid.out]; simp), rfl⟩
 ·have hid : idB s = false := by simp [idB, hw]
  have hle := wLen_le s.data.toList
  have hwl : wLen s.data.toList ≤ s.size := by simpa using hle
  have hmn : ((wLen s.data.toList : Int) == (s.size : Int)) = false := beq_eq_false_iff_ne.2 (by omega)
  rw [hid]
  clear hle hid
  generalize wLen s.data.toList = m at *
  go_enter Tryz.func41, Tryz.ntmps41
  go_wp2_with (first | (go_at_call 78; refine hR.mono ?_; rintro e w' ⟨rfl, rfl⟩) | (go_at_call 79; refine hW.mono ?_; rintro e w' ⟨rfl, rfl⟩))
  go_ret
  exact ⟨rfl, rfl⟩
end Go.Proofs.YtmnbalbiehlkpaaGreatDoor


set_option linter.unusedVariables false
set_option linter.unusedSimpArgs false
namespace Go.Proofs.YtmnbalbiehlkpaaGreatDoor
open Go.RowKit Go.Lib

def repA : List ByteArray → List ByteArray → Int
 | _, [] => -1
 | seen, x :: l => if seen.any (fun y => decide (y = x)) then seen.length else repA (seen ++ [x]) l
/-- The index of the first text that stands before. -/
def repN (l : List ByteArray) : Int := repA [] l
theorem str_beq {x y : ByteArray} (h : x ≠ y) : (x.toList == y.toList) = false := by
 refine beq_eq_false_iff_ne.2 fun e => h ?_
 rw [Go.ByteArray.toList_eq, Go.ByteArray.toList_eq] at e
 exact ByteArray.ext (Array.ext' e)

set_option maxRecDepth 20000 in
set_option maxHeartbeats 1000000 in
theorem ref02_Repeated_any (v : Value) (l : List ByteArray) (w : World) (hl : l.length ≤ 1000000) (hv : IsStrs w v l) :
  Calls Tryz.prog 44 #[v] w fun e w' => e = .returned (.int .i64 (repN l)) ∧ Ext w w' := by
 obtain ⟨A, c, rfl, -, -, hv'⟩ := hv.form
 go_enter Tryz.func44, Tryz.ntmps44
 go_wp2
 go_loopw [3] (fun i wr => ∃ pre suf : List ByteArray, l = pre ++ suf ∧ i = .int .i64 (pre.length : Nat) ∧ repN l = repA pre suf ∧ Ext w wr) (fun i _ => l.length - (RowKit.intOf i).toNat)
 case atStart => exact ⟨[], l, rfl, rfl, rfl, Ext.refl _⟩
 case round =>
  obtain ⟨pre, suf, hl', rfl, hr, he⟩ := hrel
  have HR := hx hr
  clear hr
  cases suf with
  | cons x suf =>
   have hlt : pre.length < l.length := by rw [hl']; simp
   have hvx := hv'
   rw [hl'] at hvx
   obtain ⟨b, o, rfl, d1⟩ := hvx.at
   replace d1 := d1.1
   rw [Nat.mul_one] at d1
   have HL := hx hl'; clear hl' hvx
   obtain ⟨n, hn⟩ : ∃ n, n = pre.length := ⟨_, rfl⟩
   rw [← hn] at d1 hlt ⊢
   have HN := hx hn
   clear hn
   go_wp2
   go_loopw [4] (fun j wr => ∃ k : Nat, j = .int .i64 k ∧ k ≤ n ∧ (∀ i y, i < k → pre[i]? = some y → y ≠ x) ∧ Ext w wr) (fun j _ => n - (RowKit.intOf j).toNat)
   case atStart => exact ⟨0, rfl, by omega, fun i y h => by omega, he⟩
   case round =>
    clear he
    obtain ⟨k, rfl, hk, hno, he⟩ := hrel
    have HNO := hx hno
    clear hno
    have dx := he.cell d1
    by_cases hkn : k < n
    ·have hkp : k < pre.length := by rw [← HN.out]; exact hkn
     have hkl : k < l.length := by omega
     obtain ⟨y, hy⟩ : ∃ y, pre[k]? = some y := ⟨_, List.getElem?_eq_getElem hkp⟩
     have hyl : l[k]? = some y := by rw [HL.out, List.getElem?_append_left hkp]; exact hy
     obtain ⟨b2, o2, hb2, hE⟩ := hv'.get hyl
     cases hb2
     have dy := he.cell hE.1
     rw [Nat.mul_one] at dy
     have HY := hx hy
     clear hy hyl hE hkp
     by_cases hxy : x = y
     ·subst hxy
      have hany := hx (show repA pre (x :: suf) = n by
       rw [repA, if_pos, ← HN.out]
       rw [List.any_eq_true]
       exact ⟨x, List.mem_of_getElem? HY.out, by simp⟩)
      have hxx : (x.toList == x.toList) = true := by simp
      go_wp2
      go_quiet (fail)
      go_wp2
      go_ret
      exact ⟨ret_int (by rw [HR.out, hany.out]), he.drewN _⟩
     ·have hxy2 := str_beq hxy
      have hxy3 : x.toList ≠ y.toList := beq_eq_false_iff_ne.1 hxy2
      have HXY := hx hxy
      clear hxy
      go_wp2
      go_quiet (fail)
      go_wp2
      go_roundw
      case rel => exact ⟨k + 1, by simp, by omega, fun i z hi hz => by
       by_cases h : i = k
       ·subst h; rw [HY.out] at hz; cases hz; exact fun e => HXY.out e.symm
       ·exact HNO.out i z (by omega) hz, he.drewN _⟩
      case measure => simp [RowKit.intOf]; omega
    ·obtain rfl : k = n := by omega
     have hany := hx (show repA pre (x :: suf) = repA (pre ++ [x]) suf by
      rw [repA, if_neg]
      rw [List.any_eq_true]
      rintro ⟨y, hy, hyx⟩
      obtain ⟨i, hi, rfl⟩ := List.mem_iff_getElem.1 hy
      exact HNO.out i _ (by rw [HN.out]; exact hi) (List.getElem?_eq_getElem hi) (by simpa using hyx))
     go_wp2
     go_roundw
     case rel => exact ⟨pre ++ [x], suf, by simp [HL.out], by simp [HN.out], by rw [HR.out, hany.out], he⟩
     case measure => simp [RowKit.intOf]; omega
  | nil =>
   obtain rfl : l = pre := by simpa using hl'
   clear hl'
   have hlt : ¬ l.length < l.length := by omega
   go_wp2
   go_ret
   exact ⟨ret_int (by rw [HR.out]; rfl), he⟩
end Go.Proofs.YtmnbalbiehlkpaaGreatDoor
