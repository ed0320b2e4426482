/- The reference's Format of a negative number; of any number. -/
import Derived.Test.YtocnmjpldpbioaaGreatDoorJSlot
import Derived.Lib.AppendIntMem
import Derived.Test.YtocnmjpldpbioaaGreatDoorJCore
import Derived.Test.YtocnmjpldpbioaaGreatDoorJIdentR
import Derived.Laws.EntriesVeiled
set_option linter.unusedVariables false
set_option linter.unusedSimpArgs false
namespace Go.Proofs.YtocnmjpldpbioaaGreatDoor
open Go.RowKit Go.Lib

theorem pow_len8 {u k : Nat} (h : u * 10 ^ k ≤ 9223372036854775808) (hu : 0 < u) : k ≤ 18 := by
 refine Nat.le_of_lt_succ (Nat.lt_of_not_le fun hk => ?_)
 have h1 : 10 ^ 19 ≤ 10 ^ k := Nat.pow_le_pow_right (by decide) hk
 have h2 : 1 * 10 ^ k ≤ u * 10 ^ k := Nat.mul_le_mul_right _ hu
 have h3 : (10 : Nat) ^ 19 = 10000000000000000000 := by decide
 omega
theorem pow_step8 {u k : Nat} (h : u * 10 ^ k ≤ 9223372036854775808) : u / 10 * 10 ^ (k + 1) ≤ 9223372036854775808 := by
 have h1 : u / 10 * 10 ≤ u := Nat.div_mul_le_self u 10
 have h2 : u / 10 * 10 * 10 ^ k ≤ u * 10 ^ k := Nat.mul_le_mul_right _ h1
 have h3 : u / 10 * 10 ^ (k + 1) = u / 10 * 10 * 10 ^ k := by rw [Nat.pow_succ, Nat.mul_comm (10 ^ k) 10, Nat.mul_assoc]
 omega
set_option maxRecDepth 20000 in
set_option maxHeartbeats 1000000 in
theorem ref01_Format_neg (n : Nat) (w : World) (hn : n ≤ 9223372036854775808) (hn0 : 0 < n) :
  Calls Tryz.prog 7 #[.int .i64 (-(n : Int))] w fun e w' => e = .returned (.string (strL (45 :: Lib.decDigits n))) ∧ w' = w := by
 have hw : IntKind.u64.wrap (0 - IntKind.u64.wrap (-(n : Int))) = (n : Int) := by simp [IntKind.wrap, IntKind.signed, IntKind.bits]; omega
 have hw2 : IntKind.u64.wrap (-IntKind.u64.wrap (-(n : Int))) = (n : Int) := by simp [IntKind.wrap, IntKind.signed, IntKind.bits]; omega
 have hlt : decide (-(n : Int) < 0) = true := decide_eq_true (by omega)
 go_enter Tryz.func7, Tryz.ntmps7
 go_wp2
 go_loop [4, 5] (fun r s => ∃ (u : Nat) (l : List UInt8), r = .int .u64 u ∧ s = .string (strL l) ∧ u ≤ 9223372036854775808 ∧ l.length ≤ 20 ∧ Hx (u * 10 ^ l.length ≤ 9223372036854775808) ∧ ((l = [] ∧ u = n) ∨ (l ≠ [] ∧ ddN u ++ l = Lib.decDigits n))) (fun r s => 2 * (RowKit.intOf r).toNat + emp s)
 case atStart => exact ⟨n, [], by first | rw [hw] | rw [hw2] | simp [hw, hw2], rfl, hn, by simp, ⟨by simpa using hn⟩, .inl ⟨rfl, rfl⟩⟩
 case round =>
  obtain ⟨u, l, rfl, rfl, hu, hll, hpw, hr⟩ := hrel
  have HR := hx hr
  clear hr hw hw2
  have hd := slice_dig w (u % 10) (by omega)
  rw [Int.natCast_emod] at hd
  simp only [Int.cast_ofNat_Int] at hd
  have hds := hx (dec_step u)
  have hcc := strL_cons (UInt8.ofNat (48 + u % 10)) l
  have hls := strL_size l
  have hc1 : (⟨#[UInt8.ofNat (48 + u % 10)]⟩ : ByteArray).size = 1 := rfl
  have hsm : ¬ 9223372036854775807 < (⟨#[UInt8.ofNat (48 + u % 10)]⟩ : ByteArray).size + (strL l).size := by rw [hc1, hls]; omega
  have HCC := hx hcc
  by_cases hu0 : 0 < u
  ·have hl18 := pow_len8 hpw.out hu0
   clear hcc hls hc1
   generalize hS : strL l = S at *
   generalize hC : (⟨#[UInt8.ofNat (48 + u % 10)]⟩ : ByteArray) = C at *
   have HS := hx hS
   clear hS hC
   go_wp2
   go_round
   case rel =>
    refine ⟨u / 10, UInt8.ofNat (48 + u % 10) :: l, by simp, by rw [HCC.out], by omega, by simp; omega, ⟨pow_step8 hpw.out⟩, .inr ⟨by simp, ?_⟩⟩
    rcases HR.out with ⟨rfl, rfl⟩ | ⟨hne, h⟩
    ·rw [hds.out]
    ·rw [← h, show ddN u = Lib.decDigits u from if_neg (by omega), hds.out]; simp
   case measure =>
    rw [HCC.out, emp_strL, ← HS.out, emp_strL]
    simp [RowKit.intOf]; split <;> omega
  ·obtain rfl : u = 0 := by omega
   cases l with
   | nil =>
    have hn1 : n = 0 := by rcases HR.out with ⟨_, h⟩ | ⟨h, _⟩ <;> simp_all
    omega
   | cons c l =>
    have hd2 : strL (c :: l) = strL (Lib.decDigits n) := by rcases HR.out with ⟨h, _⟩ | ⟨_, h⟩ <;> simp_all [ddN]
    have hem := strL_ne (l := c :: l) (by simp)
    have hc45 := strL_cons 45 (Lib.decDigits n)
    rw [← hd2] at hc45
    have hsz : ¬ 9223372036854775807 < 1 + (strL (c :: l)).size := by rw [hls]; omega
    have HD := hx hc45
    clear hd2 hcc hls hc1 hd hc45
    generalize strL (c :: l) = S at *
    go_wp2
    go_ret
    exact ⟨ret_str (by first | exact HD.out | simpa using HD.out), rfl⟩
/-- A number's text. -/
def numS (n : Int) : ByteArray := strL (Lib.itoa n)
theorem ref01_Format_any (n : Int) (w : World) (h : I64 n) :
  Calls Tryz.prog 7 #[.int .i64 n] w fun e w' => e = .returned (.string (numS n)) ∧ w' = w := by
 obtain ⟨h0, h1⟩ := h
 by_cases hn : n < 0
 ·obtain ⟨k, rfl⟩ : ∃ k : Nat, n = -(k : Int) := ⟨n.natAbs, by omega⟩
  have e : numS (-(k : Int)) = strL (45 :: Lib.decDigits k) := by unfold numS Lib.itoa; rw [if_pos hn, show (-(k : Int)).natAbs = k by omega]
  rw [e]
  exact ref01_Format_neg k w (by omega) (by omega)
 ·obtain ⟨k, rfl⟩ := Int.eq_ofNat_of_zero_le (show 0 ≤ n by omega)
  have e : numS (k : Int) = strL (Lib.decDigits k) := by unfold numS Lib.itoa; rw [if_neg hn]; rfl
  rw [e]
  exact ref01_Format_nat k w (by omega)
end Go.Proofs.YtocnmjpldpbioaaGreatDoor


set_option linter.unusedVariables false
set_option linter.unusedSimpArgs false
namespace Go.Proofs.YtocnmjpldpbioaaGreatDoor
open Go.RowKit Go.Lib

def nameOf (n : Int) : ByteArray := if 0 ≤ n ∧ n ≤ 10 then strL (114 :: Lib.decDigits n.toNat) else ⟨#[]⟩
theorem nameOf_in {n : Nat} (h : n ≤ 10) : nameOf n = strL (114 :: Lib.decDigits n) := by unfold nameOf; rw [if_pos (by omega)]; rfl
theorem nameOf_out {n : Int} (h : ¬ (0 ≤ n ∧ n ≤ 10)) : nameOf n = ⟨#[]⟩ := by unfold nameOf; rw [if_neg h]
theorem dec_len {n : Nat} (h : n ≤ 10) : (Lib.decDigits n).length ≤ 2 := by
 by_cases h1 : n < 10
 ·rw [Lib.decDigits_one h1]; simp
 ·rw [Lib.decDigits_two h1 (by omega)]; simp
set_option maxRecDepth 20000 in
set_option maxHeartbeats 1000000 in
theorem ident_Name_any (n : Int) (w : World) (h0 : -9223372036854775808 ≤ n) (h1 : n ≤ 9223372036854775807) :
  Calls Tryz.prog 15 #[.int .i64 n] w fun e w' => e = .returned (.string (nameOf n)) ∧ w' = w := by
 by_cases hin : 0 ≤ n ∧ n ≤ 10
 ·obtain ⟨k, rfl⟩ := Int.eq_ofNat_of_zero_le hin.1
  have hk : k ≤ 10 := by omega
  have hn := nameOf_in hk
  have hc : Calls Tryz.prog 30 #[.int .i64 (k : Int)] w fun e w' => e = .returned (.string (strL (Lib.decDigits k))) ∧ w' = w := Tryz.strconv_Itoa_small k (by omega) w
  have hcc := strL_cons 114 (Lib.decDigits k)
  have hls := dec_len hk
  have hsm : ¬ 9223372036854775807 < 1 + (strL (Lib.decDigits k)).size := by rw [strL_size]; omega
  generalize strL (Lib.decDigits k) = S at *
  rw [hn, ← hcc]
  clear hn hcc
  have hk2 : ¬ (11 : Int) ≤ (k : Int) := by omega
  go_enter Tryz.func15, Tryz.ntmps15
  go_wp2_with (first | (go_at_call 30; refine hc.mono ?_; rintro e w' ⟨rfl, rfl⟩))
  go_ret
  exact ⟨rfl, rfl⟩
 ·rw [nameOf_out hin]
  by_cases hneg : n < 0
  ·go_enter Tryz.func15, Tryz.ntmps15
   go_wp2
   go_ret
   exact ⟨rfl, rfl⟩
  ·have hge : 11 ≤ n := by omega
   go_enter Tryz.func15, Tryz.ntmps15
   go_wp2
   go_ret
   exact ⟨rfl, rfl⟩
set_option maxRecDepth 20000 in
set_option maxHeartbeats 1000000 in
theorem ref02_Name_any (n : Int) (w : World) (h0 : -9223372036854775808 ≤ n) (h1 : n ≤ 9223372036854775807) :
  Calls Tryz.prog 17 #[.int .i64 n] w fun e w' => e = .returned (.string (nameOf n)) ∧ w' = w := by
 by_cases hin : 0 ≤ n ∧ n ≤ 10
 ·obtain ⟨k, rfl⟩ := Int.eq_ofNat_of_zero_le hin.1
  have hk : k ≤ 10 := by omega
  have hn := nameOf_in hk
  have hc := ref01_Format_nat k w (by omega)
  have hcc := strL_cons 114 (Lib.decDigits k)
  have hls := dec_len hk
  have hsm : ¬ 9223372036854775807 < 1 + (strL (Lib.decDigits k)).size := by rw [strL_size]; omega
  generalize strL (Lib.decDigits k) = S at *
  rw [hn, ← hcc]
  clear hn hcc
  have hk2 : ¬ (10 : Int) < (k : Int) := by omega
  go_enter Tryz.func17, Tryz.ntmps17
  go_wp2_with (first | (go_at_call 7; refine hc.mono ?_; rintro e w' ⟨rfl, rfl⟩))
  go_ret
  exact ⟨rfl, rfl⟩
 ·rw [nameOf_out hin]
  by_cases hneg : n < 0
  ·go_enter Tryz.func17, Tryz.ntmps17
   go_wp2
   go_ret
   exact ⟨rfl, rfl⟩
  ·have hge : 10 < n := by omega
   go_enter Tryz.func17, Tryz.ntmps17
   go_wp2
   go_ret
   exact ⟨rfl, rfl⟩

/-- The number of a register, if it is one. -/
def regNo (s : ByteArray) : Option Nat := (List.range 11).find? fun n => nameOf n = s
def regB (s : ByteArray) : Bool := (regNo s).isSome
def regN (s : ByteArray) : Int := match regNo s with | none => 0 | some n => n

/-- What Atoi makes of a register's number. -/
theorem atoi_dec {n : Nat} (h : n ≤ 10) : Lib.atoiAll (Lib.decDigits n) = .ok n := by
 have h' : ∀ n : Fin 11, Lib.atoiAll (Lib.decDigits n.val) = .ok (n.val : Int) := by decide +kernel
 exact h' ⟨n, by omega⟩
theorem name_inj {a b : Nat} (ha : a ≤ 10) (hb : b ≤ 10) (h : nameOf a = nameOf b) : a = b := by
 have h' : ∀ a b : Fin 11, nameOf (a.val : Int) = nameOf (b.val : Int) → a = b := by decide +kernel
 have := h' ⟨a, by omega⟩ ⟨b, by omega⟩ h
 exact congrArg Fin.val this
theorem regNo_name {n : Nat} (h : n ≤ 10) : regNo (nameOf n) = some n := by
 unfold regNo
 rw [List.find?_range_eq_some]
 refine ⟨by simp, by simp; omega, fun j hj => ?_⟩
 have : nameOf j ≠ nameOf n := fun e => by have := name_inj (by omega) h e; omega
 simpa using this
theorem regNo_some {s : ByteArray} {n : Nat} (h : regNo s = some n) : n ≤ 10 ∧ nameOf n = s := by
 unfold regNo at h
 rw [List.find?_range_eq_some] at h
 have h2 := h.2.1
 simp at h2
 exact ⟨by omega, by simpa using h.1⟩
end Go.Proofs.YtocnmjpldpbioaaGreatDoor


set_option linter.unusedVariables false
set_option linter.unusedSimpArgs false
namespace Go.Proofs.YtocnmjpldpbioaaGreatDoor
open Go.RowKit Go.Lib

/-- The table that the decimal numerals are counted with. -/
def PowV (w : World) : Prop := Lib.TabIs Tryz.prog w "internal/strconv.uint64pow10" .u64 Lib.pow10Tab
theorem PowV.ext {w w' : World} (h : PowV w) (he : Ext w w') : PowV w' := var_ext h he
theorem num_Format_any (n : Int) (w : World) (h : I64 n) (hP : PowV w) :
    Calls Tryz.prog 14 #[.int .i64 n] w fun e w' => e = .returned (.string (numS n)) ∧ Ext w w' := by
  have hc := (Tryz.strconv_FormatInt_10 n h.1 h.2 w hP).mono (R' := fun e w' => e = .returned (.string (numS n)) ∧ Ext w w') fun e w' ⟨h1, k, os, h2⟩ => ⟨h1, by rw [h2]; exact below_grow _ w (Nat.le_refl _) k os⟩
  clear hP h
  generalize numS n = S at *
  go_enter Tryz.func14, Tryz.ntmps14
  go_wp2_with (go_at_call 29; refine hc.mono ?_; rintro e w1 ⟨rfl, e1⟩)
  go_ret
  exact ⟨rfl, e1⟩
theorem print_Number_any (n : Int) (w : World) (h : I64 n) (hP : PowV w) :
    Calls Tryz.prog 6 #[.int .i64 n] w fun e w' => e = .returned (.string (numS n)) ∧ Ext w w' := by
  have hc := num_Format_any n w h hP
  clear hP h
  generalize numS n = S at *
  go_enter Tryz.func6, Tryz.ntmps6
  go_wp2_with (go_at_call 14; refine hc.mono ?_; rintro e w1 ⟨rfl, e1⟩)
  go_ret
  exact ⟨rfl, e1⟩
theorem dec_size {n : Nat} (h : n < 100000000000000000000) : (Lib.decDigits n).length ≤ 20 := by
  have key : ∀ (k n : Nat), n < 10 ^ (k + 1) → (Lib.decDigits n).length ≤ k + 1 := by
    intro k
    induction k with
    | zero => intro n h; rw [Lib.decDigits_one (by omega)]; simp
    | succ k ih =>
      intro n h
      rw [dec_step]
      have h1 : n / 10 < 10 ^ (k + 1) := by rw [Nat.pow_succ] at h; omega
      have h2 := ih (n / 10) h1
      unfold ddN
      split
      · simp
      · simp; omega
  exact key 19 n (by have : (10 : Nat) ^ (19 + 1) = 100000000000000000000 := by decide
                     omega)
theorem numS_size {n : Int} (h : I64 n) : (numS n).size ≤ 21 := by
  obtain ⟨h0, h1⟩ := h
  unfold numS Lib.itoa
  rw [strL_size]
  split
  · have := dec_size (n := n.natAbs) (by omega)
    simp; omega
  · have := dec_size (n := n.toNat) (by omega)
    omega
theorem nameOf_size (n : Int) : (nameOf n).size ≤ 3 := by
  unfold nameOf
  split
  · rw [strL_size]
    have := dec_len (n := n.toNat) (by omega)
    simp; omega
  · exact Nat.zero_le _
theorem ba_nil (a : ByteArray) : a ++ (⟨#[]⟩ : ByteArray) = a := by
  apply ByteArray.ext
  apply Array.ext'
  rw [ByteArray.toList_data_append]
  simp
theorem ba_assoc (a b c : ByteArray) : a ++ b ++ c = a ++ (b ++ c) := by
  apply ByteArray.ext
  apply Array.ext'
  simp only [ByteArray.toList_data_append, List.append_assoc]
/-- The sign and the number of an offset. -/
def offS (off : Int) : ByteArray := if off = 0 then ⟨#[]⟩ else if 0 < off then ⟨#[43]⟩ ++ numS off else numS off
/-- The text of a memory operand. -/
def memS (reg off : Int) : ByteArray := if (0 ≤ reg ∧ reg ≤ 10) ∧ (-32768 ≤ off ∧ off ≤ 32767) then ((⟨#[91]⟩ ++ nameOf reg) ++ offS off) ++ ⟨#[93]⟩ else ⟨#[]⟩
set_option maxRecDepth 40000 in
set_option maxHeartbeats 4000000 in
theorem print_Memory_any (reg off : Int) (w : World) (hr : I64 reg) (ho : I64 off) (hW : WidN w) (hP : PowV w) :
    Calls Tryz.prog 8 #[.int .i64 reg, .int .i64 off] w fun e w' => e = .returned (.string (memS reg off)) ∧ Ext w w' := by
  have HN := hx (ident_Name_any reg w hr.1 hr.2)
  have HF := hx (numFits16 off w hW ho)
  have HP := hx (print_Number_any off w ho hP)
  have hns := nameOf_size reg
  have hnn := numS_size ho
  by_cases hin : 0 ≤ reg ∧ reg ≤ 10
  · obtain ⟨k, rfl⟩ := Int.eq_ofNat_of_zero_le hin.1
    have hne : (nameOf (k : Int)).toList.isEmpty = false := by rw [nameOf_in (by omega)]; exact strL_ne (by simp)
    by_cases hf : -32768 ≤ off ∧ off ≤ 32767
    · have hft : fits16 off = true := by unfold fits16; exact decide_eq_true hf
      have hm : memS (k : Int) off = ((⟨#[91]⟩ ++ nameOf k) ++ offS off) ++ ⟨#[93]⟩ := if_pos ⟨hin, hf⟩
      rw [hft] at HF
      rcases Int.lt_trichotomy off 0 with h0 | h0 | h0
      · have ho' : offS off = numS off := by unfold offS; rw [if_neg (by omega), if_neg (by omega)]
        rw [hm, ho']
        have d0 : (off == 0) = false := beq_eq_false_iff_ne.2 (by omega)
        have d1 : decide (off > 0) = false := decide_eq_false (by omega)
        generalize nameOf (k : Int) = NM at *
        generalize numS off = NU at *
        clear hm ho' hft hf hin hr ho hW hP
        go_enter Tryz.func8, Tryz.ntmps8
        go_wp2_with (first
          | (go_at_call 15; refine HN.out.mono ?_; rintro e w1 ⟨rfl, rfl⟩)
          | (go_at_call 16; refine HF.out.mono ?_; rintro e w2 ⟨rfl, rfl⟩)
          | (go_at_call 6; refine HP.out.mono ?_; rintro e w3 ⟨rfl, e3⟩))
        go_ret
        exact ⟨rfl, e3⟩
      · subst h0
        have hm2 : memS (k : Int) 0 = (⟨#[91]⟩ ++ nameOf k) ++ ⟨#[93]⟩ := by rw [hm]; unfold offS; rw [if_pos rfl, ba_nil]
        rw [hm2]
        generalize nameOf (k : Int) = NM at *
        clear hm hm2 hft hf hin hr ho hW hP
        go_enter Tryz.func8, Tryz.ntmps8
        go_wp2_with (first
          | (go_at_call 15; refine HN.out.mono ?_; rintro e w1 ⟨rfl, rfl⟩)
          | (go_at_call 16; refine HF.out.mono ?_; rintro e w2 ⟨rfl, rfl⟩)
          | (go_at_call 6; refine HP.out.mono ?_; rintro e w3 ⟨rfl, e3⟩))
        go_ret
        exact ⟨rfl, Ext.refl _⟩
      · have ho' : ((⟨#[91]⟩ ++ nameOf k) ++ offS off) ++ ⟨#[93]⟩ = (((⟨#[91]⟩ ++ nameOf k) ++ ⟨#[43]⟩) ++ numS off) ++ (⟨#[93]⟩ : ByteArray) := by unfold offS; rw [if_neg (by omega), if_pos h0, ← ba_assoc]
        rw [hm, ho']
        have d0 : (off == 0) = false := beq_eq_false_iff_ne.2 (by omega)
        have d1 : decide (off > 0) = true := decide_eq_true (by omega)
        generalize nameOf (k : Int) = NM at *
        generalize numS off = NU at *
        clear hm ho' hft hf hin hr ho hW hP
        go_enter Tryz.func8, Tryz.ntmps8
        go_wp2_with (first
          | (go_at_call 15; refine HN.out.mono ?_; rintro e w1 ⟨rfl, rfl⟩)
          | (go_at_call 16; refine HF.out.mono ?_; rintro e w2 ⟨rfl, rfl⟩)
          | (go_at_call 6; refine HP.out.mono ?_; rintro e w3 ⟨rfl, e3⟩))
        go_ret
        exact ⟨rfl, e3⟩
    · have hft : fits16 off = false := by unfold fits16; exact decide_eq_false hf
      have hm : memS (k : Int) off = ⟨#[]⟩ := if_neg fun h => hf h.2
      rw [hft] at HF
      rw [hm]
      generalize nameOf (k : Int) = NM at *
      clear hm hft hf hin hr ho hW hP
      go_enter Tryz.func8, Tryz.ntmps8
      go_wp2_with (first
          | (go_at_call 15; refine HN.out.mono ?_; rintro e w1 ⟨rfl, rfl⟩)
          | (go_at_call 16; refine HF.out.mono ?_; rintro e w2 ⟨rfl, rfl⟩)
          | (go_at_call 6; refine HP.out.mono ?_; rintro e w3 ⟨rfl, e3⟩))
      go_ret
      exact ⟨rfl, Ext.refl _⟩
  · have hm : memS reg off = ⟨#[]⟩ := if_neg fun h => hin h.1
    rw [hm]
    rw [nameOf_out hin] at HN
    have hem : (⟨#[]⟩ : ByteArray).toList.isEmpty = true := by rw [Go.ByteArray.toList_eq]; rfl
    clear hm hin hr ho hW hP hns
    go_enter Tryz.func8, Tryz.ntmps8
    go_wp2_with (first
          | (go_at_call 15; refine HN.out.mono ?_; rintro e w1 ⟨rfl, rfl⟩)
          | (go_at_call 16; refine HF.out.mono ?_; rintro e w2 ⟨rfl, rfl⟩)
          | (go_at_call 6; refine HP.out.mono ?_; rintro e w3 ⟨rfl, e3⟩))
    go_ret
    exact ⟨rfl, Ext.refl _⟩
set_option maxRecDepth 40000 in
set_option maxHeartbeats 4000000 in
theorem ref11_Memory_any (reg off : Int) (w : World) (hr : I64 reg) (ho : I64 off) :
    Calls Tryz.prog 9 #[.int .i64 reg, .int .i64 off] w fun e w' => e = .returned (.string (memS reg off)) ∧ w' = w := by
  have HN := hx (ref02_Name_any reg w hr.1 hr.2)
  have HP := hx (ref01_Format_any off w ho)
  have hns := nameOf_size reg
  have hnn := numS_size ho
  by_cases hin : (0 ≤ reg ∧ reg ≤ 10) ∧ (-32768 ≤ off ∧ off ≤ 32767)
  · have hm : memS reg off = ((⟨#[91]⟩ ++ nameOf reg) ++ offS off) ++ ⟨#[93]⟩ := if_pos hin
    obtain ⟨⟨a1, a2⟩, a3, a4⟩ := hin
    rw [hm]
    clear hm
    rcases Int.lt_trichotomy off 0 with h0 | h0 | h0
    · have ho' : offS off = numS off := by unfold offS; rw [if_neg (by omega), if_neg (by omega)]
      rw [ho']
      generalize nameOf reg = NM at *
      generalize numS off = NU at *
      clear ho' hr ho
      go_enter Tryz.func9, Tryz.ntmps9
      go_wp2_with (first
        | (go_at_call 17; refine HN.out.mono ?_; rintro e w1 ⟨rfl, rfl⟩)
        | (go_at_call 7; refine HP.out.mono ?_; rintro e w1 ⟨rfl, rfl⟩))
      go_ret
      exact ⟨rfl, rfl⟩
    · subst h0
      have ho' : offS 0 = ⟨#[]⟩ := by unfold offS; rw [if_pos rfl]
      rw [ho']
      generalize nameOf reg = NM at *
      clear ho' hr ho HP hnn
      go_enter Tryz.func9, Tryz.ntmps9
      go_wp2_with (first
        | (go_at_call 17; refine HN.out.mono ?_; rintro e w1 ⟨rfl, rfl⟩))
      go_ret
      exact ⟨rfl, rfl⟩
    · have ho' : offS off = ⟨#[43]⟩ ++ numS off := by unfold offS; rw [if_neg (by omega), if_pos h0]
      have hc1 : (⟨#[43]⟩ ++ numS off : ByteArray).size = 1 + (numS off).size := ByteArray.size_append
      rw [ho']
      generalize nameOf reg = NM at *
      generalize numS off = NU at *
      clear ho' hr ho
      go_enter Tryz.func9, Tryz.ntmps9
      go_wp2_with (first
        | (go_at_call 17; refine HN.out.mono ?_; rintro e w1 ⟨rfl, rfl⟩)
        | (go_at_call 7; refine HP.out.mono ?_; rintro e w1 ⟨rfl, rfl⟩))
      go_ret
      exact ⟨rfl, rfl⟩
  · have hm : memS reg off = ⟨#[]⟩ := if_neg hin
    rw [hm]
    clear hm hr ho HN HP hns hnn
    rcases Int.lt_or_le reg 0 with a1 | a1
    · go_enter Tryz.func9, Tryz.ntmps9
      go_wp2
      go_ret
      exact ⟨rfl, rfl⟩
    rcases Int.lt_or_le 10 reg with a2 | a2
    · go_enter Tryz.func9, Tryz.ntmps9
      go_wp2
      go_ret
      exact ⟨rfl, rfl⟩
    rcases Int.lt_or_le off (-32768) with a3 | a3
    · go_enter Tryz.func9, Tryz.ntmps9
      go_wp2
      go_ret
      exact ⟨rfl, rfl⟩
    have a4 : 32767 < off := by
      rcases Int.lt_or_le 32767 off with a4 | a4
      · exact a4
      · exact absurd ⟨⟨a1, a2⟩, a3, a4⟩ hin
    go_enter Tryz.func9, Tryz.ntmps9
    go_wp2
    go_ret
    exact ⟨rfl, rfl⟩
end Go.Proofs.YtocnmjpldpbioaaGreatDoor


set_option linter.unusedVariables false
set_option linter.unusedSimpArgs false
namespace Go.Proofs.YtocnmjpldpbioaaGreatDoor
open Go.RowKit

end Go.Proofs.YtocnmjpldpbioaaGreatDoor


set_option linter.unusedVariables false
set_option linter.unusedSimpArgs false
namespace Go.Proofs.YtocnmjpldpbioaaGreatDoor
open Go.RowKit

end Go.Proofs.YtocnmjpldpbioaaGreatDoor


set_option linter.unusedVariables false
namespace Go.Proofs.YtocnmjpldpbioaaGreatDoor
open Go.RowKit
end Go.Proofs.YtocnmjpldpbioaaGreatDoor


set_option linter.unusedVariables false
set_option linter.unusedSimpArgs false
namespace Go.Proofs.YtocnmjpldpbioaaGreatDoor
open Go.RowKit

theorem fBad_key (u : Bool) (n : Int) : (u = false ∧ (n == 0) = false ∧ (n != 0) = true ∧ fBad u n = true) ∨ (u = true ∧ fBad u n = false) ∨ (u = false ∧ n = 0 ∧ fBad u n = false) := by
 cases u with
 | true => exact .inr (.inl ⟨rfl, rfl⟩)
 | false =>
  by_cases h : n = 0
  ·exact .inr (.inr ⟨rfl, h, by subst h; rfl⟩)
  ·exact .inl ⟨rfl, by simpa using h, by simpa using h, by simp [fBad, h]⟩
theorem rule1_any (n : Int) (w : World) : Calls Tryz.prog 88 #[.int .i64 n] w fun e w' => e = .returned (.bool (regOk n)) ∧ w' = w := by
 by_cases h0 : 0 ≤ n
 ·have d0 : decide (n ≥ 0) = true := decide_eq_true h0
  by_cases h1 : n < 11
  ·have d1 : decide (n < 11) = true := decide_eq_true h1
   have hr : regOk n = true := decide_eq_true ⟨h0, by omega⟩
   rw [hr]
   go_enter Tryz.func88, Tryz.ntmps88
   go_wp2
   go_ret
   exact ⟨rfl, rfl⟩
  ·have d1 : decide (n < 11) = false := decide_eq_false h1
   have hr : regOk n = false := decide_eq_false (by omega)
   rw [hr]
   go_enter Tryz.func88, Tryz.ntmps88
   go_wp2
   go_ret
   exact ⟨rfl, rfl⟩
 ·have d0 : decide (n ≥ 0) = false := decide_eq_false h0
  have hr : regOk n = false := decide_eq_false (by omega)
  rw [hr]
  go_enter Tryz.func88, Tryz.ntmps88
  go_wp2
  go_ret
  exact ⟨rfl, rfl⟩
abbrev xCells (x : Ins) : Obj := .cells #[.int .i64 x.op, .bool x.reg, .int .i64 x.dst, .int .i64 x.src, .int .i64 x.off, .int .i64 x.imm] 31
abbrev fCells (u1 u2 u3 u4 : Bool) : Obj := .cells #[.bool u1, .bool u2, .bool u3, .bool u4] 101
abbrev fV (u1 u2 u3 u4 : Bool) : Value := .agg #[.bool u1, .bool u2, .bool u3, .bool u4]
set_option maxRecDepth 40000 in
set_option maxHeartbeats 4000000 in
theorem rule2_any (x : Ins) (u1 u2 u3 u4 : Bool) (w : World) (hx0 : x.Ok) (hO : OpsQ x.op w) :
  Calls Tryz.prog 89 #[x.v, fV u1 u2 u3 u4] w fun e w' => e = .returned (.bool (decide (formN x.op < 0))) ∧ Ext w w' := by
 have e0 := (Ext.new w (xCells x)).alloc (fCells u1 u2 u3 u4)
 have hc := opForm_any x.op _ hx0.op (hO.ext e0)
 unfold Ins.v
 have E0 := hx e0
 have H := hx hc
 generalize formN x.op = F at *
 clear hc hO hx0 e0
 go_enter Tryz.func89, Tryz.ntmps89
 go_wp2_with (go_at_call 26; refine H.out.mono ?_; rintro e w1 ⟨rfl, e1⟩)
 go_ret
 exact ⟨rfl, E0.out.trans e1⟩
set_option maxRecDepth 40000 in
set_option maxHeartbeats 4000000 in
theorem rule3_any (x : Ins) (u1 u2 u3 u4 : Bool) (w : World) (hx0 : x.Ok) (hO : OpsQ x.op w) :
  Calls Tryz.prog 90 #[x.v, fV u1 u2 u3 u4] w fun e w' => e = .returned (.bool (regBad x)) ∧ Ext w w' := by
 obtain ⟨op, reg, n1, n2, n3, n4⟩ := x
 have e0 := (Ext.new w (.cells #[.int .i64 op, .bool reg, .int .i64 n1, .int .i64 n2, .int .i64 n3, .int .i64 n4] 31)).alloc (fCells u1 u2 u3 u4)
 have HC := hx fun (W : World) (hW : Ext w W) => opForm_any op W hx0.op (hO.ext hW)
 unfold Ins.v
 have HB : Hx (regBad ⟨op, reg, n1, n2, n3, n4⟩ = (reg && !(formN op == 0) && !(formN op == 4))) := hx rfl
 have r0 := (RowV.new w [.int .i64 op, .bool reg, .int .i64 n1, .int .i64 n2, .int .i64 n3, .int .i64 n4] 31).ext (Ext.new _ (fCells u1 u2 u3 u4))
 have K0 := hx (r0.cell (i := 0) rfl)
 generalize formN op = F at *
 have E0 := hx e0
 clear hO hx0 e0 r0
 cases reg with
 | false =>
  go_enter Tryz.func90, Tryz.ntmps90
  go_wp2
  go_ret
  exact ⟨ret_bool (by rw [HB.out]; rfl), E0.out⟩
 | true =>
  by_cases h0 : F = 0
  ·subst h0
   go_enter Tryz.func90, Tryz.ntmps90
   go_wp2_with fail
   refine (HC.out _ E0.out).mono ?_
   rintro e w1 ⟨rfl, e1⟩
   go_wp2
   go_ret
   exact ⟨ret_bool (by rw [HB.out]; rfl), E0.out.trans e1⟩
  ·have d0 : (F == 0) = false := by simpa using h0
   have d0' : (F != 0) = true := by simpa using h0
   have D0 := hx d0
   clear h0
   go_enter Tryz.func90, Tryz.ntmps90
   go_wp2_with fail
   refine (HC.out _ E0.out).mono ?_
   rintro e w1 ⟨rfl, e1⟩
   have k1 := e1.cell K0.out
   go_wp2_with fail
   refine (HC.out _ (E0.out.trans e1)).mono ?_
   rintro e w2 ⟨rfl, e2⟩
   go_wp2
   go_ret
   exact ⟨ret_bool (by rw [HB.out, D0.out]; rfl), (E0.out.trans e1).trans e2⟩
set_option maxRecDepth 40000 in
set_option maxHeartbeats 8000000 in
theorem rule4_any (x : Ins) (u1 u2 u3 u4 : Bool) (w : World) :
  Calls Tryz.prog 91 #[x.v, fV u1 u2 u3 u4] w fun e w' => e = .returned (.bool (fBad u1 x.dst || fBad u2 x.src || fBad u3 x.off || fBad u4 x.imm)) ∧ Ext w w' := by
 have E0 := hx ((Ext.new w (xCells x)).alloc (fCells u1 u2 u3 u4))
 obtain ⟨op, reg, n1, n2, n3, n4⟩ := x
 unfold Ins.v
 dsimp only at *
 rcases fBad_key u1 n1 with ⟨rfl, z1, y1, b1⟩ | ⟨rfl, b1⟩ | ⟨rfl, rfl, b1⟩
 ·have B1 := hx b1
  clear b1
  go_enter Tryz.func91, Tryz.ntmps91
  go_wp2
  go_ret
  exact ⟨ret_bool (by rw [B1.out]; rfl), E0.out⟩
 all_goals
  rcases fBad_key u2 n2 with ⟨rfl, z2, y2, b2⟩ | ⟨rfl, b2⟩ | ⟨rfl, rfl, b2⟩
  ·have B1 := hx b1
   have B2 := hx b2
   clear b1 b2
   go_enter Tryz.func91, Tryz.ntmps91
   go_wp2
   go_ret
   exact ⟨ret_bool (by simp [B1.out, B2.out]), E0.out⟩
  all_goals
   rcases fBad_key u3 n3 with ⟨rfl, z3, y3, b3⟩ | ⟨rfl, b3⟩ | ⟨rfl, rfl, b3⟩
   ·have B1 := hx b1
    have B2 := hx b2
    have B3 := hx b3
    clear b1 b2 b3
    go_enter Tryz.func91, Tryz.ntmps91
    go_wp2
    go_ret
    exact ⟨ret_bool (by simp [B1.out, B2.out, B3.out]), E0.out⟩
   all_goals
    rcases fBad_key u4 n4 with ⟨rfl, z4, y4, b4⟩ | ⟨rfl, b4⟩ | ⟨rfl, rfl, b4⟩
    all_goals
     have B1 := hx b1
     have B2 := hx b2
     have B3 := hx b3
     have B4 := hx b4
     clear b1 b2 b3 b4
     go_enter Tryz.func91, Tryz.ntmps91
     go_wp2
     go_ret
     exact ⟨ret_bool (by simp [B1.out, B2.out, B3.out, B4.out]), E0.out⟩
set_option maxRecDepth 40000 in
set_option maxHeartbeats 4000000 in
theorem rule5_any (x : Ins) (u1 u2 u3 u4 : Bool) (g : Nat) (w : World) (hg : OneC w g (.func (.func 88) #[] #[]) 62) :
  Calls Tryz.prog 92 #[x.v, fV u1 u2 u3 u4, .pointer (some ⟨g, 0, none⟩)] w fun e w' => e = .returned (.bool (!(regOk x.dst && regOk x.src))) ∧ Ext w w' := by
 have e0 := (Ext.new w (xCells x)).alloc (fCells u1 u2 u3 u4)
 have kg := (hg.ext e0).cell
 have H1 := hx (fun W => rule1_any x.dst W)
 have H2 := hx (fun W => rule1_any x.src W)
 have E0 := hx e0
 unfold Ins.v
 generalize regOk x.dst = b1 at *
 generalize regOk x.src = b2 at *
 clear e0 hg
 cases b1 with
 | false =>
  go_enter Tryz.func92, Tryz.ntmps92
  go_wp2_with fail
  refine (H1.out _).mono ?_
  rintro e w1 ⟨rfl, rfl⟩
  go_wp2
  go_ret
  exact ⟨ret_bool rfl, E0.out⟩
 | true =>
  go_enter Tryz.func92, Tryz.ntmps92
  go_wp2_with fail
  refine (H1.out _).mono ?_
  rintro e w1 ⟨rfl, rfl⟩
  go_wp2_with fail
  refine (H2.out _).mono ?_
  rintro e w1 ⟨rfl, rfl⟩
  go_wp2
  go_ret
  exact ⟨ret_bool (by simp), E0.out⟩
end Go.Proofs.YtocnmjpldpbioaaGreatDoor


set_option linter.unusedVariables false
set_option linter.unusedSimpArgs false
namespace Go.Proofs.YtocnmjpldpbioaaGreatDoor
open Go.RowKit

set_option maxRecDepth 40000 in
set_option maxHeartbeats 4000000 in
theorem insnFits_any (x : Ins) (w : World) (hx0 : x.Ok) (hO : OpsQ x.op w) (hW : WidN w) :
    Calls Tryz.prog 94 #[x.v] w fun e w' => e = .returned (.bool (immOk x)) ∧ Ext w w' := by
  have e0 := Ext.new w (xCells x)
  have hc := opForm_any x.op _ hx0.op (hO.ext e0)
  have HN := hx fun (W : World) (h : Ext w W) => numFits32 x.imm W (hW.ext h) hx0.imm
  have hi : immOk x = if formN x.op = 10 then true else if formN x.op = 5 then decide (1 ≤ x.imm ∧ x.imm ≤ 3) else if formN x.op = 11 then decide (0 ≤ x.imm ∧ x.imm < 255) else fits32 x.imm := rfl
  have k5 : ((w.alloc (xCells x)).cell? ⟨w.heap.size, 5, none⟩ = some (.int .i64 x.imm)) := by simp
  unfold Ins.v
  generalize fits32 x.imm = FB at *
  have K5 := hx k5
  have E0 := hx e0
  clear hO hx0 e0 hW k5
  rcases form_cases x.op with h | h | h | h | h | h | h | h | h | h | h | h | h
  all_goals
    rw [h] at hc hi
    have H := hx hc
    have HI := hx hi
    clear hc hi h
  case inr.inr.inr.inr.inr.inr.inl =>
    by_cases h1 : x.imm ≥ 1
    · have d1 : decide (x.imm ≥ 1) = true := decide_eq_true h1
      by_cases h2 : x.imm ≤ 3
      · have d2 : decide (x.imm ≤ 3) = true := decide_eq_true h2
        have HR := hx (HI.out.trans (by simp; omega : _ = true))
        clear HI
        go_enter Tryz.func94, Tryz.ntmps94
        go_wp2_with (go_at_call 26; refine H.out.mono ?_; rintro e w1 ⟨rfl, e1⟩; have k5 := e1.cell K5.out)
        go_ret
        exact ⟨ret_bool HR.out.symm, E0.out.trans e1⟩
      · have d2 : decide (x.imm ≤ 3) = false := decide_eq_false h2
        have HR := hx (HI.out.trans (by simp; omega : _ = false))
        clear HI
        go_enter Tryz.func94, Tryz.ntmps94
        go_wp2_with (go_at_call 26; refine H.out.mono ?_; rintro e w1 ⟨rfl, e1⟩; have k5 := e1.cell K5.out)
        go_ret
        exact ⟨ret_bool HR.out.symm, E0.out.trans e1⟩
    · have d1 : decide (x.imm ≥ 1) = false := decide_eq_false h1
      have HR := hx (HI.out.trans (by simp; omega : _ = false))
      clear HI
      go_enter Tryz.func94, Tryz.ntmps94
      go_wp2_with (go_at_call 26; refine H.out.mono ?_; rintro e w1 ⟨rfl, e1⟩; have k5 := e1.cell K5.out)
      go_ret
      exact ⟨ret_bool HR.out.symm, E0.out.trans e1⟩
  case inr.inr.inr.inr.inr.inr.inr.inr.inr.inr.inr.inr =>
    by_cases h1 : x.imm ≥ 0
    · have d1 : decide (x.imm ≥ 0) = true := decide_eq_true h1
      by_cases h2 : x.imm < 255
      · have d2 : decide (x.imm < 255) = true := decide_eq_true h2
        have HR := hx (HI.out.trans (by simp; omega : _ = true))
        clear HI
        go_enter Tryz.func94, Tryz.ntmps94
        go_wp2_with (go_at_call 26; refine H.out.mono ?_; rintro e w1 ⟨rfl, e1⟩; have k5 := e1.cell K5.out)
        go_ret
        exact ⟨ret_bool HR.out.symm, E0.out.trans e1⟩
      · have d2 : decide (x.imm < 255) = false := decide_eq_false h2
        have HR := hx (HI.out.trans (by simp; omega : _ = false))
        clear HI
        go_enter Tryz.func94, Tryz.ntmps94
        go_wp2_with (go_at_call 26; refine H.out.mono ?_; rintro e w1 ⟨rfl, e1⟩; have k5 := e1.cell K5.out)
        go_ret
        exact ⟨ret_bool HR.out.symm, E0.out.trans e1⟩
    · have d1 : decide (x.imm ≥ 0) = false := decide_eq_false h1
      have HR := hx (HI.out.trans (by simp; omega : _ = false))
      clear HI
      go_enter Tryz.func94, Tryz.ntmps94
      go_wp2_with (go_at_call 26; refine H.out.mono ?_; rintro e w1 ⟨rfl, e1⟩; have k5 := e1.cell K5.out)
      go_ret
      exact ⟨ret_bool HR.out.symm, E0.out.trans e1⟩
  case inr.inr.inr.inr.inr.inr.inr.inr.inr.inr.inr.inl =>
    have HR := hx (HI.out.trans (by simp : _ = true))
    clear HI
    go_enter Tryz.func94, Tryz.ntmps94
    go_wp2_with (go_at_call 26; refine H.out.mono ?_; rintro e w1 ⟨rfl, e1⟩; have k5 := e1.cell K5.out)
    go_ret
    exact ⟨ret_bool HR.out.symm, E0.out.trans e1⟩
  all_goals
    have HR := hx (HI.out.trans (by simp : _ = FB))
    clear HI
    go_enter Tryz.func94, Tryz.ntmps94
    go_wp2_with fail
    refine H.out.mono ?_
    rintro e w1 ⟨rfl, e1⟩
    have k5 := e1.cell K5.out
    go_wp2_with fail
    refine (HN.out _ (E0.out.trans e1)).mono ?_
    rintro e w2 ⟨rfl, rfl⟩
    go_wp2
    go_ret
    exact ⟨ret_bool HR.out.symm, E0.out.trans e1⟩
set_option maxRecDepth 40000 in
set_option maxHeartbeats 4000000 in
theorem rule6_any (x : Ins) (u1 u2 u3 u4 : Bool) (w : World) (hx0 : x.Ok) (hO : OpsQ x.op w) (hW : WidN w) :
    Calls Tryz.prog 93 #[x.v, fV u1 u2 u3 u4] w fun e w' => e = .returned (.bool (!(fits16 x.off && immOk x))) ∧ Ext w w' := by
  have e0 := (Ext.new w (xCells x)).alloc (fCells u1 u2 u3 u4)
  have hn := numFits16 x.off _ (hW.ext e0) hx0.off
  have hf := insnFits_any x _ hx0 (hO.ext e0) (hW.ext e0)
  unfold Ins.v at *
  have E0 := hx e0
  generalize fits16 x.off = b1 at *
  generalize immOk x = b2 at *
  have HN := hx hn
  have HF := hx hf
  clear e0 hO hW hx0 hn hf
  cases b1 with
  | false =>
    go_enter Tryz.func93, Tryz.ntmps93
    go_wp2_with (go_at_call 16; refine HN.out.mono ?_; rintro e w1 ⟨rfl, rfl⟩)
    go_ret
    exact ⟨ret_bool rfl, E0.out⟩
  | true =>
    go_enter Tryz.func93, Tryz.ntmps93
    go_wp2_with fail
    refine HN.out.mono ?_
    rintro e w1 ⟨rfl, rfl⟩
    go_wp2_with fail
    refine HF.out.mono ?_
    rintro e w2 ⟨rfl, e2⟩
    go_wp2
    go_ret
    exact ⟨ret_bool (by simp), E0.out.trans e2⟩
/-- The list of the rules as it lies in memory. -/
def ruleCells (g : Nat) : List Value :=
  [.func (.func 89) #[] #[], .int .i64 6, .func (.func 90) #[] #[], .int .i64 12, .func (.func 91) #[] #[], .int .i64 12,
   .func (.func 92) #[] #[.pointer (some ⟨g, 0, none⟩)], .int .i64 5, .func (.func 93) #[] #[], .int .i64 4]
set_option maxRecDepth 40000 in
set_option maxHeartbeats 4000000 in
theorem insRules_any (w : World) :
    Calls Tryz.prog 57 #[] w fun e w' => ∃ b, e = .returned (.slice (some ⟨b, 0, none⟩) 5 5) ∧ OneC w' w.heap.size (.func (.func 88) #[] #[]) 62 ∧ RowV w' b 107 (ruleCells w.heap.size) ∧ Ext w w' := by
  go_enter Tryz.func57, Tryz.ntmps57
  go_wp2
  go_ret
  have hs : ∀ o, (w.alloc o).heap.size = w.heap.size + 1 := fun o => by simp
  refine ⟨w.heap.size + 1, rfl, (OneC.new w _ _).ext (Ext.new _ _), ?_, (Ext.new w _).alloc _⟩
  have h := RowV.new (w.alloc (.cells #[.func (.func 88) #[] #[]] 62)) (ruleCells w.heap.size) 107
  rw [hs] at h
  exact h
end Go.Proofs.YtocnmjpldpbioaaGreatDoor
