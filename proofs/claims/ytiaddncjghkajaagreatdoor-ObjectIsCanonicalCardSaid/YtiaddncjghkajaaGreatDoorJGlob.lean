/- The variables that the laid world holds, and the layer ident: inWord, Word. -/
import Derived.Test.YtiaddncjghkajaaGreatDoorJTabG
import Derived.Laws.RangeAny
set_option linter.unusedVariables false
set_option linter.unusedSimpArgs false
namespace Go.Proofs.YtiaddncjghkajaaGreatDoor
open Go.RowKit Go.Lib

/-- What the package variables hold, so far as the walks ask. -/
structure Glob (w : World) : Prop where
  props : Lib.TabIs Tryz.prog w "unicode.properties" .u8 Lib.propertiesTab
  esyn : ∃ tp p, w.var? Tryz.prog "strconv.ErrSyntax" = some #[.iface tp p]
  eran : ∃ tp p, w.var? Tryz.prog "strconv.ErrRange" = some #[.iface tp p]
theorem var_ext {P : Program} {w w' : World} {n : String} {cs : Array Value} (h : w.var? P n = some cs) (he : Ext w w') : w'.var? P n = some cs := by
  unfold World.var? at *
  cases hg : P.globalNamed n with
  | none => rw [hg] at h; exact h
  | some g =>
    rw [hg] at h
    simp only [Option.bind_some] at h ⊢
    cases ho : w.heap[g]? with
    | none => rw [ho] at h; cases h
    | some o => rw [he.obj ho]; rw [ho] at h; exact h
theorem Glob.ext {w w' : World} (h : Glob w) (he : Ext w w') : Glob w' := by
  obtain ⟨tp, p, h1⟩ := h.esyn
  obtain ⟨tp', p', h2⟩ := h.eran
  exact ⟨var_ext h.props he, ⟨tp, p, var_ext h1 he⟩, ⟨tp', p', var_ext h2 he⟩⟩

/-- A word character. -/
def inW (c : Int) : Bool := decide (c = 95 ∨ c = 46 ∨ (48 ≤ c ∧ c ≤ 57) ∨ (65 ≤ c ∧ c ≤ 90) ∨ (97 ≤ c ∧ c ≤ 122))
theorem inW_low {c : Nat} (h : c ≤ 127) (h1 : c ≠ 95) (h2 : c ≠ 46) : inW c = (Lib.isLetterL c || Lib.isDigitL c) := by
  unfold inW Lib.isLetterL Lib.isDigitL Lib.isUpperL Lib.isLowerL
  simp only [← Bool.decide_or, decide_eq_decide]
  omega
set_option maxRecDepth 20000 in
set_option maxHeartbeats 1000000 in
theorem inWord_any (c : Nat) (w : World) (hc : c ≤ 2147483647) (hG : Glob w) :
    Calls Tryz.prog 212 #[.int .i32 c] w fun e w' => e = .returned (.bool (inW c)) ∧ w' = w := by
  by_cases h1 : c = 95
  · subst h1
    go_enter Tryz.func212, Tryz.ntmps212
    go_wp2
    go_ret
    exact ⟨rfl, rfl⟩
  by_cases h2 : c = 46
  · subst h2
    go_enter Tryz.func212, Tryz.ntmps212
    go_wp2
    go_ret
    exact ⟨rfl, rfl⟩
  by_cases h3 : c ≤ 127
  · have hw := inW_low h3 h1 h2
    have hL := Tryz.unicode_IsLetter c w (by omega) hG.props
    have hD := Tryz.unicode_IsDigit (c : Int) w (by omega)
    have e1 : ((c : Int) == 95) = false := beq_eq_false_iff_ne.2 (by omega)
    have e2 : ((c : Int) == 46) = false := beq_eq_false_iff_ne.2 (by omega)
    have HW := hx hw
    clear hw hG
    generalize inW (c : Int) = B at *
    cases hl : Lib.isLetterL (c : Int) with
    | true =>
      rw [hl] at hL HW
      go_enter Tryz.func212, Tryz.ntmps212
      go_wp2_with (first | (go_at_call 218; refine hL.mono ?_; rintro e w' ⟨rfl, rfl⟩) | (go_at_call 205; refine hD.mono ?_; rintro e w' ⟨rfl, rfl⟩))
      go_ret
      exact ⟨ret_bool (by rw [HW.out]; simp), rfl⟩
    | false =>
      rw [hl] at hL HW
      go_enter Tryz.func212, Tryz.ntmps212
      go_wp2_with (first | (go_at_call 218; refine hL.mono ?_; rintro e w' ⟨rfl, rfl⟩) | (go_at_call 205; refine hD.mono ?_; rintro e w' ⟨rfl, rfl⟩))
      go_ret
      exact ⟨ret_bool (by rw [HW.out]; simp), rfl⟩
  · have e1 : ((c : Int) == 95) = false := beq_eq_false_iff_ne.2 (by omega)
    have e2 : ((c : Int) == 46) = false := beq_eq_false_iff_ne.2 (by omega)
    have hw : inW c = false := by unfold inW; simp; omega
    rw [hw]
    go_enter Tryz.func212, Tryz.ntmps212
    go_wp2
    go_ret
    exact ⟨rfl, rfl⟩
end Go.Proofs.YtiaddncjghkajaaGreatDoor


set_option linter.unusedVariables false
set_option linter.unusedSimpArgs false
namespace Go.Proofs.YtiaddncjghkajaaGreatDoor
open Go.RowKit Go.Lib

def wLen (l : List UInt8) : Nat := (l.takeWhile fun b => inW b.toNat).length
theorem wLen_stop {l : List UInt8} {p : Nat} {b : UInt8} (h : l[p]? = some b) (hw : inW b.toNat = false) : wLen (l.drop p) = 0 := by
  obtain ⟨hp, hb⟩ := List.getElem?_eq_some_iff.1 h
  rw [List.drop_eq_getElem_cons hp, hb]
  simp [wLen, List.takeWhile_cons, hw]
theorem wLen_go {l : List UInt8} {p : Nat} {b : UInt8} (h : l[p]? = some b) (hw : inW b.toNat = true) : wLen (l.drop p) = wLen (l.drop (p + 1)) + 1 := by
  obtain ⟨hp, hb⟩ := List.getElem?_eq_some_iff.1 h
  rw [List.drop_eq_getElem_cons hp, hb]
  simp [wLen, List.takeWhile_cons, hw]
theorem str_at {s : ByteArray} {p : Nat} (h : p < s.size) : s.data.toList[p]? = some (s[p]'h) := by
  have hp : p < s.data.toList.length := by simpa using h
  rw [List.getElem?_eq_getElem hp]
  rfl

set_option maxRecDepth 20000 in
set_option maxHeartbeats 1000000 in
theorem ident_Word_any (s : ByteArray) (w : World) (hs : s.size ≤ 281474976710656) (hG : Glob w) :
    Calls Tryz.prog 203 #[.string s] w fun e w' => e = .returned (.int .i64 (wLen s.data.toList)) ∧ Ext w w' := by
  have HG := hx hG
  clear hG
  go_enter Tryz.func203, Tryz.ntmps203
  go_wp2
  go_loopw [3] (fun _ wr => ∃ p, wr = w.iter s p ∧ p ≤ s.size ∧ wLen s.data.toList = p + wLen (s.data.toList.drop p)) (fun _ wr => s.size - wr.iterPos w.heap.size)
  case atStart => exact ⟨0, rfl, by omega, by simp⟩
  case round =>
    obtain ⟨p, rfl, hp, hl⟩ := hrel
    have HL := hx hl
    clear hl
    have hE : Ext w (w.iter s p) := Ext.new _ _
    by_cases hlt : p < s.size
    · have hb := hx (str_at hlt)
      have hnx := fun ty => run_next_any (P := Tryz.prog) w s p ty hlt
      by_cases ha : (s[p]'hlt).toNat < 128
      · have hd := decode_ascii s p hlt ha
        rw [hd] at hnx
        clear hd
        generalize (s[p]'hlt) = b at *
        have hc := fun p' => inWord_any b.toNat (w.iter s p') (by omega) (HG.out.ext (Ext.new _ _))
        have HC := hx hc
        clear hc
        cases hi : inW b.toNat with
        | true =>
          have hg := hx (wLen_go hb.out hi)
          rw [hi] at HC
          clear hi
          go_wp2_with (first | (go_at_call 212; refine (HC.out _).mono ?_; rintro e w' ⟨rfl, rfl⟩))
          go_roundw
          case rel => exact ⟨p + 1, rfl, by omega, by rw [HL.out, hg.out]; omega⟩
          case measure => simp; omega
        | false =>
          have hg := hx (wLen_stop hb.out hi)
          rw [hi] at HC
          clear hi
          go_wp2_with (first | (go_at_call 212; refine (HC.out _).mono ?_; rintro e w' ⟨rfl, rfl⟩))
          go_ret
          exact ⟨ret_int (by rw [HL.out, hg.out]; simp), Ext.new _ _⟩
      · have hd := decode_high s p hlt (by omega)
        have hd2 := decode_le s p
        have hi : inW (s[p]'hlt).toNat = false := by unfold inW; simp; omega
        have hg := hx (wLen_stop hb.out hi)
        have hi2 : inW (Utf8.decode s p).1 = false := by unfold inW; simp; omega
        generalize Utf8.decode s p = D at *
        obtain ⟨c, n⟩ := D
        have hc := fun p' => inWord_any c (w.iter s p') (by simpa using hd2) (HG.out.ext (Ext.new _ _))
        simp only at hi2
        rw [hi2] at hc
        have HC := hx hc
        clear hc hi hi2 hd hd2
        go_wp2_with (first | (go_at_call 212; refine (HC.out _).mono ?_; rintro e w' ⟨rfl, rfl⟩))
        go_ret
        exact ⟨ret_int (by rw [HL.out, hg.out]; simp), Ext.new _ _⟩
    · obtain rfl : p = s.size := by omega
      have hnx := fun ty => run_next_end (P := Tryz.prog) w s s.size ty hlt
      go_wp2
      go_ret
      exact ⟨ret_int (by rw [HL.out, List.drop_eq_nil_of_le (by simp)]; simp [wLen]), Ext.new _ _⟩

set_option maxRecDepth 20000 in
set_option maxHeartbeats 1000000 in
theorem ref02_in_any (c : Int) (w : World) (h0 : 0 ≤ c) (h1 : c < 256) :
    Calls Tryz.prog 130 #[.int .u8 c] w fun e w' => e = .returned (.bool (inW c)) ∧ w' = w := by
  obtain ⟨B, hB⟩ : ∃ B, B = inW c := ⟨_, rfl⟩
  have HB := hx hB
  rw [← hB]
  clear hB
  by_cases z1 : c = 95
  · subst z1
    go_enter Tryz.func130, Tryz.ntmps130
    go_wp2
    go_ret
    exact ⟨ret_bool (by rw [HB.out]; rfl), rfl⟩
  by_cases z2 : c = 46
  · subst z2
    go_enter Tryz.func130, Tryz.ntmps130
    go_wp2
    go_ret
    exact ⟨ret_bool (by rw [HB.out]; rfl), rfl⟩
  have e1 : (c == 95) = false := beq_eq_false_iff_ne.2 z1
  have e2 : (c == 46) = false := beq_eq_false_iff_ne.2 z2
  by_cases k1 : 97 ≤ c
  · by_cases k2 : c ≤ 122
    · go_enter Tryz.func130, Tryz.ntmps130
      go_wp2
      go_ret
      exact ⟨ret_bool (by rw [HB.out]; unfold inW; simp; omega), rfl⟩
    · go_enter Tryz.func130, Tryz.ntmps130
      go_wp2
      go_ret
      exact ⟨ret_bool (by rw [HB.out]; unfold inW; simp only [← Bool.decide_or, ← Bool.decide_and, decide_eq_decide]; omega), rfl⟩
  · by_cases k3 : 65 ≤ c
    · by_cases k4 : c ≤ 90
      · go_enter Tryz.func130, Tryz.ntmps130
        go_wp2
        go_ret
        exact ⟨ret_bool (by rw [HB.out]; unfold inW; simp; omega), rfl⟩
      · go_enter Tryz.func130, Tryz.ntmps130
        go_wp2
        go_ret
        exact ⟨ret_bool (by rw [HB.out]; unfold inW; simp only [← Bool.decide_or, ← Bool.decide_and, decide_eq_decide]; omega), rfl⟩
    · by_cases k5 : 48 ≤ c
      · by_cases k6 : c ≤ 57
        · go_enter Tryz.func130, Tryz.ntmps130
          go_wp2
          go_ret
          exact ⟨ret_bool (by rw [HB.out]; unfold inW; simp; omega), rfl⟩
        · go_enter Tryz.func130, Tryz.ntmps130
          go_wp2
          go_ret
          exact ⟨ret_bool (by rw [HB.out]; unfold inW; simp; omega), rfl⟩
      · go_enter Tryz.func130, Tryz.ntmps130
        go_wp2
        go_ret
        exact ⟨ret_bool (by rw [HB.out]; unfold inW; simp; omega), rfl⟩

set_option maxRecDepth 20000 in
set_option maxHeartbeats 1000000 in
theorem ref02_Word_any (s : ByteArray) (w : World) (hs : s.size ≤ 281474976710656) :
    Calls Tryz.prog 87 #[.string s] w fun e w' => e = .returned (.int .i64 (wLen s.data.toList)) ∧ w' = w := by
  go_enter Tryz.func87, Tryz.ntmps87
  go_wp2
  go_loop [3] (fun i => ∃ p : Nat, i = .int .i64 p ∧ p ≤ s.size ∧ wLen s.data.toList = p + wLen (s.data.toList.drop p)) (fun i => s.size - (RowKit.intOf i).toNat)
  case atStart => exact ⟨0, rfl, by omega, by simp⟩
  case round =>
    obtain ⟨p, rfl, hp, hl⟩ := hrel
    have HL := hx hl
    clear hl
    by_cases hlt : p < s.size
    · have hb := hx (str_at hlt)
      have hc := fun w => ref02_in_any ((s[p]'hlt).toNat : Int) w (by omega) (by have := (s[p]'hlt).toNat_lt; omega)
      have HC := hx hc
      clear hc
      cases hi : inW (s[p]'hlt).toNat with
      | true =>
        have hg := hx (wLen_go hb.out hi)
        rw [hi] at HC
        clear hi
        go_wp2_with (first | (go_at_call 130; refine (HC.out _).mono ?_; rintro e w' ⟨rfl, rfl⟩))
        go_round
        case rel => exact ⟨p + 1, by simp, by omega, by rw [HL.out, hg.out]; omega⟩
        case measure => simp [RowKit.intOf]; omega
      | false =>
        have hg := hx (wLen_stop hb.out hi)
        rw [hi] at HC
        clear hi
        go_wp2_with (first | (go_at_call 130; refine (HC.out _).mono ?_; rintro e w' ⟨rfl, rfl⟩))
        go_ret
        exact ⟨ret_int (by rw [HL.out, hg.out]; simp), rfl⟩
    · obtain rfl : p = s.size := by omega
      go_wp2
      go_ret
      exact ⟨ret_int (by rw [HL.out, List.drop_eq_nil_of_le (by simp)]; simp [wLen]), rfl⟩
end Go.Proofs.YtiaddncjghkajaaGreatDoor


set_option linter.unusedVariables false
set_option linter.unusedSimpArgs false
namespace Go.Proofs.YtiaddncjghkajaaGreatDoor
open Go.RowKit Go.Lib

def ddN (u : Nat) : List UInt8 := if u = 0 then [] else Lib.decDigits u
theorem dec_step (u : Nat) : Lib.decDigits u = ddN (u / 10) ++ [UInt8.ofNat (48 + u % 10)] := by
  unfold ddN
  by_cases h : u < 10
  · rw [Lib.decDigits_one h, if_pos (by omega), Nat.mod_eq_of_lt h]; rfl
  · rw [if_neg (by omega)]
    conv => lhs; rw [Lib.decDigits, dif_neg h]
def digs : ByteArray := ⟨#[48, 49, 50, 51, 52, 53, 54, 55, 56, 57]⟩
theorem dig_at (d : Nat) (h : d < 10) : digs.extract d (d + 1) = ⟨#[UInt8.ofNat (48 + d)]⟩ := by
  have : ∀ d : Fin 10, digs.extract d.val (d.val + 1) = ⟨#[UInt8.ofNat (48 + d.val)]⟩ := by decide +kernel
  exact this ⟨d, h⟩
def strL (l : List UInt8) : ByteArray := ⟨l.toArray⟩
theorem strL_cons (c : UInt8) (l : List UInt8) : (⟨#[c]⟩ : ByteArray) ++ strL l = strL (c :: l) := by
  apply ByteArray.ext
  apply Array.ext'
  rw [ByteArray.toList_data_append]
  simp [strL]
theorem strL_size (l : List UInt8) : (strL l).size = l.length := by simp [strL, ByteArray.size]
theorem strL_ne {l : List UInt8} (h : l ≠ []) : (strL l).toList.isEmpty = false := toList_ne (by rw [strL_size]; exact fun e => h (List.eq_nil_of_length_eq_zero e))

def emp : Value → Nat | .string b => if b.size = 0 then 1 else 0 | _ => 0
theorem emp_strL (l : List UInt8) : emp (.string (strL l)) = if l.length = 0 then 1 else 0 := by simp [emp, strL_size]
theorem slice_dig (w : World) (d : Nat) (h : d < 10) : (Instr.slice 9 (.string ⟨#[48, 49, 50, 51, 52, 53, 54, 55, 56, 57]⟩) (some (.int .u64 (d : Int))) (some (.int .u64 ((d : Int) + 1))) none).run Tryz.prog w = .ok (.string ⟨#[UInt8.ofNat (48 + d)]⟩) w := by
  have hd := dig_at d h
  unfold digs at hd
  have hsz : (⟨#[48, 49, 50, 51, 52, 53, 54, 55, 56, 57]⟩ : ByteArray).size = 10 := rfl
  have e0 : (0 : Int) ≤ (d : Int) := by omega
  have e1 : (d : Int) ≤ (d : Int) + 1 := by omega
  have e2 : ((d : Int) + 1).toNat = d + 1 := by omega
  have e3 : (0 : Int) ≤ (d : Int) + 1 ∧ (d : Int) + 1 ≤ 10 := by omega
  simp [Instr.slice, run_underlying Tryz.underlying9, Instr.sliceBounds, Instr.sliceBound, asIntOf, hsz, e2, e3, e0, hd]
theorem pow_len {u k : Nat} (h : u * 10 ^ k ≤ 9223372036854775807) (hu : 0 < u) : k ≤ 18 := by
  refine Nat.le_of_lt_succ (Nat.lt_of_not_le fun hk => ?_)
  have h1 : 10 ^ 19 ≤ 10 ^ k := Nat.pow_le_pow_right (by decide) hk
  have h2 : 1 * 10 ^ k ≤ u * 10 ^ k := Nat.mul_le_mul_right _ hu
  have h3 : (10 : Nat) ^ 19 = 10000000000000000000 := by decide
  omega
theorem pow_step {u k : Nat} (h : u * 10 ^ k ≤ 9223372036854775807) : u / 10 * 10 ^ (k + 1) ≤ 9223372036854775807 := by
  have h1 : u / 10 * 10 ≤ u := Nat.div_mul_le_self u 10
  have h2 : u / 10 * 10 * 10 ^ k ≤ u * 10 ^ k := Nat.mul_le_mul_right _ h1
  have h3 : u / 10 * 10 ^ (k + 1) = u / 10 * 10 * 10 ^ k := by rw [Nat.pow_succ, Nat.mul_comm (10 ^ k) 10, Nat.mul_assoc]
  omega
set_option maxRecDepth 20000 in
set_option maxHeartbeats 1000000 in
theorem ref01_Format_nat (n : Nat) (w : World) (hn : n ≤ 9223372036854775807) :
    Calls Tryz.prog 177 #[.int .i64 n] w fun e w' => e = .returned (.string (strL (Lib.decDigits n))) ∧ w' = w := by
  go_enter Tryz.func177, Tryz.ntmps177
  go_wp2
  go_loop [4, 5] (fun r s => ∃ (u : Nat) (l : List UInt8), r = .int .u64 u ∧ s = .string (strL l) ∧ u ≤ 9223372036854775807 ∧ l.length ≤ 20 ∧ Hx (u * 10 ^ l.length ≤ 9223372036854775807) ∧ ((l = [] ∧ u = n) ∨ (l ≠ [] ∧ ddN u ++ l = Lib.decDigits n))) (fun r s => 2 * (RowKit.intOf r).toNat + emp s)
  case atStart => exact ⟨n, [], rfl, rfl, hn, by simp, ⟨by simpa using hn⟩, .inl ⟨rfl, rfl⟩⟩
  case round =>
    obtain ⟨u, l, rfl, rfl, hu, hll, hpw, hr⟩ := hrel
    have HR := hx hr
    clear hr
    have hd := slice_dig w (u % 10) (by omega)
    rw [Int.natCast_emod] at hd
    simp only [Int.cast_ofNat_Int] at hd
    have hds := hx (dec_step u)
    have hcc := strL_cons (UInt8.ofNat (48 + u % 10)) l
    have hls := strL_size l
    have hc1 : (⟨#[UInt8.ofNat (48 + u % 10)]⟩ : ByteArray).size = 1 := rfl
    have hsm : ¬ 9223372036854775807 < (⟨#[UInt8.ofNat (48 + u % 10)]⟩ : ByteArray).size + (strL l).size := by rw [hc1, hls]; omega
    have HCC := hx hcc
    by_cases hu0 : 0 < u
    · have hl18 := pow_len hpw.out hu0
      clear hcc hls hc1
      generalize hS : strL l = S at *
      generalize hC : (⟨#[UInt8.ofNat (48 + u % 10)]⟩ : ByteArray) = C at *
      have HS := hx hS
      clear hS hC
      go_wp2
      go_round
      case rel =>
        refine ⟨u / 10, UInt8.ofNat (48 + u % 10) :: l, by simp, by rw [HCC.out], by omega, by simp; omega, ⟨pow_step hpw.out⟩, .inr ⟨by simp, ?_⟩⟩
        rcases HR.out with ⟨rfl, rfl⟩ | ⟨hne, h⟩
        · rw [hds.out]
        · rw [← h, show ddN u = Lib.decDigits u from if_neg (by omega), hds.out]; simp
      case measure =>
        rw [HCC.out, emp_strL, ← HS.out, emp_strL]
        simp [RowKit.intOf]; split <;> omega
    · obtain rfl : u = 0 := by omega
      cases l with
      | nil =>
        have hn0 : n = 0 := by rcases HR.out with ⟨_, h⟩ | ⟨h, _⟩ <;> simp_all
        have hem : (strL []).toList.isEmpty = true := by rw [Go.ByteArray.toList_eq]; rfl
        have hsz : ¬ 9223372036854775807 < 1 + (strL []).size := by rw [strL_size]; simp
        have hx1 := hx (show (⟨#[48, 49, 50, 51, 52, 53, 54, 55, 56, 57]⟩ : ByteArray).extract 0 1 ++ strL [] = strL [48] from by
          rw [show (⟨#[48, 49, 50, 51, 52, 53, 54, 55, 56, 57]⟩ : ByteArray).extract 0 1 = ⟨#[48]⟩ from dig_at 0 (by decide)]; exact strL_cons _ _)
        generalize hS : strL [] = S at *
        have HS := hx hS
        clear hS hcc hls hc1 hd hsm HCC
        go_wp2
        go_round
        case rel => exact ⟨0, [48], by simp, by rw [hx1.out], by omega, by simp, ⟨by simp⟩, .inr ⟨by simp, by rw [hn0, dec_step 0]; rfl⟩⟩
        case measure => rw [hx1.out, emp_strL, ← HS.out, emp_strL]; simp [RowKit.intOf]
      | cons c l =>
        have hd2 : strL (c :: l) = strL (Lib.decDigits n) := by rcases HR.out with ⟨h, _⟩ | ⟨_, h⟩ <;> simp_all [ddN]
        have hem := strL_ne (l := c :: l) (by simp)
        have HD := hx hd2
        clear hd2 hcc hls hc1 hd
        generalize hS : strL (c :: l) = S at *
        clear hS
        go_wp2
        go_ret
        exact ⟨ret_str HD.out, rfl⟩
end Go.Proofs.YtiaddncjghkajaaGreatDoor
