/- The layer ident: Name and Register. -/
import Derived.Test.YtiaddncjghkajaaGreatDoorJGlob
import Derived.Lib.SmallJoins
import Derived.Lib.AtoiAllCases
set_option linter.unusedVariables false
set_option linter.unusedSimpArgs false
namespace Go.Proofs.YtiaddncjghkajaaGreatDoor
open Go.RowKit Go.Lib

def nameOf (n : Int) : ByteArray := if 0 ≤ n ∧ n ≤ 10 then strL (114 :: Lib.decDigits n.toNat) else ⟨#[]⟩
theorem nameOf_in {n : Nat} (h : n ≤ 10) : nameOf n = strL (114 :: Lib.decDigits n) := by unfold nameOf; rw [if_pos (by omega)]; rfl
theorem nameOf_out {n : Int} (h : ¬ (0 ≤ n ∧ n ≤ 10)) : nameOf n = ⟨#[]⟩ := by unfold nameOf; rw [if_neg h]
theorem dec_len {n : Nat} (h : n ≤ 10) : (Lib.decDigits n).length ≤ 2 := by
  by_cases h1 : n < 10
  · rw [Lib.decDigits_one h1]; simp
  · rw [Lib.decDigits_two h1 (by omega)]; simp
set_option maxRecDepth 20000 in
set_option maxHeartbeats 1000000 in
theorem ident_Name_any (n : Int) (w : World) (h0 : -9223372036854775808 ≤ n) (h1 : n ≤ 9223372036854775807) :
    Calls Tryz.prog 214 #[.int .i64 n] w fun e w' => e = .returned (.string (nameOf n)) ∧ w' = w := by
  by_cases hin : 0 ≤ n ∧ n ≤ 10
  · obtain ⟨k, rfl⟩ := Int.eq_ofNat_of_zero_le hin.1
    have hk : k ≤ 10 := by omega
    have hn := nameOf_in hk
    have hc : Calls Tryz.prog 221 #[.int .i64 (k : Int)] w fun e w' => e = .returned (.string (strL (Lib.decDigits k))) ∧ w' = w := Tryz.strconv_Itoa_small k (by omega) w
    have hcc := strL_cons 114 (Lib.decDigits k)
    have hls := dec_len hk
    have hsm : ¬ 9223372036854775807 < 1 + (strL (Lib.decDigits k)).size := by rw [strL_size]; omega
    generalize strL (Lib.decDigits k) = S at *
    rw [hn, ← hcc]
    clear hn hcc
    have hk2 : ¬ (11 : Int) ≤ (k : Int) := by omega
    go_enter Tryz.func214, Tryz.ntmps214
    go_wp2_with (first | (go_at_call 221; refine hc.mono ?_; rintro e w' ⟨rfl, rfl⟩))
    go_ret
    exact ⟨rfl, rfl⟩
  · rw [nameOf_out hin]
    by_cases hneg : n < 0
    · go_enter Tryz.func214, Tryz.ntmps214
      go_wp2
      go_ret
      exact ⟨rfl, rfl⟩
    · have hge : 11 ≤ n := by omega
      go_enter Tryz.func214, Tryz.ntmps214
      go_wp2
      go_ret
      exact ⟨rfl, rfl⟩
set_option maxRecDepth 20000 in
set_option maxHeartbeats 1000000 in
theorem ref02_Name_any (n : Int) (w : World) (h0 : -9223372036854775808 ≤ n) (h1 : n ≤ 9223372036854775807) :
    Calls Tryz.prog 129 #[.int .i64 n] w fun e w' => e = .returned (.string (nameOf n)) ∧ w' = w := by
  by_cases hin : 0 ≤ n ∧ n ≤ 10
  · obtain ⟨k, rfl⟩ := Int.eq_ofNat_of_zero_le hin.1
    have hk : k ≤ 10 := by omega
    have hn := nameOf_in hk
    have hc := ref01_Format_nat k w (by omega)
    have hcc := strL_cons 114 (Lib.decDigits k)
    have hls := dec_len hk
    have hsm : ¬ 9223372036854775807 < 1 + (strL (Lib.decDigits k)).size := by rw [strL_size]; omega
    generalize strL (Lib.decDigits k) = S at *
    rw [hn, ← hcc]
    clear hn hcc
    have hk2 : ¬ (10 : Int) < (k : Int) := by omega
    go_enter Tryz.func129, Tryz.ntmps129
    go_wp2_with (first | (go_at_call 177; refine hc.mono ?_; rintro e w' ⟨rfl, rfl⟩))
    go_ret
    exact ⟨rfl, rfl⟩
  · rw [nameOf_out hin]
    by_cases hneg : n < 0
    · go_enter Tryz.func129, Tryz.ntmps129
      go_wp2
      go_ret
      exact ⟨rfl, rfl⟩
    · have hge : 10 < n := by omega
      go_enter Tryz.func129, Tryz.ntmps129
      go_wp2
      go_ret
      exact ⟨rfl, rfl⟩

/-- The number of a register, if it is one. -/
def regNo (s : ByteArray) : Option Nat := (List.range 11).find? fun n => nameOf n = s
def regB (s : ByteArray) : Bool := (regNo s).isSome
def regN (s : ByteArray) : Int := match regNo s with | none => 0 | some n => n

set_option maxRecDepth 20000 in
set_option maxHeartbeats 1000000 in
theorem ref02_Register_any (s : ByteArray) (w : World) (hs : s.size ≤ 281474976710656) :
    Calls Tryz.prog 86 #[.string s] w fun e w' => e = .returned (.tuple #[.int .i64 (regN s), .bool (regB s)]) ∧ w' = w := by
  go_enter Tryz.func86, Tryz.ntmps86
  go_wp2
  go_loop [4] (fun i => ∃ k : Nat, i = .int .i64 k ∧ k ≤ 11 ∧ ∀ j, j < k → nameOf j ≠ s) (fun i => 11 - (RowKit.intOf i).toNat)
  case atStart => exact ⟨0, rfl, by omega, fun j h => by omega⟩
  case round =>
    obtain ⟨k, rfl, hk, hno⟩ := hrel
    have HN := hx hno
    clear hno
    by_cases hlt : k ≤ 10
    · have hc := ref02_Name_any k w (by omega) (by omega)
      by_cases he : nameOf k = s
      · have hr : regNo s = some k := by
          unfold regNo
          rw [List.find?_range_eq_some]
          exact ⟨by simpa using he, by simp; omega, fun j hj => by simpa using HN.out j hj⟩
        have HR := hx hr
        clear hr
        rw [he] at hc
        clear he
        go_wp2_with (first | (go_at_call 129; refine hc.mono ?_; rintro e w' ⟨rfl, rfl⟩))
        go_ret2
        exact ⟨by rw [regN, regB, HR.out]; rfl, rfl⟩
      · have he2 : (s.toList == (nameOf k).toList) = false := by
          refine beq_eq_false_iff_ne.2 fun e => he ?_
          rw [Go.ByteArray.toList_eq, Go.ByteArray.toList_eq] at e
          exact ByteArray.ext (Array.ext' e.symm)
        have HE := hx he
        clear he
        generalize hS : nameOf k = S at *
        have HS := hx hS
        clear hS
        go_wp2_with (first | (go_at_call 129; refine hc.mono ?_; rintro e w' ⟨rfl, rfl⟩))
        go_round
        case rel => exact ⟨k + 1, by simp, by omega, fun j hj => by
          by_cases h : j = k
          · subst h; rw [HS.out]; exact HE.out
          · exact HN.out j (by omega)⟩
        case measure => simp [RowKit.intOf]; omega
    · have hr : regNo s = none := by
        unfold regNo
        rw [List.find?_eq_none]
        intro j hj
        simp at hj
        simpa using HN.out j (by omega)
      have HR := hx hr
      clear hr
      go_wp2
      go_ret2
      exact ⟨by rw [regN, regB, HR.out]; rfl, rfl⟩

/-- What Atoi makes of a register's number. -/
theorem atoi_dec {n : Nat} (h : n ≤ 10) : Lib.atoiAll (Lib.decDigits n) = .ok n := by
  have h' : ∀ n : Fin 11, Lib.atoiAll (Lib.decDigits n.val) = .ok (n.val : Int) := by decide +kernel
  exact h' ⟨n, by omega⟩
theorem name_inj {a b : Nat} (ha : a ≤ 10) (hb : b ≤ 10) (h : nameOf a = nameOf b) : a = b := by
  have h' : ∀ a b : Fin 11, nameOf (a.val : Int) = nameOf (b.val : Int) → a = b := by decide +kernel
  have := h' ⟨a, by omega⟩ ⟨b, by omega⟩ h
  exact congrArg Fin.val this
theorem regNo_name {n : Nat} (h : n ≤ 10) : regNo (nameOf n) = some n := by
  unfold regNo
  rw [List.find?_range_eq_some]
  refine ⟨by simp, by simp; omega, fun j hj => ?_⟩
  have : nameOf j ≠ nameOf n := fun e => by have := name_inj (by omega) h e; omega
  simpa using this
theorem regNo_some {s : ByteArray} {n : Nat} (h : regNo s = some n) : n ≤ 10 ∧ nameOf n = s := by
  unfold regNo at h
  rw [List.find?_range_eq_some] at h
  have h2 := h.2.1
  simp at h2
  exact ⟨by omega, by simpa using h.1⟩
end Go.Proofs.YtiaddncjghkajaaGreatDoor


set_option linter.unusedVariables false
set_option linter.unusedSimpArgs false
namespace Go.Proofs.YtiaddncjghkajaaGreatDoor
open Go.RowKit Go.Lib

theorem regNo_cons {s : ByteArray} {n : Nat} (h : regNo s = some n) : n ≤ 10 ∧ s.data.toList = 114 :: Lib.decDigits n := by
  obtain ⟨hn, hs⟩ := regNo_some h
  refine ⟨hn, ?_⟩
  rw [← hs, nameOf_in hn]; rfl
theorem dec_ne (n : Nat) : Lib.decDigits n ≠ [] := by rw [dec_step]; simp
theorem regNo_short {s : ByteArray} (h : s.size < 2) : regNo s = none := by
  cases hr : regNo s with
  | none => rfl
  | some n =>
    obtain ⟨_, h2⟩ := regNo_cons hr
    have h3 : s.data.toList.length = s.size := by simp
    rw [h2] at h3
    have := List.length_pos_iff.2 (dec_ne n)
    simp at h3; omega
theorem regNo_head {s : ByteArray} {b : UInt8} (h : s.data.toList[0]? = some b) (hb : b ≠ 114) : regNo s = none := by
  cases hr : regNo s with
  | none => rfl
  | some n =>
    obtain ⟨_, h2⟩ := regNo_cons hr
    rw [h2] at h
    simp at h
    exact absurd h.symm hb
theorem regNo_atoi {s : ByteArray} {n : Nat} (h : regNo s = some n) : Lib.atoiAll (s.data.toList.drop 1) = .ok n := by
  obtain ⟨hn, h2⟩ := regNo_cons h
  rw [h2]; exact atoi_dec hn
theorem bytesWorld_ext (w : World) (t : TypeId) (s : ByteArray) : Ext w (Lib.bytesWorld w t s) := by
  exact Go.Joins.below_bytesWorld _ w t s (Nat.le_refl _)
theorem extract_tail (s : ByteArray) : (s.extract 1 s.size).data.toList = s.data.toList.drop 1 := by
  rw [ByteArray.data_extract, Array.toList_extract]
  simp [List.extract]
  exact List.take_of_length_le (by simp)

set_option maxRecDepth 20000 in
set_option maxHeartbeats 1000000 in
theorem ident_Register_any (s : ByteArray) (w : World) (hs : s.size ≤ 281474976710656) (hG : Glob w) :
    Calls Tryz.prog 204 #[.string s] w fun e w' => e = .returned (.tuple #[.int .i64 (regN s), .bool (regB s)]) ∧ Ext w w' := by
  by_cases h2 : s.size < 2
  · have hr := regNo_short h2
    have h1 : regN s = 0 := by rw [regN, hr]
    have h3 : regB s = false := by rw [regB, hr]; rfl
    rw [h1, h3]
    go_enter Tryz.func204, Tryz.ntmps204
    go_wp2
    go_ret2
    exact ⟨rfl, Ext.refl _⟩
  · have hlt : 0 < s.size := by omega
    have hat := str_at hlt
    by_cases hb : (s[0]'hlt) = 114
    · have htl := extract_tail s
      have hne : s.data.toList[0]? = some 114 := by rw [hat, hb]
      have hbn : (((s[0]'hlt).toNat : Int) != 114) = false := by rw [hb]; rfl
      have hxs : (s.extract 1 s.size).size ≤ 281474976710656 := by
        rw [ByteArray.size_extract]; omega
      have HA := hx (fun n (h : regNo s = some n) => regNo_atoi h)
      rw [← htl] at HA
      clear hat hb htl hne
      cases hv : Lib.atoiAll (s.extract 1 s.size).data.toList with
      | ok v =>
        have hc := Tryz.strconv_Atoi_ok (s.extract 1 s.size) (by omega) v hv w
        have hvb : -9223372036854775808 ≤ v ∧ v ≤ 9223372036854775807 := Lib.atoiAll_bounds hv
        have hn := fun W => ident_Name_any v W hvb.1 hvb.2
        have e2 : ∀ w', (w' = w ∨ ∃ t, w' = Lib.bytesWorld w 5 t) → Ext w w' := by
          rintro w' (rfl | ⟨t, rfl⟩)
          · exact Ext.refl _
          · exact bytesWorld_ext _ _ _
        have hc2 := hc.mono (R' := fun e w' => e = .returned (.tuple #[.int .i64 v, .nilIface]) ∧ Ext w w') (fun e w' h => ⟨h.1, e2 w' h.2⟩)
        by_cases he : nameOf v = s
        · have hin : 0 ≤ v ∧ v ≤ 10 := by
            refine Decidable.byContradiction fun hno => ?_
            rw [nameOf_out hno] at he
            rw [← he] at h2; exact h2 (by decide)
          obtain ⟨k, rfl⟩ := Int.eq_ofNat_of_zero_le hin.1
          have hr : regNo s = some k := by rw [← he]; exact regNo_name (by omega)
          have h1 := hx (show regN s = k by rw [regN, hr])
          have h3 := hx (show regB s = true by rw [regB, hr]; rfl)
          rw [he] at hn
          clear hr hv HA hG e2 hc he
          go_enter Tryz.func204, Tryz.ntmps204
          go_wp2_with (first | (go_at_call 213; refine hc2.mono ?_; rintro e w1 ⟨rfl, e1⟩) | (go_at_call 214; refine (hn _).mono ?_; rintro e w' ⟨rfl, rfl⟩))
          go_ret2
          exact ⟨by rw [h1.out, h3.out]; rfl, e1⟩
        · have hr : regNo s = none := by
            cases hr : regNo s with
            | none => rfl
            | some n =>
              have h := HA.out n hr
              rw [hv] at h
              injection h with h
              exact absurd (by rw [h]; exact (regNo_some hr).2) he
          have h1 := hx (show regN s = 0 by rw [regN, hr])
          have h3 := hx (show regB s = false by rw [regB, hr]; rfl)
          have he2 : ((nameOf v).toList == s.toList) = false := by
            refine beq_eq_false_iff_ne.2 fun e => he ?_
            rw [Go.ByteArray.toList_eq, Go.ByteArray.toList_eq] at e
            exact ByteArray.ext (Array.ext' e)
          have he3 : (nameOf v).toList ≠ s.toList := beq_eq_false_iff_ne.1 he2
          generalize nameOf v = S at *
          clear hr hv HA hG e2 hc he
          go_enter Tryz.func204, Tryz.ntmps204
          go_wp2_with (first | (go_at_call 213; refine hc2.mono ?_; rintro e w1 ⟨rfl, e1⟩) | (go_at_call 214; refine (hn _).mono ?_; rintro e w' ⟨rfl, rfl⟩))
          go_ret2
          exact ⟨by rw [h1.out, h3.out]; rfl, e1⟩
      | range =>
        obtain ⟨tp, p, hvar⟩ := hG.eran
        have hc := Tryz.strconv_Atoi_range_var (s.extract 1 s.size) hxs hv tp p w hvar
        have hr : regNo s = none := by
          cases hr : regNo s with
          | none => rfl
          | some n => have := HA.out n hr; rw [hv] at this; cases this
        have h1 : regN s = 0 := by rw [regN, hr]
        have h3 : regB s = false := by rw [regB, hr]; rfl
        rw [h1, h3]
        clear hr h1 h3 hv HA hG
        go_enter Tryz.func204, Tryz.ntmps204
        go_wp2_with (first | (go_at_call 213; refine hc.mono ?_; rintro e w1 ⟨N, rfl, -, -, e1⟩))
        go_ret2
        exact ⟨rfl, e1⟩
      | _ =>
        obtain ⟨tp, p, hvar⟩ := hG.esyn
        have hc := Tryz.strconv_Atoi_syntax_var (s.extract 1 s.size) hxs hv tp p w hvar
        have hr : regNo s = none := by
          cases hr : regNo s with
          | none => rfl
          | some n => have := HA.out n hr; rw [hv] at this; cases this
        have h1 : regN s = 0 := by rw [regN, hr]
        have h3 : regB s = false := by rw [regB, hr]; rfl
        rw [h1, h3]
        clear hr h1 h3 hv HA hG
        go_enter Tryz.func204, Tryz.ntmps204
        go_wp2_with (first | (go_at_call 213; refine hc.mono ?_; rintro e w1 ⟨N, rfl, -, -, e1⟩))
        go_ret2
        exact ⟨rfl, e1⟩
    · have hr := regNo_head hat hb
      have h1 : regN s = 0 := by rw [regN, hr]
      have h3 : regB s = false := by rw [regB, hr]; rfl
      rw [h1, h3]
      have hbn : (((s[0]'hlt).toNat : Int) != 114) = true := by
        simp only [bne_iff_ne, ne_eq]
        intro e
        exact hb (by apply UInt8.toNat.inj; show _ = 114; omega)
      clear hr h1 h3 hat
      go_enter Tryz.func204, Tryz.ntmps204
      go_wp2
      go_ret2
      exact ⟨rfl, Ext.refl _⟩
end Go.Proofs.YtiaddncjghkajaaGreatDoor


set_option linter.unusedVariables false
set_option linter.unusedSimpArgs false
namespace Go.Proofs.YtiaddncjghkajaaGreatDoor
open Go.RowKit Go.Lib

def dig0 (s : ByteArray) : Bool := match s.data.toList with | [] => false | b :: _ => Lib.isDigitL (b.toNat : Int)
/-- An identifier. -/
def idB (s : ByteArray) : Bool := decide (s.size ≠ 0 ∧ s.size ≤ 32 ∧ wLen s.data.toList = s.size) && (!regB s && !dig0 s)
theorem wLen_le (l : List UInt8) : wLen l ≤ l.length := (List.takeWhile_sublist _).length_le
theorem dig0_eq {s : ByteArray} (h : 0 < s.size) : dig0 s = Lib.isDigitL ((s[0]'h).toNat : Int) := by
  have := str_at h
  unfold dig0
  cases hl : s.data.toList with
  | nil => rw [hl] at this; cases this
  | cons b l => rw [hl] at this; simp at this; rw [this]

set_option maxRecDepth 20000 in
set_option maxHeartbeats 1000000 in
theorem ident_Valid_any (s : ByteArray) (w : World) (hs : s.size ≤ 281474976710656) (hG : Glob w) :
    Calls Tryz.prog 188 #[.string s] w fun e w' => e = .returned (.bool (idB s)) ∧ Ext w w' := by
  by_cases h0 : s.size = 0
  · have hid : idB s = false := by simp [idB, h0]
    have hem : s.toList.isEmpty = true := by
      rw [Go.ByteArray.toList_eq, List.isEmpty_iff]
      exact List.eq_nil_of_length_eq_zero (by simpa using h0)
    rw [hid]
    go_enter Tryz.func188, Tryz.ntmps188
    go_wp2
    go_ret
    exact ⟨rfl, Ext.refl _⟩
  have hem := toList_ne h0
  have hem2 : s.toList ≠ [] := by intro e; rw [e] at hem; cases hem
  by_cases h32 : 32 < s.size
  · have hid : idB s = false := by simp [idB]; omega
    rw [hid]
    go_enter Tryz.func188, Tryz.ntmps188
    go_wp2
    go_ret
    exact ⟨rfl, Ext.refl _⟩
  have hW := ident_Word_any s w hs hG
  by_cases hw : wLen s.data.toList = s.size
  · have hlt : 0 < s.size := by omega
    have hR := fun W (h : Ext w W) => ident_Register_any s W hs (hG.ext h)
    have HR := hx hR
    rw [hw] at hW
    have hid := hx (show idB s = (!regB s && !Lib.isDigitL ((s[0]'hlt).toNat : Int)) by
      unfold idB; rw [dig0_eq hlt]; simp [h0, hw]; omega)
    have hD := fun W => Tryz.unicode_IsDigit (((s[0]'hlt).toNat : Nat) : Int) W (by have := (s[0]'hlt).toNat_lt; omega)
    clear hR hG hw
    cases hr : regB s with
    | true =>
      rw [hr] at hid HR
      go_enter Tryz.func188, Tryz.ntmps188
      go_wp2_with (first | (go_at_call 203; refine hW.mono ?_; rintro e w1 ⟨rfl, e1⟩; have hR1 := HR.out w1 e1) | (go_at_call 204; refine hR1.mono ?_; rintro e w2 ⟨rfl, e2⟩; replace e2 := e1.trans e2) | (go_at_call 205; refine (hD _).mono ?_; rintro e w' ⟨rfl, rfl⟩))
      go_ret
      exact ⟨ret_bool (by rw [hid.out]; rfl), e2⟩
    | false =>
      rw [hr] at hid HR
      have hdl := (s[0]'hlt).toNat_lt
      go_enter Tryz.func188, Tryz.ntmps188
      go_wp2_with (first | (go_at_call 203; refine hW.mono ?_; rintro e w1 ⟨rfl, e1⟩; have hR1 := HR.out w1 e1) | (go_at_call 204; refine hR1.mono ?_; rintro e w2 ⟨rfl, e2⟩; replace e2 := e1.trans e2) | (go_at_call 205; refine (hD _).mono ?_; rintro e w' ⟨rfl, rfl⟩))
      go_ret
      exact ⟨ret_bool (by rw [hid.out]; rfl), e2⟩
  · have hid : idB s = false := by simp [idB, hw]
    have hle := wLen_le s.data.toList
    have hwl : wLen s.data.toList ≤ s.size := by simpa using hle
    clear hle
    rw [hid]
    clear hid hG
    have hmn : ((wLen s.data.toList : Int) != (s.size : Int)) = true := by simp only [bne_iff_ne, ne_eq]; omega
    generalize wLen s.data.toList = m at *
    go_enter Tryz.func188, Tryz.ntmps188
    go_wp2_with (first | (go_at_call 203; refine hW.mono ?_; rintro e w1 ⟨rfl, e1⟩))
    go_ret
    exact ⟨rfl, e1⟩

set_option maxRecDepth 20000 in
set_option maxHeartbeats 1000000 in
theorem ref02_Valid_any (s : ByteArray) (w : World) (hs : s.size ≤ 281474976710656) :
    Calls Tryz.prog 42 #[.string s] w fun e w' => e = .returned (.bool (idB s)) ∧ w' = w := by
  have hR := ref02_Register_any s w hs
  by_cases h0 : s.size = 0
  · have hid : idB s = false := by simp [idB, h0]
    rw [hid]
    clear hid
    go_enter Tryz.func42, Tryz.ntmps42
    go_wp2_with (first | (go_at_call 86; refine hR.mono ?_; rintro e w' ⟨rfl, rfl⟩))
    go_ret
    exact ⟨rfl, rfl⟩
  by_cases h32 : 32 < s.size
  · have hid : idB s = false := by simp [idB]; omega
    rw [hid]
    clear hid
    go_enter Tryz.func42, Tryz.ntmps42
    go_wp2_with (first | (go_at_call 86; refine hR.mono ?_; rintro e w' ⟨rfl, rfl⟩))
    go_ret
    exact ⟨rfl, rfl⟩
  have hW := ref02_Word_any s w hs
  by_cases hw : wLen s.data.toList = s.size
  · have hlt : 0 < s.size := by omega
    rw [hw] at hW
    have hid := hx (show idB s = (!regB s && !Lib.isDigitL ((s[0]'hlt).toNat : Int)) by
      unfold idB; rw [dig0_eq hlt]; simp [h0, hw]; omega)
    clear hw
    obtain ⟨d, hd⟩ : ∃ d : Int, d = ((s[0]'hlt).toNat : Int) := ⟨_, rfl⟩
    have hdl := (s[0]'hlt).toNat_lt
    rw [← hd] at hid
    by_cases k1 : (48 : Int) ≤ ((s[0]'hlt).toNat : Int)
    · by_cases k2 : ((s[0]'hlt).toNat : Int) ≤ 57
      · have hdg : Lib.isDigitL d = true := by unfold Lib.isDigitL; simp; omega
        rw [hdg] at hid
        clear hdg hd
        go_enter Tryz.func42, Tryz.ntmps42
        go_wp2_with (first | (go_at_call 86; refine hR.mono ?_; rintro e w' ⟨rfl, rfl⟩) | (go_at_call 87; refine hW.mono ?_; rintro e w' ⟨rfl, rfl⟩))
        go_ret
        exact ⟨ret_bool (by rw [hid.out]; simp), rfl⟩
      · have hdg : Lib.isDigitL d = false := by unfold Lib.isDigitL; simp; omega
        rw [hdg] at hid
        clear hdg hd
        go_enter Tryz.func42, Tryz.ntmps42
        go_wp2_with (first | (go_at_call 86; refine hR.mono ?_; rintro e w' ⟨rfl, rfl⟩) | (go_at_call 87; refine hW.mono ?_; rintro e w' ⟨rfl, rfl⟩))
        go_ret
        exact ⟨ret_bool (by rw [hid.out]; simp; intros; omega), rfl⟩
    · have hdg : Lib.isDigitL d = false := by unfold Lib.isDigitL; simp; omega
      rw [hdg] at hid
      clear hdg hd
      go_enter Tryz.func42, Tryz.ntmps42
      go_wp2_with (first | (go_at_call 86; refine hR.mono ?_; rintro e w' ⟨rfl, rfl⟩) | (go_at_call 87; refine hW.mono ?_; rintro e w' ⟨rfl, rfl⟩))
      go_ret
      exact ⟨ret_bool (by rw [hid.out]; simp), rfl⟩
  · have hid : idB s = false := by simp [idB, hw]
    have hle := wLen_le s.data.toList
    have hwl : wLen s.data.toList ≤ s.size := by simpa using hle
    have hmn : ((wLen s.data.toList : Int) == (s.size : Int)) = false := beq_eq_false_iff_ne.2 (by omega)
    rw [hid]
    clear hle hid
    generalize wLen s.data.toList = m at *
    go_enter Tryz.func42, Tryz.ntmps42
    go_wp2_with (first | (go_at_call 86; refine hR.mono ?_; rintro e w' ⟨rfl, rfl⟩) | (go_at_call 87; refine hW.mono ?_; rintro e w' ⟨rfl, rfl⟩))
    go_ret
    exact ⟨rfl, rfl⟩
end Go.Proofs.YtiaddncjghkajaaGreatDoor
