/- The layer valid, the reference: refers, has. -/
import Derived.Test.YtiaddncjghkajaaGreatDoorJLayR
import Derived.Test.YtiaddncjghkajaaGreatDoorJOPar
set_option linter.unusedVariables false
set_option linter.unusedSimpArgs false
namespace Go.Proofs.YtiaddncjghkajaaGreatDoor
open Go.RowKit

/-- Does a reference to a map start at a slot? -/
def refersN (L : List Ins) (s : Int) : Bool := decide (atN L s ≥ 0) && (formN (L.getD (atN L s).toNat default).op == 11)
def hasN (rs : List Rel) (s : Int) : Bool := rs.any fun r => r.slot == s
theorem atN_lt {L : List Ins} {s : Int} (h : 0 ≤ atN L s) : (atN L s).toNat < L.length ∧ slotsT (L.take (atN L s).toNat) = s := by
 unfold atN at h ⊢
 split at h
 ·rename_i r hr
  obtain ⟨k, hk, hr'⟩ := List.exists_of_findSome?_eq_some hr
  have hk' : k < L.length := by simpa using hk
  split at hr'
  ·rename_i hs
   injection hr' with hr'
   subst hr'
   exact ⟨by simpa using hk', by simpa using hs⟩
  ·cases hr'
 ·omega
set_option maxRecDepth 40000 in
set_option maxHeartbeats 4000000 in
theorem refers_any (v : Value) (L : List Ins) (s : Int) (w : World) (hv : IsIns w v L) (hL : L.length ≤ 1000000) :
  Calls Tryz.prog 75 #[v, .int .i64 s] w fun e w' => e = .returned (.bool (refersN L s)) ∧ w' = w := by
 obtain ⟨A, c, rfl, hc, -, hv'⟩ := hv.form
 have HA := Go.Proofs.YtiaddncjghkajaaGreatDoor.hx (refAt_any _ L s w hv' hL)
 have HR := Go.Proofs.YtiaddncjghkajaaGreatDoor.hx (show refersN L s = (decide (atN L s ≥ 0) && (formN (L.getD (atN L s).toNat default).op == 11)) from rfl)
 by_cases h0 : 0 ≤ atN L s
 ·obtain ⟨h1, -⟩ := atN_lt h0
  obtain ⟨x, hx⟩ : ∃ x, L[(atN L s).toNat]? = some x := ⟨_, List.getElem?_eq_getElem h1⟩
  have hg : L.getD (atN L s).toNat default = x := by rw [List.getD_eq_getElem?_getD, hx]; rfl
  obtain ⟨b0, o, rfl, hE⟩ := hv'.get hx
  obtain ⟨⟨k0, -⟩, hok⟩ := hE
  have hf := refForm_any x.op w hok.op
  rw [← formN_eq] at hf
  have HF := Go.Proofs.YtiaddncjghkajaaGreatDoor.hx hf
  rw [hg] at HR
  obtain ⟨k, hk⟩ := Int.eq_ofNat_of_zero_le h0
  rw [hk] at HA HR h1 k0
  rw [Int.toNat_natCast] at h1 k0
  have hd : decide ((k : Int) ≥ 0) = true := decide_eq_true (by omega)
  have hkl : (k : Int) < (L.length : Int) := by omega
  obtain ⟨op, reg, n1, n2, n3, n4⟩ := x
  dsimp only at *
  generalize formN op = F at *
  clear hf hg hx hk h0 hok hv hv'
  go_enter Tryz.func75, Tryz.ntmps75
  go_wp2_with fail
  refine HA.out.mono ?_
  rintro e w1 ⟨rfl, rfl⟩
  go_wp2_with fail
  refine HF.out.mono ?_
  rintro e w2 ⟨rfl, rfl⟩
  go_wp2
  go_ret
  exact ⟨ret_bool (by rw [HR.out, hd]; rfl), rfl⟩
 ·have hd : decide (atN L s ≥ 0) = false := decide_eq_false h0
  have HD := Go.Proofs.YtiaddncjghkajaaGreatDoor.hx hd
  generalize atN L s = R at *
  clear h0 hv hv'
  go_enter Tryz.func75, Tryz.ntmps75
  go_wp2_with fail
  refine HA.out.mono ?_
  rintro e w1 ⟨rfl, rfl⟩
  go_wp2
  go_ret
  exact ⟨ret_bool (by rw [HR.out, HD.out]; rfl), rfl⟩
theorem hasN_snoc (pre : List Rel) (x : Rel) (s : Int) : hasN (pre ++ [x]) s = (hasN pre s || x.slot == s) := by simp [hasN]
set_option maxRecDepth 40000 in
set_option maxHeartbeats 4000000 in
theorem has_any (v : Value) (o : Ob) (s : Int) (w : World) (h : IsOb w v o) (hr : o.rels.length ≤ 1000000) :
  Calls Tryz.prog 76 #[v, .int .i64 s] w fun e w' => e = .returned (.bool (hasN o.rels s)) ∧ Ext w w' := by
 obtain ⟨v1, v2, v3, rfl, d1, d2, d3⟩ := h
 obtain ⟨A1, c1, rfl, -, -, -⟩ := d1.form
 obtain ⟨A2, c2, rfl, -, -, -⟩ := d2.form
 obtain ⟨A3, c3, rfl, hc3, -, d3'⟩ := d3.form
 obtain ⟨m, hm⟩ : ∃ m, m = o.rels.length := ⟨_, rfl⟩
 generalize o.maps.length = m1 at *
 generalize o.code.length = m2 at *
 obtain ⟨rs, hrs⟩ : ∃ rs, rs = o.rels := ⟨_, rfl⟩
 rw [← hrs] at hm d3' hr hc3 ⊢
 rw [← hm] at d3' hr hc3 ⊢
 have HM := Go.Proofs.YtiaddncjghkajaaGreatDoor.hx hm
 clear hm hrs d1 d2 d3
 have e0 := Ext.new w (.cells #[.slice A1 m1 c1, .slice A2 m2 c2, .slice A3 m c3] 26)
 have r0 := rowO_new w (.slice A1 m1 c1) (.slice A2 m2 c2) (.slice A3 m c3)
 have E0 := Go.Proofs.YtiaddncjghkajaaGreatDoor.hx e0
 have q2 := r0.c2
 obtain ⟨W0, hW0⟩ : ∃ W0, W0 = w.alloc (.cells #[.slice A1 m1 c1, .slice A2 m2 c2, .slice A3 m c3] 26) := ⟨_, rfl⟩
 have d4 := IsRels.ext d3' e0
 rw [← hW0] at E0 q2 d4
 clear e0 r0
 go_enter Tryz.func76, Tryz.ntmps76
 go_wp2
 rw [← hW0]
 clear hW0
 go_loop [5] (fun i => ∃ k : Nat, k ≤ m ∧ i = .int .i64 (k : Nat) ∧ hasN (rs.take k) s = false) (fun i => m - (RowKit.intOf i).toNat)
 case atStart => exact ⟨0, by omega, rfl, rfl⟩
 case round =>
  obtain ⟨k, hk, rfl, hn⟩ := hrel
  have HN := Go.Proofs.YtiaddncjghkajaaGreatDoor.hx hn
  clear hn
  by_cases hlt : k < m
  ·obtain ⟨x, hx⟩ : ∃ x, rs[k]? = some x := ⟨_, List.getElem?_eq_getElem (by have := HM.out; omega)⟩
   obtain ⟨b0, o0, rfl, hE⟩ := d4.get hx
   obtain ⟨⟨k0, -⟩, -⟩ := hE
   have htk : rs.take (k + 1) = rs.take k ++ [x] := by rw [List.take_add_one, hx]; rfl
   have HTK := Go.Proofs.YtiaddncjghkajaaGreatDoor.hx htk
   have HX := Go.Proofs.YtiaddncjghkajaaGreatDoor.hx hx
   clear htk hx
   obtain ⟨sl, sy⟩ := x
   dsimp only at k0
   by_cases hq : sl = s
   ·have hqb : (sl == s) = true := by simpa using hq
    have hany : hasN rs s = true := by
     unfold hasN
     rw [List.any_eq_true]
     exact ⟨_, List.mem_of_getElem? HX.out, hqb⟩
    have HANY := Go.Proofs.YtiaddncjghkajaaGreatDoor.hx hany
    clear hq hany
    go_wp2
    go_ret
    exact ⟨ret_bool HANY.out.symm, E0.out⟩
   ·have hqb : (sl == s) = false := by simpa using hq
    have hn2 : hasN (rs.take (k + 1)) s = false := by rw [HTK.out, hasN_snoc, HN.out]; simpa using hq
    have HN2 := Go.Proofs.YtiaddncjghkajaaGreatDoor.hx hn2
    clear hq hn2
    go_wp2
    go_round
    case rel => exact ⟨k + 1, by omega, by go_num, HN2.out⟩
    case measure => simp [RowKit.intOf]; omega
  ·obtain rfl : k = m := by omega
   have hall : hasN rs s = false := by
    have := HN.out
    rwa [List.take_of_length_le (by rw [← HM.out]; exact Nat.le_refl _)] at this
   have HALL := Go.Proofs.YtiaddncjghkajaaGreatDoor.hx hall
   clear hall
   go_wp2
   go_ret
   exact ⟨ret_bool HALL.out.symm, E0.out⟩
end Go.Proofs.YtiaddncjghkajaaGreatDoor
