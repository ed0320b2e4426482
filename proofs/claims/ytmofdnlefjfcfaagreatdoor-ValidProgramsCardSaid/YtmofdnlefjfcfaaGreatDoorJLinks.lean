/- The layer valid: links of the checker. -/
import Derived.Test.YtmofdnlefjfcfaaGreatDoorJTgtQ
set_option linter.unusedVariables false
set_option linter.unusedSimpArgs false
namespace Go.Proofs.YtmofdnlefjfcfaaGreatDoor
open Go.RowKit Go.Lib

theorem RngI.left_eq' {w : World} {b r cnt : Nat} {left : Int → Bool} (h : RngI w b r left cnt) : w.rangeLeft b r = cnt := by
 obtain ⟨n, D, l, h1, _⟩ := h
 exact h1.left_eq
/-- The references without a relocation, step by step: what is still open, the least slot. -/
def lnkA (L : List Ins) : List Nat → (Int → Bool) → Int → (Int → Bool) × Int
 | [], p, m => (p, m)
 | i :: l, p, m => if formN (L.getD i default).op = 11 then (if p (slotsT (L.take i)) then lnkA L l (fun y => if y = slotsT (L.take i) then false else p y) m else lnkA L l p (min m (slotsT (L.take i)))) else lnkA L l p m
def LeastOf (p : Int → Bool) (m m' : Int) : Prop := m' ≤ m ∧ (∀ s, p s = true → m' ≤ s) ∧ (m' = m ∨ p m' = true)
def lnkR (m N : Int) : Int × Int := if m < N then (m, 18) else (0, 0)
set_option maxRecDepth 40000 in
set_option maxHeartbeats 8000000 in
theorem links_any (cb : Nat) (o : Ob) (A1 : Option Addr) (c1 : Nat) (A2 : Option Addr) (n2 c2 : Nat) (A3 : Option Addr) (n3 c3 : Nat) (A : Option Addr) (c : Nat) (As : Option Addr) (cs m : Nat) (L : List Ins) (w : World)
  (hP : ChkP w cb (.slice A1 o.maps.length c1) (.slice A2 n2 c2) (.slice A3 n3 c3) A c As cs m L) (hL : m ≤ 1000000) (hR : IsRels w (.slice A3 n3 c3) o.rels) (hn3 : n3 = o.rels.length) (hr : n3 ≤ 1000000) (hn2 : n2 ≤ 1000000) (hO : OpsN w) :
  Calls Tryz.prog 76 #[.pointer (some ⟨cb, 0, none⟩)] w fun e' w' => (∃ m', LeastOf (lnkA L (List.range m) (hasN o.rels) n2).1 (lnkA L (List.range m) (hasN o.rels) n2).2 m' ∧ e' = .returned (.tuple #[.int .i64 (lnkR m' n2).1, .int .i64 (lnkR m' n2).2])) ∧ Ext w w' := by
 obtain ⟨hrow, hi, hs, hm⟩ := hP
 have q2 := (hrow.ext (Ext.new w (.map #[] 0))).cell (i := 2) rfl
 obtain ⟨rs, hrs⟩ : ∃ rs, rs = o.rels := ⟨_, rfl⟩
 rw [← hrs] at hR hn3 ⊢
 generalize o.maps.length = n1 at *
 have HM := hx hm
 have HN3 := hx hn3
 have HROW := hx hrow
 have hmm := @run_makeMap Tryz.prog
 clear hm hn3 hrs hrow
 go_enter Tryz.func76, Tryz.ntmps76
 go_wp2
 clear hmm
 go_loopw [19] (fun i wr => ∃ k : Nat, k ≤ n3 ∧ i = .int .i64 (k : Nat) ∧ SetI wr w.heap.size k (hasN (rs.take k)) ∧ Ext w wr) (fun i _ => n3 - (RowKit.intOf i).toNat)
 case atStart => exact ⟨0, by omega, rfl, SetI.made w, Ext.new _ _⟩
 case round =>
  obtain ⟨k, hk, rfl, hset, he⟩ := hrel
  clear q2
  by_cases hlt : k < n3
  ·obtain ⟨x, hx0⟩ : ∃ x, rs[k]? = some x := ⟨_, List.getElem?_eq_getElem (by have := HN3.out; omega)⟩
   obtain ⟨b0, o0, rfl, hE⟩ := (IsRels.ext hR he).get hx0
   obtain ⟨⟨k0, k1⟩, hok⟩ := hE
   have htk : rs.take (k + 1) = rs.take k ++ [x] := by rw [List.take_add_one, hx0]; rfl
   have hp : (fun y => if y = x.slot then true else hasN (rs.take k) y) = hasN (rs.take (k + 1)) := by
    funext y
    rw [htk, hasN_snoc]
    by_cases h : y = x.slot
    ·rw [if_pos h]; simp [h]
    ·rw [if_neg h]
     have : (x.slot == y) = false := by simp; exact fun e => h e.symm
     rw [this, Bool.or_false]
   have HPP := hx hp
   have hs64 := hok.slot
   obtain ⟨sl, sy⟩ := x
   dsimp only at *
   have hset1 := hset.ext (Ext.new wr (.cells #[.int .i64 sl, .int .i64 sy] 78))
   have he1 := he.trans (Ext.new wr (.cells #[.int .i64 sl, .int .i64 sy] 78))
   have hkm : (k : Int) < (n3 : Int) := by omega
   clear htk hp hx0 hok hset he
   go_wp2_with (refine wp_mapUpdB hset1 sl hs64 (by omega) rfl rfl (by rfl) (by rfl) (by rfl) ?_; intro w2 m2 g2)
   have e2 := he1.grown g2 (fun k hk => by cases hk; exact Nat.le_refl _)
   have M2 := hx m2
   have E2 := hx e2
   clear hset1 he1 g2 m2 e2
   go_roundw
   case rel => exact ⟨k + 1, by omega, by go_num, by rw [← HPP.out]; exact M2.out, E2.out⟩
   case measure => simp [RowKit.intOf]; omega
  ·obtain rfl : k = n3 := by omega
   rw [List.take_of_length_le (by rw [← HN3.out]; exact Nat.le_refl _)] at hset
   have q1 := (HROW.out.ext he).cell (i := 1) rfl
   have q3 := (HROW.out.ext he).cell (i := 3) rfl
   go_wp2
   go_loopw [7, 38] (fun least i wr => ∃ (j : Nat) (p : Int → Bool) (mm : Int), j ≤ m ∧ i = .int .i64 (j : Nat) ∧ least = .int .i64 mm ∧ lnkA L (List.range m) (hasN rs) n2 = lnkA L (List.range' j (m - j)) p mm ∧ SetI wr w.heap.size k p ∧ Ext w wr) (fun _ i _ => m - (RowKit.intOf i).toNat)
   case atStart => exact ⟨0, hasN rs, n2, by omega, rfl, rfl, by rw [List.range_eq_range']; rfl, hset, he⟩
   case round =>
    obtain ⟨j, p, mm, hj, rfl, rfl, hl, hset, he⟩ := hrel
    clear q1 q3
    have HLK := hx hl
    clear hl
    by_cases hlt2 : j < m
    ·obtain ⟨x, hx0⟩ : ∃ x, L[j]? = some x := ⟨_, List.getElem?_eq_getElem (by have := HM.out; omega)⟩
     have hg : L.getD j default = x := by rw [List.getD_eq_getElem?_getD, hx0]; rfl
     obtain ⟨bx, ox, rfl, hE⟩ := (IsIns.ext hi he).get hx0
     obtain ⟨⟨k0, k1, k2, k3, k4, k5⟩, hok⟩ := hE
     obtain ⟨S, hS⟩ : ∃ S, (startsL L)[j]? = some S := ⟨_, List.getElem?_eq_getElem (by rw [startsL_length]; have := HM.out; omega)⟩
     have hSv : S = slotsT (L.take j) := by
      rw [startsL_get (by have := HM.out; omega)] at hS
      exact (Option.some.inj hS).symm
     obtain ⟨b0, o2, rfl, d1, hS64⟩ := hs.get hS
     rw [Nat.mul_one] at d1
     have hstep : lnkA L (List.range' j (m - j)) p mm = if formN x.op = 11 then (if p S then lnkA L (List.range' (j + 1) (m - (j + 1))) (fun y => if y = S then false else p y) mm else lnkA L (List.range' (j + 1) (m - (j + 1))) p (min mm S)) else lnkA L (List.range' (j + 1) (m - (j + 1))) p mm := by
      rw [show m - j = (m - (j + 1)) + 1 by omega, List.range'_succ, lnkA, hg, hSv]
     have HST := hx hstep
     have hkm : (j : Int) < (m : Int) := by omega
     obtain ⟨op, reg, x1, x2, x3, x4⟩ := x
     dsimp only at *
     have eX := Ext.new wr (.cells #[.int .i64 op, .bool reg, .int .i64 x1, .int .i64 x2, .int .i64 x3, .int .i64 x4] 53)
     have hF := opForm_any op (wr.alloc (.cells #[.int .i64 op, .bool reg, .int .i64 x1, .int .i64 x2, .int .i64 x3, .int .i64 x4] 53)) hok.op (hO.ext (he.trans eX))
     have d5 := (he.trans eX).cell d1
     have q4 := (HROW.out.ext (he.trans eX)).cell (i := 4) rfl
     have hset1 := hset.ext eX
     have he1 := he.trans eX
     generalize formN op = F at *
     have HFM := hx hF
     have HS1 := hx hset1
     have HE1 := hx he1
     have HLT := hx hlt2
     clear hF hset1 he1 hstep hS hSv hg hx0 hok eX hset he d1 hlt2
     by_cases h11 : F = 11
     ·subst h11
      cases hp : p S with
      | true =>
       have HP := hx hp
       go_wp2_with fail
       refine HFM.out.mono ?_
       rintro e w5 ⟨rfl, e5⟩
       have hset5 := HS1.out.ext e5
       have hlk := hset5.look S hS64
       rw [hp] at hlk
       have he5 := HE1.out.trans e5
       clear e5 d5 q4 k0 k1 k2 k3 k4 k5 hp
       go_wp2_with (refine wp_delB hset5 S hS64 rfl rfl (by rfl) (by rfl) ?_; intro w6 s6 g6)
       have S6 := hx s6
       have E6 := hx (he5.grown g6 (fun k hk => by cases hk; exact Nat.le_refl _))
       clear hset5 he5 s6 g6 hlk
       go_wp2
       go_roundw
       case rel => exact ⟨j + 1, _, mm, HLT.out, by go_num, rfl, by rw [HLK.out, HST.out, if_pos trivial, if_pos HP.out], S6.out, E6.out⟩
       case measure => simp [RowKit.intOf]; omega
      | false =>
       have HP := hx hp
       go_wp2_with fail
       refine HFM.out.mono ?_
       rintro e w5 ⟨rfl, e5⟩
       have hset5 := HS1.out.ext e5
       have hlk := hset5.look S hS64
       rw [hp] at hlk
       have S6 := hx hset5
       have E6 := hx (HE1.out.trans e5)
       clear e5 d5 q4 k0 k1 k2 k3 k4 k5 hp hset5
       go_wp2
       go_roundw
       case rel => exact ⟨j + 1, p, min mm S, HLT.out, by go_num, rfl, by rw [HLK.out, HST.out, if_pos trivial, if_neg (by rw [HP.out]; simp)], S6.out, E6.out⟩
       case measure => simp [RowKit.intOf]; omega
     ·have d11 : (F != 11) = true := by simpa using h11
      have H11 := hx h11
      clear h11
      go_wp2_with fail
      refine HFM.out.mono ?_
      rintro e w5 ⟨rfl, e5⟩
      have S6 := hx (HS1.out.ext e5)
      have E6 := hx (HE1.out.trans e5)
      clear e5 d5 q4 k0 k1 k2 k3 k4 k5
      go_wp2
      go_roundw
      case rel => exact ⟨j + 1, p, mm, HLT.out, by go_num, rfl, by rw [HLK.out, HST.out, if_neg H11.out], S6.out, E6.out⟩
      case measure => simp [RowKit.intOf]; omega
    ·obtain rfl : j = m := by omega
     have hfin : lnkA L (List.range j) (hasN rs) n2 = (p, mm) := by rw [HLK.out, Nat.sub_self]; rfl
     rw [hfin]
     have HFI := hx hfin
     clear hfin hlt2 HLK
     go_wp2_with (at_range; refine wp_rangeB hset rfl rfl (by rfl) ?_; intro w2 cnt0 rg0 e2)
     obtain ⟨r, hr0⟩ : ∃ r, r = wr.heap.size := ⟨_, rfl⟩
     have hrw : w.heap.size ≤ r := by rw [hr0]; exact he.size
     rw [← hr0] at rg0 ⊢
     have he2 := he.trans e2
     clear hset e2 hr0
     go_frame
     go_loopw [7, 11] (fun least _ wr => ∃ (left : Int → Bool) (cnt : Nat) (m' : Int), least = .int .i64 m' ∧ RngI wr w.heap.size r left cnt ∧ m' ≤ mm ∧ (∀ s, p s = true → left s = false → m' ≤ s) ∧ (m' = mm ∨ p m' = true) ∧ (∀ s, left s = true → p s = true) ∧ Ext w wr) (fun _ _ wr => wr.rangeLeft w.heap.size r)
     case atStart => exact ⟨p, cnt0, mm, rfl, rg0, Int.le_refl _, fun s h1 h2 => absurd (h1.symm.trans h2) (by decide), .inl rfl, fun s h => h, he2⟩
     case round =>
      obtain ⟨left, cnt, m', rfl, hrg, hle, hall, hor, hlp, he3⟩ := hrel
      have HLE := hx hle
      have HALL := hx hall
      have HOR := hx hor
      have HLP := hx hlp
      have HRG := hx hrg
      have HE3 := hx he3
      clear rg0 he2 hle hall hor hlp
      go_wp2_with (at_next; refine wp_nextB hrg rfl rfl (by rfl) ?_ ?_)
      ·intro hl0
       have q1 := (HROW.out.ext he3).cell (i := 1) rfl
       have HL0 := hx hl0
       have hres : LeastOf p mm m' := ⟨HLE.out, fun s h => HALL.out s h (HL0.out s), HOR.out⟩
       have HRES := hx hres
       clear hl0 hrg he3 hres
       by_cases hlt3 : m' < (n2 : Int)
       ·have d : decide (m' < (n2 : Int)) = true := decide_eq_true hlt3
        have HR2 := hx (show lnkR m' n2 = (m', 18) from if_pos hlt3)
        clear hlt3
        go_wp2
        go_ret2
        exact ⟨⟨m', by rw [HFI.out]; exact HRES.out, by rw [HR2.out]; rfl⟩, HE3.out⟩
       ·have d : decide (m' < (n2 : Int)) = false := decide_eq_false hlt3
        have HR2 := hx (show lnkR m' n2 = (0, 0) from if_neg hlt3)
        clear hlt3
        go_wp2
        go_ret2
        exact ⟨⟨m', by rw [HFI.out]; exact HRES.out, by rw [HR2.out]; rfl⟩, HE3.out⟩
      ·intro x cc w3 cnt' hx64 hlx hrg3 hlt3 hg3 hs3 hen
       have HRG3 := hx hrg3
       have HLX := hx hlx
       have HLT3 := hx hlt3
       have E4 := hx (he3.grown hg3 (fun k hk => by cases hk; exact hrw))
       clear hrg3 hlx hlt3 hg3 hs3 hrg he3
       go_wp2
       go_roundw
       case rel => exact ⟨_, cnt', min m' x, rfl, HRG3.out, by have := HLE.out; omega, fun s h1 h2 => by
        by_cases hsx : s = x
        ·rw [hsx]; omega
        ·have : (s == x) = false := by simpa using hsx
         rw [this] at h2
         have h3 : left s = false := by simpa using h2
         have := HALL.out s h1 h3
         omega, by
        rcases Int.le_total m' x with h | h
        ·rw [show min m' x = m' by omega]; exact HOR.out
        ·rw [show min m' x = x by omega]; exact .inr (HLP.out x HLX.out), fun s h => HLP.out s (by
         rw [Bool.and_eq_true] at h; exact h.1), E4.out⟩
       case measure => rw [HRG3.out.left_eq', HRG.out.left_eq']; exact HLT3.out
end Go.Proofs.YtmofdnlefjfcfaaGreatDoor
