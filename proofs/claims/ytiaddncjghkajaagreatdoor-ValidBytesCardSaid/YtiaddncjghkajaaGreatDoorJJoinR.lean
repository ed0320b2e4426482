/- The layer slot, the reference: Join of instructions of one slot. -/
import Derived.Test.YtiaddncjghkajaaGreatDoorJAllR
import Derived.Test.YtiaddncjghkajaaGreatDoorJRowsI
import Derived.Deep.QuietTactic
import Derived.BigQuiet
set_option linter.unusedVariables false
set_option linter.unusedSimpArgs false
namespace Go.Proofs.YtiaddncjghkajaaGreatDoor
open Go.RowKit

theorem encR1_length (x : Ins) : (encR1 x).length = 8 := by simp [encR1, le_length]
theorem encs_length (l : List Ins) : (l.flatMap encR1).length = 8 * l.length := by
 induction l with
 | nil => rfl
 | cons x l ih => rw [List.flatMap_cons, List.length_append, encR1_length, ih, List.length_cons]; omega
theorem own_src {w : World} {base : Nat} {v : Value} {l : List Int} (h : OwnB w base v l) : Src w v l.length (l.flatMap fun x => [Value.int .u8 x]) := by
 have h' := h
 rcases h.2 with ⟨rfl, h0⟩ | ⟨g, cap, cur, rfl, _, hh, hc1, hc2, hc3⟩
 ·obtain rfl : l = [] := List.eq_nil_of_length_eq_zero h0
  exact ⟨none, 0, rfl, fun _ => ⟨rfl, rfl⟩, fun j u hu => by simp at hu⟩
 ·refine ⟨_, cap, rfl, fun e => (by cases e), fun j u hu => ⟨g, 0, rfl, ?_⟩⟩
  have hj : j < l.length := by
   have h1 := (List.getElem?_eq_some_iff.1 hu).1
   have h2 : (l.flatMap fun x => [Value.int .u8 x]).length = l.length := by rw [show (l.flatMap fun x : Int => [Value.int .u8 x]) = l.map (Value.int .u8) from flat1 _ _, List.length_map]
   omega
  have hc := World.ownsRow.cellAt h' j (by omega)
  rw [Nat.zero_add, hc]
  exact hu
set_option maxRecDepth 40000 in
set_option maxHeartbeats 4000000 in
theorem refJoin_any (v : Value) (L : List Ins) (w : World) (hv : IsIns w v L) (hL : L.length ≤ 1000) (hE : ∀ x ∈ L, EncOne x) :
  Calls Tryz.prog 66 #[v] w fun e w' => ∃ v', e = .returned v' ∧ OwnB w' w.heap.size v' (L.flatMap encR1) ∧ Ext w w' := by
 obtain ⟨A, c, rfl, hc, -, hv'⟩ := hv.form
 have HEN := hx hE
 clear hE
 go_enter Tryz.func66, Tryz.ntmps66
 go_wp2
 go_loopw [3, 4] (fun vo i wr => ∃ k : Nat, k ≤ L.length ∧ i = .int .i64 (k : Nat) ∧ OwnB wr w.heap.size vo ((L.take k).flatMap encR1) ∧ Ext w wr) (fun _ i _ => L.length - (RowKit.intOf i).toNat)
 case atStart => exact ⟨0, by omega, rfl, Own.nil _ _ _ _ _, Ext.refl _⟩
 case round =>
  obtain ⟨k, hk, rfl, ho, he⟩ := hrel
  obtain ⟨A4, c4, rfl⟩ := ho.slice
  by_cases hlt : k < L.length
  ·obtain ⟨x, hx0⟩ : ∃ x, L[k]? = some x := ⟨_, List.getElem?_eq_getElem hlt⟩
   obtain ⟨b0, o, rfl, hEx⟩ := (IsIns.ext hv' he).get hx0
   obtain ⟨⟨k0, k1, k2, k3, k4, k5⟩, -⟩ := hEx
   have HQ := hx (refEnc_one x wr (HEN.out x (List.mem_of_getElem? hx0)))
   have htk : (L.take (k + 1)).flatMap encR1 = (L.take k).flatMap encR1 ++ encR1 x := by rw [List.take_add_one, hx0]; simp
   have hl1 : ((L.take k).flatMap encR1).length = 8 * k := by rw [encs_length, List.length_take]; omega
   have hl2 := encR1_length x
   have hkm : (k : Int) < (L.length : Int) := by omega
   have HTK := hx htk
   have HL1 := hx hl1
   have HL2 := hx hl2
   have HLT := hx hlt
   generalize (L.take k).flatMap encR1 = P at *
   generalize encR1 x = R at *
   unfold Ins.v at HQ
   obtain ⟨op, reg, n1, n2, n3, n4⟩ := x
   dsimp only at *
   clear htk hx0 hl1 hl2
   go_wp2_with fail
   refine HQ.out.mono ?_
   rintro e w1 ⟨v1, rfl, ow1, e1⟩
   have o1 := ho.ext e1
   have x1 := hx (he.trans e1)
   have hsr := own_src ow1
   have hs1 := x1.out.size
   obtain ⟨A6, c6, rfl⟩ := ow1.slice
   have hb1 : P.length + R.length ≤ 140737488355328 := by have h1 := HL1.out; have h2 := HL2.out; omega
   have HB1 := hx hb1
   clear k0 k1 k2 k3 k4 k5 e1 hb1 he ho ow1
   go_wp2_with (at_builtin; refine wp_appS tyB encB_ok o1 hsr rfl rfl rfl rfl hs1 (by rw [Nat.mul_one]; exact HB1.out) HB1.out ?_; intro v2 w2 o2 g2 a2)
   have X2 := hx (x1.out.grown g2 o1.base_le)
   have O2 := hx o2
   clear g2 o2 o1 hsr a2 hs1
   go_wp2
   go_roundw
   case rel => exact ⟨k + 1, HLT.out, by go_num, by rw [HTK.out]; exact O2.out, X2.out⟩
   case measure => simp [RowKit.intOf]; omega
  ·obtain rfl : k = L.length := by omega
   have HO := hx ho
   clear ho
   go_wp2
   go_ret
   refine ⟨.slice A4 ((L.take L.length).flatMap encR1).length c4, rfl, ?_, he⟩
   have h := HO.out
   rw [List.take_length] at h ⊢
   exact h
end Go.Proofs.YtiaddncjghkajaaGreatDoor


set_option linter.unusedVariables false
set_option linter.unusedSimpArgs false
namespace Go.Proofs.YtiaddncjghkajaaGreatDoor
open Go.RowKit

set_option maxRecDepth 40000 in
set_option maxHeartbeats 4000000 in
theorem refJoinX_any (v : Value) (L : List Ins) (w : World) (hv : IsIns w v L) (hL : L.length ≤ 1000) (hE : ∀ x ∈ L, EncSm x) :
  Calls Tryz.prog 66 #[v] w fun e w' => ∃ v', e = .returned v' ∧ OwnB w' w.heap.size v' (L.flatMap encX) ∧ Ext w w' := by
 obtain ⟨A, c, rfl, hc, -, hv'⟩ := hv.form
 have HEN := hx hE
 clear hE
 go_enter Tryz.func66, Tryz.ntmps66
 go_wp2
 go_loopw [3, 4] (fun vo i wr => ∃ k : Nat, k ≤ L.length ∧ i = .int .i64 (k : Nat) ∧ OwnB wr w.heap.size vo ((L.take k).flatMap encX) ∧ Ext w wr) (fun _ i _ => L.length - (RowKit.intOf i).toNat)
 case atStart => exact ⟨0, by omega, rfl, Own.nil _ _ _ _ _, Ext.refl _⟩
 case round =>
  obtain ⟨k, hk, rfl, ho, he⟩ := hrel
  obtain ⟨A4, c4, rfl⟩ := ho.slice
  by_cases hlt : k < L.length
  ·obtain ⟨x, hx0⟩ : ∃ x, L[k]? = some x := ⟨_, List.getElem?_eq_getElem hlt⟩
   obtain ⟨b0, o, rfl, hEx⟩ := (IsIns.ext hv' he).get hx0
   obtain ⟨⟨k0, k1, k2, k3, k4, k5⟩, -⟩ := hEx
   have HQ := hx (refEnc_any x wr (HEN.out x (List.mem_of_getElem? hx0)))
   have htk : (L.take (k + 1)).flatMap encX = (L.take k).flatMap encX ++ encX x := by rw [List.take_add_one, hx0]; simp
   have hl1 : ((L.take k).flatMap encX).length ≤ 16 * k := by have h1 := encXs_length (L.take k); rw [List.length_take] at h1; omega
   have hl2 := encX_length x
   have hkm : (k : Int) < (L.length : Int) := by omega
   have HTK := hx htk
   have HL1 := hx hl1
   have HL2 := hx hl2
   have HLT := hx hlt
   generalize (L.take k).flatMap encX = P at *
   generalize encX x = R at *
   unfold Ins.v at HQ
   obtain ⟨op, reg, n1, n2, n3, n4⟩ := x
   dsimp only at *
   clear htk hx0 hl1 hl2
   go_wp2_with fail
   refine HQ.out.mono ?_
   rintro e w1 ⟨v1, rfl, ow1, e1⟩
   have o1 := ho.ext e1
   have x1 := hx (he.trans e1)
   have hsr := own_src ow1
   have hs1 := x1.out.size
   obtain ⟨A6, c6, rfl⟩ := ow1.slice
   have hb1 : P.length + R.length ≤ 140737488355328 := by have h1 := HL1.out; have h2 := HL2.out; omega
   have HB1 := hx hb1
   clear k0 k1 k2 k3 k4 k5 e1 hb1 he ho ow1
   go_wp2_with (at_builtin; refine wp_appS tyB encB_ok o1 hsr rfl rfl rfl rfl hs1 (by rw [Nat.mul_one]; exact HB1.out) HB1.out ?_; intro v2 w2 o2 g2 a2)
   have X2 := hx (x1.out.grown g2 o1.base_le)
   have O2 := hx o2
   clear g2 o2 o1 hsr a2 hs1
   go_wp2
   go_roundw
   case rel => exact ⟨k + 1, HLT.out, by go_num, by rw [HTK.out]; exact O2.out, X2.out⟩
   case measure => simp [RowKit.intOf]; omega
  ·obtain rfl : k = L.length := by omega
   have HO := hx ho
   clear ho
   go_wp2
   go_ret
   refine ⟨.slice A4 ((L.take L.length).flatMap encX).length c4, rfl, ?_, he⟩
   have h := HO.out
   rw [List.take_length] at h ⊢
   exact h
end Go.Proofs.YtiaddncjghkajaaGreatDoor


set_option linter.unusedVariables false
set_option linter.unusedSimpArgs false
namespace Go.Proofs.YtiaddncjghkajaaGreatDoor
open Go.RowKit

/-- The first answer that is an error. -/
def firstE : List (Int × Int) → Int × Int
 | [] => (0, 0)
 | x :: l => if x.2 = 0 then firstE l else x
def find1 (L : List Ins) : Int × Int := ((fstN fieldP L).getD 0, fstE fieldP L 12)
def find2 (L : List Ins) (rs : List Rel) (n : Nat) : Int × Int := ((lkN L rs n).getD 0, lkE L rs n)
def find3 (L : List Ins) : Int × Int := (jmpAt L, jmpE L)
def find4 (L : List Ins) : Int × Int := ((fstN writeP L).getD 0, fstE writeP L 14)
def find5 (L : List Ins) : Int × Int := (endAt L, endE L)
def finds (L : List Ins) (rs : List Rel) (n : Nat) : List (Int × Int) := [find1 L, find2 L rs n, find3 L, find4 L, find5 L]
def rest17 (L : List Ins) (rs : List Rel) (n k : Nat) : Int × Int := firstE ((finds L rs n).drop k)
/-- The slot and the error of an object. -/
def chk17 (o : Ob) : Int × Int := if obE o = 0 then (if allE o.code = 0 then rest17 (allI o.code) o.rels (o.code.length / 8) 0 else (allAt o.code, allE o.code)) else (0, obE o)
theorem chk17_ob {o : Ob} (h : obE o ≠ 0) : chk17 o = (0, obE o) := if_neg h
theorem chk17_all {o : Ob} (h : obE o = 0) (h2 : allE o.code ≠ 0) : chk17 o = (allAt o.code, allE o.code) := by unfold chk17; rw [if_pos h, if_neg h2]
theorem chk17_rest {o : Ob} (h : obE o = 0) (h2 : allE o.code = 0) : chk17 o = rest17 (allI o.code) o.rels (o.code.length / 8) 0 := by unfold chk17; rw [if_pos h, if_pos h2]
theorem rest17_0 (L : List Ins) (rs : List Rel) (n : Nat) : rest17 L rs n 0 = if (find1 L).2 = 0 then rest17 L rs n 1 else find1 L := rfl
theorem rest17_1 (L : List Ins) (rs : List Rel) (n : Nat) : rest17 L rs n 1 = if (find2 L rs n).2 = 0 then rest17 L rs n 2 else find2 L rs n := rfl
theorem rest17_2 (L : List Ins) (rs : List Rel) (n : Nat) : rest17 L rs n 2 = if (find3 L).2 = 0 then rest17 L rs n 3 else find3 L := rfl
theorem rest17_3 (L : List Ins) (rs : List Rel) (n : Nat) : rest17 L rs n 3 = if (find4 L).2 = 0 then rest17 L rs n 4 else find4 L := rfl
theorem rest17_4 (L : List Ins) (rs : List Rel) (n : Nat) : rest17 L rs n 4 = if (find5 L).2 = 0 then rest17 L rs n 5 else find5 L := rfl
theorem rest17_5 (L : List Ins) (rs : List Rel) (n : Nat) : rest17 L rs n 5 = (0, 0) := rfl
theorem r17_0s {L : List Ins} {rs : List Rel} {n : Nat} {s : Int} (h : fstN fieldP L = some s) : rest17 L rs n 0 = (s, 12) := by
 rw [rest17_0, if_neg (by simp [find1, fstE, h])]; simp [find1, fstE, h]
theorem r17_0n {L : List Ins} {rs : List Rel} {n : Nat} (h : fstN fieldP L = none) : rest17 L rs n 0 = rest17 L rs n 1 := by rw [rest17_0, if_pos (by simp [find1, fstE, h])]
theorem r17_1s {L : List Ins} {rs : List Rel} {n : Nat} {s : Int} (h : lkN L rs n = some s) : rest17 L rs n 1 = (s, 18) := by
 rw [rest17_1, if_neg (by simp [find2, lkE, h])]; simp [find2, lkE, h]
theorem r17_1n {L : List Ins} {rs : List Rel} {n : Nat} (h : lkN L rs n = none) : rest17 L rs n 1 = rest17 L rs n 2 := by rw [rest17_1, if_pos (by simp [find2, lkE, h])]
theorem r17_2s {L : List Ins} {rs : List Rel} {n k : Nat} (h : tgtBad L = (k : Int)) : rest17 L rs n 2 = (slotsT (L.take k), 13) := by
 have h1 : tgtBad L ≥ 0 := by omega
 have h2 : find3 L = (slotsT (L.take k), 13) := by unfold find3 jmpAt jmpE; rw [if_pos h1, if_pos h1, h, Int.toNat_natCast]
 rw [rest17_2, h2]; rfl
theorem r17_2n {L : List Ins} {rs : List Rel} {n : Nat} (h : tgtBad L = -1) : rest17 L rs n 2 = rest17 L rs n 3 := by
 have h2 : find3 L = (0, 0) := by unfold find3 jmpAt jmpE; rw [h]; rfl
 rw [rest17_2, h2]; rfl
theorem r17_3s {L : List Ins} {rs : List Rel} {n : Nat} {s : Int} (h : fstN writeP L = some s) : rest17 L rs n 3 = (s, 14) := by
 rw [rest17_3, if_neg (by simp [find4, fstE, h])]; simp [find4, fstE, h]
theorem r17_3n {L : List Ins} {rs : List Rel} {n : Nat} (h : fstN writeP L = none) : rest17 L rs n 3 = rest17 L rs n 4 := by rw [rest17_3, if_pos (by simp [find4, fstE, h])]
theorem r17_4s {L : List Ins} {rs : List Rel} {n k : Nat} (hk : L.length = k + 1) (h : endsX (L.getD k default) = false) : rest17 L rs n 4 = (slotsT (L.take k), 15) := by
 have h2 : find5 L = (slotsT (L.take k), 15) := by unfold find5 endAt endE; rw [hk, Nat.add_sub_cancel, h]; rfl
 rw [rest17_4, h2]; rfl
theorem r17_4n {L : List Ins} {rs : List Rel} {n k : Nat} (hk : L.length = k + 1) (h : endsX (L.getD k default) = true) : rest17 L rs n 4 = (0, 0) := by
 have h2 : find5 L = (0, 0) := by unfold find5 endAt endE; rw [hk, Nat.add_sub_cancel, h]; rfl
 rw [rest17_4, h2]; rfl
/-- The chapter's example. -/
def l17A : List Ins := [⟨44, false, 0, 0, 0, 0⟩, ⟨84, false, 0, 0, 0, 5⟩, ⟨68, false, 0, 0, 0, 0⟩]
def l17B : List Ins := [⟨44, false, 0, 0, 1, 0⟩, ⟨84, false, 0, 0, 0, 5⟩, ⟨68, false, 0, 0, 0, 0⟩]
def c17A : List Int := l17A.flatMap encX
def c17B : List Int := l17B.flatMap encX
theorem c17A_eq : c17A = [5, 0, 0, 0, 0, 0, 0, 0, 24, 0, 0, 0, 5, 0, 0, 0, 0, 0, 0, 0, 0, 0, 0, 0, 149, 0, 0, 0, 0, 0, 0, 0] := by decide +kernel
theorem c17B_eq : c17B = [5, 0, 1, 0, 0, 0, 0, 0, 24, 0, 0, 0, 5, 0, 0, 0, 0, 0, 0, 0, 0, 0, 0, 0, 149, 0, 0, 0, 0, 0, 0, 0] := by decide +kernel
def o17A : Ob := ⟨[], c17A, []⟩
def o17B : Ob := ⟨[], c17B, []⟩
theorem chk17A : chk17 o17A = (0, 0) := by decide +kernel
theorem chk17B : chk17 o17B = (0, 13) := by decide +kernel
theorem allI17A : allI c17A = l17A := by decide +kernel
theorem tgt17A : tgtL l17A = [1, -1, -1] := by decide +kernel
theorem bad17A : tgtBad l17A = -1 := by decide +kernel
theorem i64s (x : Int) (h : -9223372036854775808 ≤ x ∧ x ≤ 9223372036854775807) : I64 x := h
theorem sm17A : ∀ x ∈ l17A, EncSm x := by
 intro x hx
 have h1 : slotsN 44 = 1 := by decide +kernel
 have h2 : slotsN 84 = 2 := by decide +kernel
 have h3 : slotsN 68 = 1 := by decide +kernel
 simp only [l17A, List.mem_cons, List.mem_nil_iff, or_false] at hx
 rcases hx with rfl | rfl | rfl
 ·exact ⟨⟨i64s _ (by decide), i64s _ (by decide), i64s _ (by decide), i64s _ (by decide), i64s _ (by decide)⟩, .inl h1, by decide, by decide, by decide, by decide⟩
 ·exact ⟨⟨i64s _ (by decide), i64s _ (by decide), i64s _ (by decide), i64s _ (by decide), i64s _ (by decide)⟩, .inr h2, by decide, by decide, by decide, by decide⟩
 ·exact ⟨⟨i64s _ (by decide), i64s _ (by decide), i64s _ (by decide), i64s _ (by decide), i64s _ (by decide)⟩, .inl h3, by decide, by decide, by decide, by decide⟩
theorem sm17B : ∀ x ∈ l17B, EncSm x := by
 intro x hx
 have h1 : slotsN 44 = 1 := by decide +kernel
 have h2 : slotsN 84 = 2 := by decide +kernel
 have h3 : slotsN 68 = 1 := by decide +kernel
 simp only [l17B, List.mem_cons, List.mem_nil_iff, or_false] at hx
 rcases hx with rfl | rfl | rfl
 ·exact ⟨⟨i64s _ (by decide), i64s _ (by decide), i64s _ (by decide), i64s _ (by decide), i64s _ (by decide)⟩, .inl h1, by decide, by decide, by decide, by decide⟩
 ·exact ⟨⟨i64s _ (by decide), i64s _ (by decide), i64s _ (by decide), i64s _ (by decide), i64s _ (by decide)⟩, .inr h2, by decide, by decide, by decide, by decide⟩
 ·exact ⟨⟨i64s _ (by decide), i64s _ (by decide), i64s _ (by decide), i64s _ (by decide), i64s _ (by decide)⟩, .inl h3, by decide, by decide, by decide, by decide⟩
theorem off17A : OffOk l17A := by
 intro x hx
 simp only [l17A, List.mem_cons, List.mem_nil_iff, or_false] at hx
 rcases hx with rfl | rfl | rfl <;> decide
end Go.Proofs.YtiaddncjghkajaaGreatDoor


set_option linter.unusedVariables false
set_option linter.unusedSimpArgs false
namespace Go.Proofs.YtiaddncjghkajaaGreatDoor
open Go.RowKit Go.Lib

set_option maxRecDepth 20000 in
set_option maxHeartbeats 2000000 in
theorem ref16_names_any (v : Value) (o : Ob) (w : World) (h : IsOb w v o) (hm : o.maps.length ≤ 100000) :
  Calls Tryz.prog 45 #[v] w fun e w' => ∃ v', e = .returned v' ∧ IsStrs w' v' (namesOf o) ∧ Ext w w' := by
 obtain ⟨v1, v2, v3, rfl, d1, d2, d3⟩ := h
 obtain ⟨A1, c1, rfl, -, -, d1'⟩ := d1.form
 obtain ⟨A2, c2, rfl, -, -, -⟩ := d2.form
 obtain ⟨A3, c3, rfl, -, -, -⟩ := d3.form
 obtain ⟨W0, hW0⟩ : ∃ W0, W0 = w.alloc (.cells #[.slice A1 o.maps.length c1, .slice A2 o.code.length c2, .slice A3 o.rels.length c3] 26) := ⟨_, rfl⟩
 have e0 : Ext w W0 := by rw [hW0]; exact Ext.new _ _
 have p1 : W0.cell? ⟨w.heap.size, 0, none⟩ = some (.slice A1 o.maps.length c1) := by rw [hW0]; simp
 have HW0 := hx hW0
 clear hW0 d1 d2 d3
 go_enter Tryz.func45, Tryz.ntmps45
 go_wp2
 rw [← HW0.out]
 go_loopw [4, 3] (fun i u wr => ∃ (pre suf : List Def) (ns : List ByteArray), o.maps = pre ++ suf ∧ i = .int .i64 (pre.length : Nat) ∧ ns = pre.map (·.name) ∧ ns.length = pre.length ∧ OwnS wr W0.heap.size u ns ∧ Ext W0 wr) (fun i _ _ => o.maps.length - (RowKit.intOf i).toNat)
 case atStart => exact ⟨[], o.maps, [], rfl, rfl, rfl, rfl, Own.nil _ _ _ _ _, Ext.refl _⟩
 case round =>
  obtain ⟨pre, suf, ns, hl', rfl, hns, hnl, ho, he⟩ := hrel
  have HNS := hx hns
  have HNL := hx hnl
  clear hns hnl
  have hpl : pre.length ≤ 100000 := by have := congrArg List.length hl'; simp at this; omega
  have he' := e0.trans he
  have hsz := he.size
  have q1 := he.cell p1
  obtain ⟨A5, c5, rfl⟩ := ho.slice
  cases suf with
  | cons x suf =>
   have hlt : pre.length < o.maps.length := by rw [hl']; simp
   have hvx := d1'
   rw [hl'] at hvx
   obtain ⟨b, o', rfl, ⟨t1, t2, t3, t4⟩, -⟩ := hvx.at
   replace t1 := he'.cell t1
   have HL := hx hl'; clear hl' hvx
   go_wp2_with (at_builtin; refine wp_app1 tyS encS_ok ho x.name rfl rfl rfl rfl rfl (by omega) (by decide) (by have := HNL.out; omega) ?_; intro g cap w2 o2 g2 a2 b2)
   have e2 := Ext.grown he g2 ho.base_le
   clear ho he he'
   go_roundw
   case rel => exact ⟨pre ++ [x], suf, ns ++ [x.name], by simp [HL.out], by simp, by rw [HNS.out]; simp, by simp [HNL.out], o2, e2⟩
   case measure => simp [RowKit.intOf]; omega
  | nil =>
   obtain rfl : o.maps = pre := by simpa using hl'
   clear hl'
   have hlt : ¬ o.maps.length < o.maps.length := by omega
   go_wp2
   go_ret
   refine ⟨_, rfl, ?_, he'⟩
   have hb := d1'.all (p := fun d => d.name.size ≤ 140737488355328) (fun b o x h => h.2.name)
   have h := ho.read (fun s hs => by
    rw [HNS.out] at hs
    obtain ⟨d, hd, rfl⟩ := List.mem_map.1 hs
    exact hb d hd) (by have := HNL.out; omega)
   rw [show ns = namesOf o from HNS.out] at h
   rw [show ns = namesOf o from HNS.out]
   exact h

set_option maxRecDepth 20000 in
set_option maxHeartbeats 2000000 in
theorem four_any (v : Value) (l : List Int) (base : Nat) (x : Int) (w : World) (hx0 : 0 ≤ x) (hx1 : x ≤ 1099511627776) (ho : OwnB w base v l) (hB : base ≤ w.heap.size) (hL : l.length ≤ 100000000000000) :
  Calls Tryz.prog 55 #[v, .int .i64 x] w fun e w' => ∃ v' l', e = .returned v' ∧ Hx (l' = l ++ le 4 x) ∧ Hx (l'.length = l.length + 4) ∧ OwnB w' base v' l' ∧ Grew w w' v v' := by
 go_enter Tryz.func55, Tryz.ntmps55
 go_wp2
 go_loopw [0, 1, 5] (fun s y i wr => ∃ (k : Nat) (y' : Int) (l' : List Int), k ≤ 4 ∧ i = .int .i64 k ∧ y = .int .i64 y' ∧ 0 ≤ y' ∧ y' ≤ 1099511627776 ∧ OwnB wr base s l' ∧ l' ++ le (4 - k) y' = l ++ le 4 x ∧ l'.length = l.length + k ∧ Grew w wr v s)
  (fun _ _ i _ => 4 - (RowKit.intOf i).toNat)
 case atStart => exact ⟨0, x, l, by omega, rfl, rfl, hx0, hx1, ho, rfl, rfl, Grew.refl _ _⟩
 case round =>
  obtain ⟨k, y', l', hk, rfl, rfl, hy0, hy1, ho', hle, hl', hG⟩ := hrel
  have HE := hx hle; clear hle
  have HLn := hx hl'; clear hl'
  have hsz := hG.size
  by_cases hlt : k < 4
  ·have hlt2 : decide ((k : Int) < 4) = true := by simp; omega
   go_wp2_with (first | (at_builtin; refine wp_app1 tyB encB_ok ho' (y' % 256) rfl rfl rfl rfl rfl (by omega) (by decide) (by have := HLn.out; omega) ?_; intro g cap w1 ho1 hg1 hat1 hbg1))
   have hG1 := hG.trans (Grew.mk1 (n := l'.length + 1) (cap := cap) hg1 hat1)
   clear ho' hG hg1
   go_wp2
   go_roundw
   case rel => exact ⟨k + 1, y' / 256, l' ++ [y' % 256], by omega, by simp, rfl, by omega, by omega, ho1, by
    have := HE.out; rw [show 4 - k = (4 - (k + 1)) + 1 by omega, le] at this; simpa using this, by simp [HLn.out]; omega, hG1⟩
   case measure => simp [RowKit.intOf]; omega
  ·obtain rfl : k = 4 := by omega
   obtain ⟨A, c, rfl⟩ := ho'.slice
   go_wp2
   go_ret
   have h : l' = l ++ le 4 x := by have := HE.out; simpa [le] using this
   exact ⟨_, l', rfl, ⟨h⟩, ⟨by rw [h]; simp [le_length]⟩, ho', hG⟩
end Go.Proofs.YtiaddncjghkajaaGreatDoor


set_option linter.unusedVariables false
set_option linter.unusedSimpArgs false
namespace Go.Proofs.YtiaddncjghkajaaGreatDoor
open Go.RowKit Go.Lib

def mapsF (l : List Def) : Int := (findA (fun _ d => mapE d) 0 l).2
theorem mapsF_cons (d : Def) (l : List Def) : mapsF (d :: l) = if mapE d = 0 then mapsF l else mapE d := by
 have key : ∀ (l : List Def) (i j : Int), (findA (fun _ d => mapE d) i l).2 = (findA (fun _ d => mapE d) j l).2 := by
  intro l
  induction l with
  | nil => intro i j; rfl
  | cons x l ih => intro i j; unfold findA; split <;> first | exact ih _ _ | rfl
 unfold mapsF
 rw [findA]
 split
 ·exact key _ _ _
 ·rfl
set_option maxRecDepth 40000 in
set_option maxHeartbeats 4000000 in
theorem ref16_Check_any (v : Value) (o : Ob) (w : World) (h : IsOb w v o) (hm : o.maps.length ≤ 100000) (hr : o.rels.length ≤ 1000000) :
  Calls Tryz.prog 16 #[v] w fun e w' => e = .returned (.int .i64 (obE o)) ∧ Ext w w' := by
 obtain ⟨v1, v2, v3, rfl, d1, d2, d3⟩ := id h
 obtain ⟨A1, c1, rfl, -, -, d1'⟩ := d1.form
 obtain ⟨A2, c2, rfl, -, hcl, d2'⟩ := d2.form
 obtain ⟨A3, c3, rfl, -, -, d3'⟩ := d3.form
 obtain ⟨W0, hW0⟩ : ∃ W0, W0 = w.alloc (.cells #[.slice A1 o.maps.length c1, .slice A2 o.code.length c2, .slice A3 o.rels.length c3] 26) := ⟨_, rfl⟩
 have e0 : Ext w W0 := by rw [hW0]; exact Ext.new _ _
 have p1 : W0.cell? ⟨w.heap.size, 0, none⟩ = some (.slice A1 o.maps.length c1) := by rw [hW0]; simp
 have p2 : W0.cell? ⟨w.heap.size, 1, none⟩ = some (.slice A2 o.code.length c2) := by rw [hW0]; simp
 have p3 : W0.cell? ⟨w.heap.size, 2, none⟩ = some (.slice A3 o.rels.length c3) := by rw [hW0]; simp
 have HW0 := hx hW0
 clear hW0 d1 d2 d3
 have hnames := fun W (hW : Ext w W) => ref16_names_any _ o W (h.ext hW) hm
 have HNM := hx hnames
 clear hnames h
 have hbn := d1'.all (p := fun d => d.name.size ≤ 140737488355328) (fun b o x h => h.2.name)
 obtain ⟨n, hn⟩ : ∃ n, n = o.code.length := ⟨_, rfl⟩
 rw [← hn] at d2' hcl p2 HNM HW0 ⊢
 have HNN := hx hn
 clear hn
 go_enter Tryz.func16, Tryz.ntmps16
 go_wp2
 rw [← HW0.out]
 go_loopw [3] (fun i wr => ∃ (pre suf : List Def), o.maps = pre ++ suf ∧ i = .int .i64 (pre.length : Nat) ∧ mapsF o.maps = mapsF suf ∧ Ext W0 wr) (fun i _ => o.maps.length - (RowKit.intOf i).toNat)
 case atStart => exact ⟨[], o.maps, rfl, rfl, rfl, Ext.refl _⟩
 case round =>
  obtain ⟨pre, suf, hl', rfl, hf, he⟩ := hrel
  have HF := hx hf
  clear hf
  have hpl : pre.length ≤ 100000 := by have := congrArg List.length hl'; simp at this; omega
  have he' := e0.trans he
  have q1 := he.cell p1
  cases suf with
  | cons x suf =>
   have hlt : pre.length < o.maps.length := by rw [hl']; simp
   have hxn := hbn x (by rw [hl']; simp)
   have hvx := d1'
   rw [hl'] at hvx
   obtain ⟨b, o', rfl, ⟨t1, t2, t3, t4⟩, -⟩ := hvx.at
   replace t1 := he'.cell t1
   replace t2 := he'.cell t2
   replace t3 := he'.cell t3
   replace t4 := he'.cell t4
   have HL := hx hl'; clear hl' hvx
   have hV := ref02_Valid_any x.name wr (by omega)
   have hSz := ref09_Sizes_any x wr
   have HFX := hx (mapsF_cons x suf)
   cases hid : idB x.name with
   | false =>
    rw [hid] at hV
    have hE := hx (show obE o = 7 by
     have h7 : mapE x = 7 := by unfold mapE; rw [hid]; rfl
     have : mapsF o.maps = 7 := by rw [HF.out, HFX.out, h7]; rfl
     have hm7 : mapsE o.maps = 7 := by unfold mapsE; rw [show (findA (fun _ d => mapE d) 0 o.maps).2 = 7 from this]; rfl
     unfold obE; rw [hm7]; rfl)
    clear hid
    go_wp2_with (first | (go_at_call 42; refine hV.mono ?_; rintro e w1 ⟨rfl, rfl⟩))
    go_ret
    exact ⟨ret_int hE.out.symm, he'⟩
   | true =>
    rw [hid] at hV
    cases hsz : sizesB x with
    | false =>
     rw [hsz] at hSz
     have hE := hx (show obE o = 9 by
      have h9 : mapE x = 9 := by unfold mapE; rw [hid, hsz]; rfl
      have : mapsF o.maps = 9 := by rw [HF.out, HFX.out, h9]; rfl
      have hm9 : mapsE o.maps = 9 := by unfold mapsE; rw [show (findA (fun _ d => mapE d) 0 o.maps).2 = 9 from this]; rfl
      unfold obE; rw [hm9]; rfl)
     clear hid hsz
     go_wp2_with (first | (go_at_call 42; refine hV.mono ?_; rintro e w1 ⟨rfl, rfl⟩) | (go_at_call 43; refine hSz.mono ?_; rintro e w1 ⟨rfl, e1⟩))
     go_ret
     exact ⟨ret_int hE.out.symm, he'.trans e1⟩
    | true =>
     rw [hsz] at hSz
     have hE := hx (show mapE x = 0 by unfold mapE; rw [hid, hsz]; rfl)
     clear hid hsz
     go_wp2_with (first | (go_at_call 42; refine hV.mono ?_; rintro e w1 ⟨rfl, rfl⟩) | (go_at_call 43; refine hSz.mono ?_; rintro e w1 ⟨rfl, e1⟩))
     go_roundw
     case rel => exact ⟨pre ++ [x], suf, by simp [HL.out], by simp, by rw [HF.out, HFX.out, if_pos hE.out], he.trans e1⟩
     case measure => simp [RowKit.intOf]; omega
  | nil =>
   obtain rfl : o.maps = pre := by simpa using hl'
   clear hl'
   have hlt : ¬ o.maps.length < o.maps.length := by omega
   have hF0 : (findA (fun _ d => mapE d) 0 o.maps).2 = 0 := HF.out
   have HF0 := hx hF0
   clear hF0 HF
   by_cases h255 : 255 < o.maps.length
   ·have hO := hx (show obE o = 16 by
     have : mapsE o.maps = 16 := by unfold mapsE; rw [if_neg (by rw [HF0.out]; simp), if_pos h255]
     unfold obE; rw [this]; rfl)
    have h255' : (255 : Int) < (o.maps.length : Int) := by omega
    go_wp2
    go_ret
    exact ⟨ret_int hO.out.symm, he'⟩
   have hnm := HNM.out wr he'
   have hk0 := he.cell p1
   have hk1 := he.cell p2
   have hk2 := he.cell p3
   have hR := fun (v' : Value) (W : World) (hv : IsStrs W v' (namesOf o)) => ref02_Repeated_any v' (namesOf o) W (by simp [namesOf]; omega) hv
   have hmE := hx (show mapsE o.maps = if 0 ≤ repN (namesOf o) then 10 else 0 by unfold mapsE; rw [if_neg (by rw [HF0.out]; simp), if_neg h255]; rfl)
   have h255' : ¬ (255 : Int) < (o.maps.length : Int) := by omega
   clear h255 hbn
   generalize repN (namesOf o) = R at *
   by_cases hRn : 0 ≤ R
   ·have hO := hx (show obE o = 10 by unfold obE; rw [hmE.out, if_pos hRn]; rfl)
    go_wp2_with (first | (go_at_call 45; refine hnm.mono ?_; rintro e w1 ⟨vn, rfl, sn, e1⟩) | (go_at_call 44; refine (hR _ _ sn).mono ?_; rintro e w2 ⟨rfl, e2⟩))
    go_ret
    exact ⟨ret_int hO.out.symm, he'.trans (e1.trans e2)⟩
   have hm0 := hx (show mapsE o.maps = 0 by rw [hmE.out, if_neg hRn])
   clear hmE
   by_cases hz : n = 0
   ·have hO := hx (show obE o = 17 by unfold obE; rw [if_neg (by rw [hm0.out]; simp), if_pos (.inl (by rw [← HNN.out]; exact hz))])
    subst hz
    go_wp2_with (first | (go_at_call 45; refine hnm.mono ?_; rintro e w1 ⟨vn, rfl, sn, e1⟩) | (go_at_call 44; refine (hR _ _ sn).mono ?_; rintro e w2 ⟨rfl, e2⟩; have m1 := (e1.trans e2).cell hk1))
    go_ret
    exact ⟨ret_int hO.out.symm, he'.trans (e1.trans e2)⟩
   have hq1 : ((n : Int) == 0) = false := by simp; omega
   by_cases h8 : n % 8 = 0
   case neg =>
    have hO := hx (show obE o = 17 by unfold obE; rw [if_neg (by rw [hm0.out]; simp), if_pos (.inr (by rw [← HNN.out]; exact h8))])
    have hq2 : ((n : Int) % 8 != 0) = true := by simp; omega
    go_wp2_with (first | (go_at_call 45; refine hnm.mono ?_; rintro e w1 ⟨vn, rfl, sn, e1⟩) | (go_at_call 44; refine (hR _ _ sn).mono ?_; rintro e w2 ⟨rfl, e2⟩; have m1 := (e1.trans e2).cell hk1))
    go_ret
    exact ⟨ret_int hO.out.symm, he'.trans (e1.trans e2)⟩
   have hq2 : ((n : Int) % 8 != 0) = false := by simp; omega
   by_cases hb : 524280 < (n : Int)
   ·have hO := hx (show obE o = 16 by unfold obE; rw [if_neg (by rw [hm0.out]; simp), if_neg (by rw [← HNN.out]; omega), if_pos (by rw [← HNN.out]; omega)])
    clear hz h8
    go_wp2_with (first | (go_at_call 45; refine hnm.mono ?_; rintro e w1 ⟨vn, rfl, sn, e1⟩) | (go_at_call 44; refine (hR _ _ sn).mono ?_; rintro e w2 ⟨rfl, e2⟩; have m1 := (e1.trans e2).cell hk1))
    go_ret
    exact ⟨ret_int hO.out.symm, he'.trans (e1.trans e2)⟩
   have hO := hx (show obE o = if relsOk ((n : Int) / 8) o.maps.length (-1) o.rels then 0 else 18 by unfold obE; rw [if_neg (by rw [hm0.out]; simp), if_neg (by rw [← HNN.out]; omega), if_neg (by rw [← HNN.out]; omega), ← HNN.out])
   clear hz h8
   go_wp2_with (first | (go_at_call 45; refine hnm.mono ?_; rintro e w1 ⟨vn, rfl, sn, e1⟩) | (go_at_call 44; refine (hR _ _ sn).mono ?_; rintro e w2 ⟨rfl, e2⟩; have m0 := (e1.trans e2).cell hk0; have m1 := (e1.trans e2).cell hk1; have m2 := (e1.trans e2).cell hk2))
   clear hR hnm hq1 hq2 hk0 hk1 hk2 sn q1
   have ew := he'.trans (e1.trans e2)
   clear e1 e2 he he'
   obtain ⟨S, hS⟩ : ∃ S, S = (n : Int) / 8 := ⟨_, rfl⟩
   have hS2 : (n : Int) / 8 = S := hS.symm
   have hS3 : Int.tdiv (n : Int) 8 = S := by rw [Int.tdiv_eq_ediv_of_nonneg (by omega)]; exact hS2
   have hSb : 0 ≤ S ∧ S ≤ 65535 := by omega
   obtain ⟨hS0, hS1⟩ := hSb
   rw [← hS] at hO
   have HS2 := hx hS2
   have HS3 := hx hS3
   clear hS hS2 hS3
   go_loopw [4] (fun i wr => ∃ (pre suf : List Rel) (y : Int) (N : Nat), o.rels = pre ++ suf ∧ N = pre.length ∧ i = .int .i64 (N : Nat) ∧ relsOk S o.maps.length (-1) o.rels = relsOk S o.maps.length y suf ∧ (N = 0 → y = -1) ∧ (0 < N → ∃ p, o.rels[N - 1]? = some p ∧ p.slot = y) ∧ -1 ≤ y ∧ y ≤ 65535 ∧ Ext w2 wr) (fun i _ => o.rels.length - (RowKit.intOf i).toNat)
   case atStart => exact ⟨[], o.rels, -1, 0, rfl, rfl, rfl, rfl, fun _ => rfl, fun h => absurd h (by simp), by omega, by omega, Ext.refl _⟩
   case round =>
    obtain ⟨pre, suf, y, N, hl', hN, rfl, hRl, hy0, hy1, hy2, hy3, he⟩ := hrel
    have HRl := hx hRl
    have HY0 := hx hy0
    have HY1 := hx hy1
    clear hRl hy0 hy1
    have hpl : N ≤ 1000000 := by have := congrArg List.length hl'; simp at this; omega
    have HNp := hx hN
    have n0 := he.cell m0
    have n1 := he.cell m1
    have n2 := he.cell m2
    have ew' := ew.trans he
    cases suf with
    | cons r suf =>
     have hlt : N < o.rels.length := by rw [hN, hl']; simp
     have hvx := d3'
     rw [hl'] at hvx
     obtain ⟨b, o', rfl, ⟨t1, t2⟩, hok⟩ := hvx.at
     rw [← hN] at t1 t2
     clear hN
     replace t1 := ew'.cell t1
     replace t2 := ew'.cell t2
     have HL := hx hl'; clear hl' hvx
     obtain ⟨x1, x2⟩ := r
     obtain ⟨⟨k1, k2⟩, k3, k4⟩ := hok
     simp only at t1 t2 k1 k2 k3 k4
     have i0 : (0 : Int) ≤ (N : Int) := by omega
     have i1 : (N : Int) < (o.rels.length : Int) := by omega
     have nw := fun (C : Obj) => Ext.new wr C
     have NW := hx nw
     clear nw
     have z0 := (NW.out (.cells #[.int .i64 x1, .int .i64 x2] 78)).cell n0
     have z1 := (NW.out (.cells #[.int .i64 x1, .int .i64 x2] 78)).cell n1
     have z2 := (NW.out (.cells #[.int .i64 x1, .int .i64 x2] 78)).cell n2
     have hs2 := HS2.out
     have hs3 := HS3.out
     by_cases b1 : 0 ≤ x1
     case neg =>
      have hF := hx (show relsOk S o.maps.length y (⟨x1, x2⟩ :: suf) = false by unfold relsOk; simp; omega)
      have hd1 : decide (x1 < 0) = true := by simp; omega
      go_wp2
      go_quiet (fail)
      go_wp2
      go_ret
      exact ⟨ret_int (by rw [hO.out, HRl.out, hF.out]; rfl), (ew'.alloc _).drewN _⟩
     have hd1 : decide (x1 < 0) = false := by simp; omega
     by_cases b2 : x1 < S
     case neg =>
      have hF := hx (show relsOk S o.maps.length y (⟨x1, x2⟩ :: suf) = false by unfold relsOk; simp; omega)
      have hd2 : decide (S ≤ x1) = true := by simp; omega
      go_wp2
      go_quiet (fail)
      go_wp2
      go_ret
      exact ⟨ret_int (by rw [hO.out, HRl.out, hF.out]; rfl), (ew'.alloc _).drewN _⟩
     have hd2 : decide (S ≤ x1) = false := by simp; omega
     by_cases hz0 : N = 0
     ·have hy := HY0.out hz0
      have hd3 : decide ((0 : Int) < (N : Int)) = false := decide_eq_false (by omega)
      have hd3' : decide (0 < N) = false := decide_eq_false (by omega)
      have HYY := hx hy
      clear hz0 hy
      by_cases b4 : 0 ≤ x2
      case neg =>
       have hF := hx (show relsOk S o.maps.length y (⟨x1, x2⟩ :: suf) = false by unfold relsOk; simp; omega)
       have hd4 : decide (x2 < 0) = true := by simp; omega
       go_wp2
       go_quiet (fail)
       go_wp2
       go_ret
       exact ⟨ret_int (by rw [hO.out, HRl.out, hF.out]; rfl), (ew'.alloc _).drewN _⟩
      have hd4 : decide (x2 < 0) = false := by simp; omega
      by_cases b5 : x2 < o.maps.length
      case neg =>
       have hF := hx (show relsOk S o.maps.length y (⟨x1, x2⟩ :: suf) = false by unfold relsOk; simp; omega)
       have hd5 : decide ((o.maps.length : Int) ≤ x2) = true := by simp; omega
       go_wp2
       go_quiet (fail)
       go_wp2
       go_ret
       exact ⟨ret_int (by rw [hO.out, HRl.out, hF.out]; rfl), (ew'.alloc _).drewN _⟩
      have hd5 : decide ((o.maps.length : Int) ≤ x2) = false := by simp; omega
      have hF := hx (show relsOk S o.maps.length y (⟨x1, x2⟩ :: suf) = relsOk S o.maps.length x1 suf by rw [relsOk]; simp only [Bool.and_eq_right_iff_imp, decide_eq_true_eq]; intro; have := HYY.out; omega)
      go_wp2
      go_quiet (fail)
      go_wp2
      go_roundw
      case rel => exact ⟨pre ++ [⟨x1, x2⟩], suf, x1, N + 1, by simp [HL.out], by simp [HNp.out], by simp, by rw [HRl.out, hF.out], fun h => by omega, fun _ => ⟨⟨x1, x2⟩, by rw [HL.out, HNp.out]; simp, rfl⟩, by omega, by omega, (he.alloc _).drewN _⟩
      case measure => simp [RowKit.intOf]; omega
     obtain ⟨p, hp, hpy⟩ := HY1.out (by omega)
     obtain ⟨k, hk⟩ : ∃ k, N = k + 1 := ⟨N - 1, by omega⟩
     have hpk : o.rels[k]? = some p := by rw [← hp]; congr 1; omega
     obtain ⟨_, _, hq, ⟨u1, -⟩, -⟩ := d3'.get hpk
     cases hq
     rw [hpy] at u1
     replace u1 := ew'.cell u1
     have v1 := (NW.out (.cells #[.int .i64 x1, .int .i64 x2] 78)).cell u1
     have HK := hx hk
     have hkb : k < o.rels.length := by omega
     have hw1 : IntKind.i64.wrap ((N : Int) - 1) = k := by rw [IntWalk.i64_in _ (by omega)]; omega
     have hw2 : (N : Int) - 1 = k := by omega
     have hd3 : decide ((0 : Int) < (N : Int)) = true := decide_eq_true (by omega)
     have hd3' : decide (0 < N) = true := decide_eq_true (by omega)
     have hk0 : (0 : Int) ≤ (k : Int) := by omega
     have hk1 : (k : Int) < (o.rels.length : Int) := by omega
     clear hk hp hpk hpy hz0
     by_cases b3 : y < x1
     case neg =>
      have hF := hx (show relsOk S o.maps.length y (⟨x1, x2⟩ :: suf) = false by unfold relsOk; simp; omega)
      have hd6 : decide (x1 ≤ y) = true := by simp; omega
      go_wp2
      go_quiet (fail)
      go_wp2
      go_ret
      exact ⟨ret_int (by rw [hO.out, HRl.out, hF.out]; rfl), (ew'.alloc _).drewN _⟩
     have hd6 : decide (x1 ≤ y) = false := by simp; omega
     by_cases b4 : 0 ≤ x2
     case neg =>
      have hF := hx (show relsOk S o.maps.length y (⟨x1, x2⟩ :: suf) = false by unfold relsOk; simp; omega)
      have hd4 : decide (x2 < 0) = true := by simp; omega
      go_wp2
      go_quiet (fail)
      go_wp2
      go_ret
      exact ⟨ret_int (by rw [hO.out, HRl.out, hF.out]; rfl), (ew'.alloc _).drewN _⟩
     have hd4 : decide (x2 < 0) = false := by simp; omega
     by_cases b5 : x2 < o.maps.length
     case neg =>
      have hF := hx (show relsOk S o.maps.length y (⟨x1, x2⟩ :: suf) = false by unfold relsOk; simp; omega)
      have hd5 : decide ((o.maps.length : Int) ≤ x2) = true := by simp; omega
      go_wp2
      go_quiet (fail)
      go_wp2
      go_ret
      exact ⟨ret_int (by rw [hO.out, HRl.out, hF.out]; rfl), (ew'.alloc _).drewN _⟩
     have hd5 : decide ((o.maps.length : Int) ≤ x2) = false := by simp; omega
     have hF := hx (show relsOk S o.maps.length y (⟨x1, x2⟩ :: suf) = relsOk S o.maps.length x1 suf by rw [relsOk]; simp only [Bool.and_eq_right_iff_imp, decide_eq_true_eq]; intro; omega)
     go_wp2
     go_quiet (fail)
     go_wp2
     go_roundw
     case rel => exact ⟨pre ++ [⟨x1, x2⟩], suf, x1, N + 1, by simp [HL.out], by simp [HNp.out], by simp, by rw [HRl.out, hF.out], fun h => by omega, fun _ => ⟨⟨x1, x2⟩, by rw [HL.out, HNp.out]; simp, rfl⟩, by omega, by omega, (he.alloc _).drewN _⟩
     case measure => simp [RowKit.intOf]; omega
    | nil =>
     obtain rfl : o.rels = pre := by simpa using hl'
     clear hl'
     have hlt : ¬ N < o.rels.length := by omega
     clear hN
     go_wp2
     go_ret
     exact ⟨ret_int (by rw [hO.out, HRl.out]; rfl), ew'⟩
end Go.Proofs.YtiaddncjghkajaaGreatDoor


set_option linter.unusedVariables false
set_option linter.unusedSimpArgs false
namespace Go.Proofs.YtiaddncjghkajaaGreatDoor
open Go.RowKit Go.Lib

theorem isOb_form {w : World} {v : Value} {o : Ob} (h : IsOb w v o) : ∃ A1 c1 A2 c2 A3 c3, v = .agg #[.slice A1 o.maps.length c1, .slice A2 o.code.length c2, .slice A3 o.rels.length c3] ∧ IsOb w (.agg #[.slice A1 o.maps.length c1, .slice A2 o.code.length c2, .slice A3 o.rels.length c3]) o := by
 obtain ⟨v1, v2, v3, rfl, d1, d2, d3⟩ := id h
 obtain ⟨A1, c1, rfl, -⟩ := d1.form
 obtain ⟨A2, c2, rfl, -⟩ := d2.form
 obtain ⟨A3, c3, rfl, -⟩ := d3.form
 exact ⟨A1, c1, A2, c2, A3, c3, rfl, h⟩
/-- An object's three slices. -/
def ObV (w : World) (A1 : Option Addr) (c1 : Nat) (A2 : Option Addr) (c2 : Nat) (A3 : Option Addr) (c3 : Nat) (n1 n2 n3 : Nat) (o : Ob) : Prop := IsOb w (.agg #[.slice A1 n1 c1, .slice A2 n2 c2, .slice A3 n3 c3]) o
def fewI (n1 n2 n3 : Nat) : Int := if n2 > 4000 ∨ n1 > 300 ∨ n3 > 500 then 0 else 1
set_option maxRecDepth 20000 in
set_option maxHeartbeats 1000000 in
theorem Few_any (v : Value) (o : Ob) (w : World) (h : IsOb w v o) :
  Calls Tryz.prog 13 #[v] w fun e w' => e = .returned (.int .i64 (fewI o.maps.length o.code.length o.rels.length)) ∧ Ext w w' := by
 obtain ⟨A1, c1, A2, c2, A3, c3, rfl, h'⟩ := isOb_form h
 obtain ⟨n1, hn1⟩ : ∃ n, n = o.maps.length := ⟨_, rfl⟩
 obtain ⟨n2, hn2⟩ : ∃ n, n = o.code.length := ⟨_, rfl⟩
 obtain ⟨n3, hn3⟩ : ∃ n, n = o.rels.length := ⟨_, rfl⟩
 rw [← hn1, ← hn2, ← hn3]
 have hb : n1 ≤ 281474976710656 ∧ n2 ≤ 281474976710656 ∧ n3 ≤ 281474976710656 := by
  obtain ⟨v1, v2, v3, _, d1, d2, d3⟩ := h'
  exact ⟨by rw [hn1]; exact d1.len, by rw [hn2]; exact d2.len, by rw [hn3]; exact d3.len⟩
 obtain ⟨hb1, hb2, hb3⟩ := hb
 clear hn1 hn2 hn3 h h'
 by_cases b1 : (4000 : Int) < (n2 : Int)
 ·have hR := hx (show fewI n1 n2 n3 = 0 from if_pos (by omega))
  go_enter Tryz.func13, Tryz.ntmps13
  go_wp2
  go_ret
  exact ⟨ret_int hR.out.symm, Ext.new _ _⟩
 by_cases b2 : (300 : Int) < (n1 : Int)
 ·have hR := hx (show fewI n1 n2 n3 = 0 from if_pos (by omega))
  go_enter Tryz.func13, Tryz.ntmps13
  go_wp2
  go_ret
  exact ⟨ret_int hR.out.symm, Ext.new _ _⟩
 by_cases b3 : (500 : Int) < (n3 : Int)
 ·have hR := hx (show fewI n1 n2 n3 = 0 from if_pos (by omega))
  go_enter Tryz.func13, Tryz.ntmps13
  go_wp2
  go_ret
  exact ⟨ret_int hR.out.symm, Ext.new _ _⟩
 ·have hR := hx (show fewI n1 n2 n3 = 1 from if_neg (by omega))
  go_enter Tryz.func13, Tryz.ntmps13
  go_wp2
  go_ret
  exact ⟨ret_int hR.out.symm, Ext.new _ _⟩
theorem fewI_one {n1 n2 n3 : Nat} (h : fewI n1 n2 n3 ≠ 0) : n2 ≤ 4000 ∧ n1 ≤ 300 ∧ n3 ≤ 500 := by
 unfold fewI at h
 split at h
 ·exact absurd rfl h
 ·omega
theorem fewI_val (n1 n2 n3 : Nat) : fewI n1 n2 n3 = 0 ∨ fewI n1 n2 n3 = 1 := by unfold fewI; split <;> simp
end Go.Proofs.YtiaddncjghkajaaGreatDoor
