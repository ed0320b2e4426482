/- The layer valid: fields, writes, jumps, ends of the checker. -/
import Derived.Test.YtiaddncjghkajaaGreatDoorJLayR
import Derived.Test.YtiaddncjghkajaaGreatDoorJWord
import Derived.Maps.RangeWalk
set_option linter.unusedVariables false
set_option linter.unusedSimpArgs false
namespace Go.Proofs.YtiaddncjghkajaaGreatDoor
open Go.RowKit

set_option maxRecDepth 40000 in
theorem fields_any (cb : Nat) (v0 v1 v2 : Value) (A : Option Addr) (c : Nat) (As : Option Addr) (cs m : Nat) (L : List Ins) (w : World) (hP : ChkP w cb v0 v1 v2 A c As cs m L) (hL : m ≤ 1000000) (hO : OpsN w) :
  Calls Tryz.prog 116 #[.pointer (some ⟨cb, 0, none⟩)] w fun e' w' => e' = .returned (.tuple #[.int .i64 ((fstN fieldP L).getD 0), .int .i64 (fstE fieldP L 12)]) ∧ Ext w w' := by
 have H := hx (first_any cb 149 fieldP 12 v0 v1 v2 A c As cs m L w hP hL (enters_of Tryz.func149 (by kernel_rfl) rfl) fun x W hx0 h => fields1_any x W hx0 (hO.ext h))
 generalize (fstN fieldP L).getD 0 = R at *
 generalize fstE fieldP L 12 = E at *
 clear hP hO
 go_enter Tryz.func116, Tryz.ntmps116
 go_wp2_with fail
 refine H.out.mono ?_
 rintro e w1 ⟨rfl, e1⟩
 go_wp2
 go_ret2
 exact ⟨rfl, e1⟩
set_option maxRecDepth 40000 in
theorem writes_any (cb : Nat) (v0 v1 v2 : Value) (A : Option Addr) (c : Nat) (As : Option Addr) (cs m : Nat) (L : List Ins) (w : World) (hP : ChkP w cb v0 v1 v2 A c As cs m L) (hL : m ≤ 1000000) (hO : OpsN w) :
  Calls Tryz.prog 119 #[.pointer (some ⟨cb, 0, none⟩)] w fun e' w' => e' = .returned (.tuple #[.int .i64 ((fstN writeP L).getD 0), .int .i64 (fstE writeP L 14)]) ∧ Ext w w' := by
 have H := hx (first_any cb 150 writeP 14 v0 v1 v2 A c As cs m L w hP hL (enters_of Tryz.func150 (by kernel_rfl) rfl) fun x W hx0 h => writes1_any x W hx0 (hO.ext h))
 generalize (fstN writeP L).getD 0 = R at *
 generalize fstE writeP L 14 = E at *
 clear hP hO
 go_enter Tryz.func119, Tryz.ntmps119
 go_wp2_with fail
 refine H.out.mono ?_
 rintro e w1 ⟨rfl, e1⟩
 go_wp2
 go_ret2
 exact ⟨rfl, e1⟩
theorem tgtBad_bd (L : List Ins) : tgtBad L = -1 ∨ ∃ k : Nat, tgtBad L = (k : Int) ∧ k < L.length := by
 unfold tgtBad
 split
 ·rename_i r h
  obtain ⟨k, hk, hr⟩ := List.exists_of_findSome?_eq_some h
  have hk' : k < L.length := by simpa using hk
  split at hr
  ·injection hr with hr; exact .inr ⟨k, hr.symm, hk'⟩
  ·cases hr
 ·exact .inl rfl
def jmpAt (L : List Ins) : Int := if tgtBad L ≥ 0 then slotsT (L.take (tgtBad L).toNat) else 0
def jmpE (L : List Ins) : Int := if tgtBad L ≥ 0 then 13 else 0
set_option maxRecDepth 40000 in
set_option maxHeartbeats 4000000 in
theorem jumps_any (cb : Nat) (v0 v1 v2 : Value) (A : Option Addr) (c : Nat) (As : Option Addr) (cs m : Nat) (L : List Ins) (w : World) (hP : ChkP w cb v0 v1 v2 A c As cs m L) (hL : m ≤ 1000000) (hO : OpsN w) (ho : OffOk L) :
  Calls Tryz.prog 118 #[.pointer (some ⟨cb, 0, none⟩)] w fun e' w' => e' = .returned (.tuple #[.int .i64 (jmpAt L), .int .i64 (jmpE L)]) ∧ Ext w w' := by
 obtain ⟨hr, hi, hs, hm⟩ := hP
 have q3 := hr.cell (i := 3) rfl
 have q4 := hr.cell (i := 4) rfl
 have HT := hx (Targets_any _ L w hi (by omega) ho hO)
 have HJ := hx (show jmpAt L = if tgtBad L ≥ 0 then slotsT (L.take (tgtBad L).toNat) else 0 from rfl)
 have HE := hx (show jmpE L = if tgtBad L ≥ 0 then 13 else 0 from rfl)
 have Q4 := hx q4
 rcases tgtBad_bd L with hb | ⟨k, hb, hk⟩
 ·rw [hb] at HT HJ HE
  clear hr hi hs hm q4 hb ho
  go_enter Tryz.func118, Tryz.ntmps118
  go_wp2_with fail
  refine HT.out.mono ?_
  rintro e w1 ⟨v', rfl, -, e1⟩
  go_wp2
  go_ret2
  exact ⟨by rw [HJ.out, HE.out]; rfl, e1⟩
 ·rw [hb] at HT HJ HE
  obtain ⟨S, hS⟩ : ∃ S, (startsL L)[k]? = some S := ⟨_, List.getElem?_eq_getElem (by rw [startsL_length]; exact hk)⟩
  have hSv : S = slotsT (L.take k) := by
   rw [startsL_get hk] at hS
   exact (Option.some.inj hS).symm
  obtain ⟨b0, o, rfl, d1, -⟩ := hs.get hS
  rw [Nat.mul_one] at d1
  have D1 := hx d1
  have HSV := hx hSv
  have hkm : (k : Int) < (m : Int) := by omega
  have hd : decide ((k : Int) ≥ 0) = true := decide_eq_true (by omega)
  have HK := hx (show (k : Int) ≥ 0 by omega)
  clear hr hi hs hm q4 hb hS hSv d1 ho hk
  go_enter Tryz.func118, Tryz.ntmps118
  go_wp2_with fail
  refine HT.out.mono ?_
  rintro e w1 ⟨v', rfl, -, e1⟩
  have d5 := e1.cell D1.out
  have q5 := e1.cell Q4.out
  have E1 := hx e1
  clear e1 q3
  go_wp2
  go_ret2
  exact ⟨by rw [HJ.out, HE.out, if_pos HK.out, if_pos HK.out, Int.toNat_natCast, ← HSV.out]; rfl, E1.out⟩
def endAt (L : List Ins) : Int := if endsX (L.getD (L.length - 1) default) then 0 else slotsT (L.take (L.length - 1))
def endE (L : List Ins) : Int := if endsX (L.getD (L.length - 1) default) then 0 else 15
set_option maxRecDepth 40000 in
set_option maxHeartbeats 4000000 in
theorem ends_any (cb : Nat) (v0 v1 v2 : Value) (A : Option Addr) (c : Nat) (As : Option Addr) (cs m : Nat) (L : List Ins) (w : World) (hP : ChkP w cb v0 v1 v2 A c As cs m L) (hL : m ≤ 1000000) (hne : 0 < m) (hO : OpsN w) :
  Calls Tryz.prog 120 #[.pointer (some ⟨cb, 0, none⟩)] w fun e' w' => e' = .returned (.tuple #[.int .i64 (endAt L), .int .i64 (endE L)]) ∧ Ext w w' := by
 obtain ⟨hr, hi, hs, hm⟩ := hP
 have q3 := hr.cell (i := 3) rfl
 have q4 := hr.cell (i := 4) rfl
 obtain ⟨k, hk⟩ : ∃ k, m = k + 1 := ⟨m - 1, by omega⟩
 have hlk : L.length - 1 = k := by omega
 obtain ⟨x, hx0⟩ : ∃ x, L[k]? = some x := ⟨_, List.getElem?_eq_getElem (by omega)⟩
 have hg : L.getD k default = x := by rw [List.getD_eq_getElem?_getD, hx0]; rfl
 have hA : endAt L = if endsX x then 0 else slotsT (L.take k) := by unfold endAt; rw [hlk, hg]
 have hE : endE L = if endsX x then 0 else 15 := by unfold endE; rw [hlk, hg]
 obtain ⟨bx, ox, rfl, hEx⟩ := hi.get hx0
 obtain ⟨⟨k0, k1, k2, k3, k4, k5⟩, hok⟩ := hEx
 obtain ⟨S, hS⟩ : ∃ S, (startsL L)[k]? = some S := ⟨_, List.getElem?_eq_getElem (by rw [startsL_length]; omega)⟩
 have hSv : S = slotsT (L.take k) := by
  rw [startsL_get (by omega)] at hS
  exact (Option.some.inj hS).symm
 obtain ⟨b0, o, rfl, d1, -⟩ := hs.get hS
 rw [Nat.mul_one] at d1
 have hw1 : wrap64 ((m : Int) - 1) = (k : Int) := by rw [hk]; push_cast; rw [show (k : Int) + 1 - 1 = k by omega]; exact wrapL _ (by omega) (by omega)
 have hk1 : (m : Int) - 1 = (k : Int) := by omega
 have hkm : (k : Int) < (m : Int) := by omega
 have HX := hx (insnEnds_any x w hok hO)
 have HA := hx hA
 have HE := hx hE
 have HSV := hx hSv
 have D1 := hx d1
 have Q4 := hx q4
 unfold Ins.v at HX
 obtain ⟨op, reg, n1, n2, n3, n4⟩ := x
 dsimp only at *
 generalize endsX ⟨op, reg, n1, n2, n3, n4⟩ = B at *
 clear hr hi hs hm hk hlk hg hA hE hS hSv d1 q4 hx0 hok
 cases B with
 | true =>
  go_enter Tryz.func120, Tryz.ntmps120
  go_wp2_with fail
  refine HX.out.mono ?_
  rintro e w1 ⟨rfl, e1⟩
  go_wp2
  go_ret2
  exact ⟨by rw [HA.out, HE.out]; rfl, e1⟩
 | false =>
  go_enter Tryz.func120, Tryz.ntmps120
  go_wp2_with fail
  refine HX.out.mono ?_
  rintro e w1 ⟨rfl, e1⟩
  have d5 := e1.cell D1.out
  have q5 := e1.cell Q4.out
  have E1 := hx e1
  clear e1 q3 k0 k1 k2 k3 k4 k5
  go_wp2
  go_ret2
  exact ⟨by rw [HA.out, HE.out, HSV.out]; rfl, E1.out⟩
end Go.Proofs.YtiaddncjghkajaaGreatDoor


set_option linter.unusedVariables false
set_option linter.unusedSimpArgs false
namespace Go.Proofs.YtiaddncjghkajaaGreatDoor
open Go.RowKit Go.Lib

def SetI (w : World) (b n : Nat) (p : Int → Bool) : Prop :=
 ∃ D : DataW Unit, w.ownsMap Tryz.prog 3 (plainElem Tryz.prog 4) b n D ∧ ∀ s, Maps.has D (keyI s) = p s ∧ D.atKey (keyI s) (.lit (.bool false)) = .lit (.bool (p s))
theorem SetI.made (w : World) : SetI (w.alloc (.map #[] 0)) w.heap.size 0 (fun _ => false) := ⟨.map [], World.ownsMap_made _ _ _ _, fun s => ⟨rfl, rfl⟩⟩
theorem SetI.kept {w w' : World} {row : Option Nat} {b n : Nat} {p : Int → Bool} (h : SetI w b n p) (hg : w.grownBy w' row) (hne : some b ≠ row) : SetI w' b n p := by
 obtain ⟨D, h1, h2⟩ := h
 exact ⟨D, h1.kept hg hne, h2⟩
theorem SetI.ext {w w' : World} {b n : Nat} {p : Int → Bool} (h : SetI w b n p) (he : Ext w w') : SetI w' b n p := h.kept (he.toGrown none) (by simp)
set_option maxRecDepth 20000 in
theorem SetI.look {w : World} {b n : Nat} {p : Int → Bool} (h : SetI w b n p) (s : Int) (hs : I64 s) :
  (Instr.lookup 210 (.map (some b)) (.int .i64 s) false).run Tryz.prog w = .ok (.bool (p s)) w := by
 obtain ⟨D, h1, h2⟩ := h
 obtain ⟨v, ps, hr, hv⟩ := h1.lookup (Maps.int_keyed Tryz.underlying3) Tryz.underlying210 (zeroBool w) (plainElem_bool Tryz.underlying4 false) (Maps.keyOf_int_mk Tryz.underlying3 (keyI_wf hs))
 obtain ⟨x, rfl, hx⟩ := plainBool_inv hv
 have h3 : (DataW.lit (.bool (p s)) : DataW Unit) = .lit (.bool x) := by rw [← (h2 s).2]; exact congrArg Prod.fst hx
 injection h3 with h3
 injection h3 with h3
 rw [hr, h3]
theorem wp_mapUpdB {ops : Array Oper} {rest : List Oper} {o : Oper} {a : Act} {Q : Exit → Act → World → Prop} {w : World} {b n : Nat} {p : Int → Bool} (h : SetI w b n p) (s : Int) (hs : I64 s) (hn : n < 1000000000) (hgd : o.guard = none) {m k v : Operand}
  (ho : o.op = .mapUpdate 210 m k v) (hm : a.eval m = .map (some b)) (hk : a.eval k = .int .i64 s) (hv : a.eval v = .bool true)
  (hK : ∀ w', SetI w' b (n + 1) (fun y => if y = s then true else p y) → w.grownBy w' (some b) → wpList Tryz.prog ops Q rest (a.put o.dst undef) w') : wpList Tryz.prog ops Q (o :: rest) a w := by
 obtain ⟨D, h1, h2⟩ := h
 refine wpList_plain hgd fun K hK' => ?_
 obtain ⟨w', hr, h3, h4⟩ := h1.update (Maps.int_keyed Tryz.underlying3) Tryz.underlying210 (by simp only [maxLen]; omega) (Maps.keyOf_int_mk Tryz.underlying3 (keyI_wf hs)) (plainElem_bool Tryz.underlying4 true)
 unfold Oper.wp
 simp [execOp, ho, hm, hk, hv, hr, Result.andThen]
 refine hK' _ _ (hK w' ⟨_, h3, fun y => ?_⟩ h4)
 by_cases hy : y = s
 ·subst hy
  dsimp only
  rw [if_pos rfl]
  exact ⟨Maps.has_put_same h1.isMap (by trivial) _, Maps.atKey_put_same h1.isMap (by trivial) _ _⟩
 ·dsimp only
  rw [if_neg hy]
  exact ⟨(Maps.has_put_other (fun e => hy (keyI_inj e)) _).trans (h2 y).1, (Maps.atKey_put_other (fun e => hy (keyI_inj e)) _ _).trans (h2 y).2⟩
theorem wp_delB {ops : Array Oper} {rest : List Oper} {o : Oper} {a : Act} {Q : Exit → Act → World → Prop} {w : World} {b n : Nat} {p : Int → Bool} (h : SetI w b n p) (s : Int) (hs : I64 s) (hgd : o.guard = none) {m k : Operand}
  (ho : o.op = Op.call { callee := Callee.builtin Builtin.delete, args := #[m, k], argTypes := #[210, 3] }) (hm : a.eval m = .map (some b)) (hk : a.eval k = .int .i64 s)
  (hK : ∀ w', SetI w' b n (fun y => if y = s then false else p y) → w.grownBy w' (some b) → wpList Tryz.prog ops Q rest (a.put o.dst (.tuple #[])) w') : wpList Tryz.prog ops Q (o :: rest) a w := by
 obtain ⟨D, h1, h2⟩ := h
 refine wpList_delete_own w hgd m k 210 3 ho 4 (Maps.int_keyed Tryz.underlying3) Tryz.underlying210 _ b n D hm h1 _ _ hk (Maps.keyOf_int_mk Tryz.underlying3 (keyI_wf hs)) fun w' h3 h4 => ?_
 refine hK w' ⟨_, h3, fun y => ?_⟩ h4.grown
 by_cases hy : y = s
 ·subst hy
  dsimp only
  rw [if_pos rfl]
  exact ⟨Maps.has_del_same, Maps.atKey_del_same _⟩
 ·dsimp only
  rw [if_neg hy]
  exact ⟨(Maps.has_del_other (fun e => hy (keyI_inj e))).trans (h2 y).1, (Maps.atKey_del_other (fun e => hy (keyI_inj e)) _).trans (h2 y).2⟩
/-- The range over the set: which numbers are still to come. -/
def RngI (w : World) (b r : Nat) (left : Int → Bool) (cnt : Nat) : Prop :=
 ∃ (n : Nat) (D : DataW Unit) (l : Lit → Bool), w.ranges Tryz.prog 3 (plainElem Tryz.prog 4) b r n D l cnt ∧ ∀ s, l (keyI s) = left s
theorem wp_rangeB {ops : Array Oper} {rest : List Oper} {o : Oper} {a : Act} {Q : Exit → Act → World → Prop} {w : World} {b n : Nat} {p : Int → Bool} (h : SetI w b n p) (hgd : o.guard = none) {m : Operand}
  (ho : o.op = Op.range 210 m) (hm : a.eval m = .map (some b))
  (hK : ∀ w' cnt, RngI w' b w.heap.size p cnt → Ext w w' → wpList Tryz.prog ops Q rest (a.put o.dst (.pointer (some ⟨w.heap.size, 0, none⟩))) w') : wpList Tryz.prog ops Q (o :: rest) a w := by
 obtain ⟨D, h1, h2⟩ := h
 refine wpList_range_own w hgd m 210 ho 3 4 (Maps.int_keyed Tryz.underlying3) Tryz.underlying210 _ b n D hm h1 fun w' h3 h4 h5 => ?_
 exact hK w' _ ⟨n, D, _, h3, fun s => (h2 s).1⟩ ⟨h4.os, h4.tape, h4.output, h4.size, fun i hi => h4.block i hi (by simp)⟩
set_option maxRecDepth 20000 in
theorem wp_nextB {ops : Array Oper} {rest : List Oper} {o : Oper} {a : Act} {Q : Exit → Act → World → Prop} {w : World} {b r cnt : Nat} {left : Int → Bool} (h : RngI w b r left cnt) (hgd : o.guard = none) {it : Operand}
  (ho : o.op = Op.next it false) (hit : a.eval it = .pointer (some ⟨r, 0, none⟩))
  (hDone : (∀ s, left s = false) → wpList Tryz.prog ops Q rest (a.put o.dst (.tuple #[.bool false])) w)
  (hMore : ∀ (x : Int) (u : Value) (w' : World) (cnt' : Nat), I64 x → left x = true → RngI w' b r (fun z => left z && !(z == x)) cnt' → cnt' < cnt → w.grownBy w' (some r) → w'.heap.size = w.heap.size →
   (Instr.entry (.pointer (some ⟨r, 0, none⟩))).run Tryz.prog w' = .ok (.tuple #[.int .i64 x, u]) w' → wpList Tryz.prog ops Q rest (a.put o.dst (.tuple #[.bool true, .int .i64 x, u])) w') : wpList Tryz.prog ops Q (o :: rest) a w := by
 obtain ⟨n, D, l, h1, h2⟩ := h
 refine wpList_next_ranges w hgd it ho 3 (Maps.int_keyed Tryz.underlying3) _ (Value.int .i64) Value.bool (fun key kl hkey => by obtain ⟨x, rfl, _⟩ := Maps.keyOf_int_inv Tryz.underlying3 hkey; exact ⟨x, rfl⟩)
  (fun v y hv => by obtain ⟨c, rfl, _⟩ := plainBool_inv hv; exact ⟨c, rfl⟩) b r n D l cnt hit h1 (fun _ hl => hDone fun s => by rw [← h2 s]; exact hl _) ?_
 intro x c kl y w' cnt' hkey hlk _ _ hrg hlt hg hsz hen
 obtain ⟨x', ex, rfl, hwx⟩ := Maps.keyOf_int_inv Tryz.underlying3 hkey
 cases ex
 refine hMore x (.bool c) w' cnt' ?_ ((h2 x).symm.trans hlk) ⟨n, D, _, hrg, fun s => ?_⟩ hlt hg hsz hen
 ·have h := hwx
  have m1 : IntKind.i64.min = -9223372036854775808 := by decide
  have m2 : IntKind.i64.max = 9223372036854775807 := by decide
  simp only [Lit.wf, m1, m2, Bool.and_eq_true, decide_eq_true_eq] at h
  exact h
 ·show (l (keyI s) && !(keyI s).sameKey (Lit.int .i64 x)) = _
  rw [h2 s]
  congr 1
  have hs : (keyI s).sameKey (Lit.int .i64 x) = (s == x) := by
   show decide (IntKind.i64 = IntKind.i64 ∧ s = x) = (s == x)
   rw [Bool.eq_iff_iff, decide_eq_true_eq, beq_iff_eq]
   exact ⟨fun h => h.2, fun h => ⟨rfl, h⟩⟩
  rw [hs]
end Go.Proofs.YtiaddncjghkajaaGreatDoor
