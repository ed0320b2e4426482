/- The layer insn, the reference: Check, its cases joined. -/
import Derived.Test.YtocnmjpldpbioaaGreatDoorJRefChkB
import Derived.Test.YtocnmjpldpbioaaGreatDoorJRefChkC
import Derived.Test.YtocnmjpldpbioaaGreatDoorJRefChkD
import Derived.Test.YtocnmjpldpbioaaGreatDoorJFmtI
import Derived.Test.YtocnmjpldpbioaaGreatDoorJDec
import Derived.Test.YtocnmjpldpbioaaGreatDoorJTabI
import Derived.RangeFuncNested
import Derived.RangeFuncBound
import Derived.RangeFuncCalls
import Derived.RangeFuncLeaves
import Derived.RangeFuncBox
import Derived.Shelf.Abstract
import Derived.Shelf.RegionOpen
import Derived.OwnWalkIn
import Derived.TacticsInMore
import Derived.LoopNIn
import Derived.LoopIn
import Derived.OrdersHeld
import Derived.Lib.SmallJoins
import Derived.Lib.AtoiAllCases
import Derived.Deep.QuietTactic
import Derived.BigQuiet
import Derived.Maps.OwnOps
import Derived.Maps.OwnSet
import Derived.Test.YtocnmjpldpbioaaGreatDoorJCore
import Derived.Laws.EntriesVeiled
namespace Go.Proofs.YtocnmjpldpbioaaGreatDoor
open Go.RowKit
end Go.Proofs.YtocnmjpldpbioaaGreatDoor


set_option linter.unusedVariables false
set_option linter.unusedSimpArgs false
namespace Go.Proofs.YtocnmjpldpbioaaGreatDoor
open Go.RowKit

end Go.Proofs.YtocnmjpldpbioaaGreatDoor


set_option linter.unusedVariables false
set_option linter.unusedSimpArgs false
namespace Go.Proofs.YtocnmjpldpbioaaGreatDoor
open Go.RowKit Go.Lib Go.Shelf Go.Proofs
attribute [local go_sem] Oper.semAt_some

def KpT (n₀ B : Nat) (W W' : World) : Prop := Below n₀ W W' ∧ W'.heap[B]? = W.heap[B]?
theorem KpT.refl (n₀ B : Nat) (W : World) : KpT n₀ B W W := ⟨Below.refl _ _, rfl⟩
theorem KpT.trans {n₀ B : Nat} {W W1 W2 : World} (h : KpT n₀ B W W1) (k : KpT n₀ B W1 W2) : KpT n₀ B W W2 := ⟨h.1.trans k.1, k.2.trans h.2⟩

end Go.Proofs.YtocnmjpldpbioaaGreatDoor


set_option linter.unusedVariables false
set_option linter.unusedSimpArgs false
namespace Go.Proofs.YtocnmjpldpbioaaGreatDoor
open Go.RowKit Go.Lib Go.Shelf Go.Proofs

/-- From one world to another only rows of some types have turned. -/
structure Mid (B : Nat) (W X : World) : Prop where
 box : ∀ b t v, Boxed W b t v → t ≠ 9 → t ≠ 3 → Boxed X b t v
 ko : KeepsOthers W X
 bel : Below B W X
theorem Mid.refl (B : Nat) (W : World) : Mid B W W := ⟨fun _ _ _ h _ _ => h, KeepsOthers.refl _, Below.refl _ _⟩
theorem Mid.drew {B : Nat} {W X : World} (h : Mid B W X) : Mid B W X.drew := ⟨h.box, h.ko.trans (KeepsOthers.drew X), h.bel.drew⟩
theorem Mid.alloc {B : Nat} {W X : World} (h : Mid B W X) (hB : B ≤ X.heap.size) (o : Obj) : Mid B W (X.alloc o) := ⟨fun b t v hb h1 h2 => (h.box b t v hb h1 h2).alloc o, h.ko.trans (KeepsOthers.alloc X o), h.bel.alloc hB o⟩
end Go.Proofs.YtocnmjpldpbioaaGreatDoor


set_option linter.unusedVariables false
set_option linter.unusedSimpArgs false
namespace Go.Proofs.YtocnmjpldpbioaaGreatDoor
open Go.RowKit Go.Lib

theorem regNo_cons {s : ByteArray} {n : Nat} (h : regNo s = some n) : n ≤ 10 ∧ s.data.toList = 114 :: Lib.decDigits n := by
 obtain ⟨hn, hs⟩ := regNo_some h
 refine ⟨hn, ?_⟩
 rw [← hs, nameOf_in hn]; rfl
theorem dec_ne (n : Nat) : Lib.decDigits n ≠ [] := by rw [dec_step]; simp
theorem regNo_short {s : ByteArray} (h : s.size < 2) : regNo s = none := by
 cases hr : regNo s with
 | none => rfl
 | some n =>
  obtain ⟨_, h2⟩ := regNo_cons hr
  have h3 : s.data.toList.length = s.size := by simp
  rw [h2] at h3
  have := List.length_pos_iff.2 (dec_ne n)
  simp at h3; omega
theorem regNo_head {s : ByteArray} {b : UInt8} (h : s.data.toList[0]? = some b) (hb : b ≠ 114) : regNo s = none := by
 cases hr : regNo s with
 | none => rfl
 | some n =>
  obtain ⟨_, h2⟩ := regNo_cons hr
  rw [h2] at h
  simp at h
  exact absurd h.symm hb
theorem regNo_atoi {s : ByteArray} {n : Nat} (h : regNo s = some n) : Lib.atoiAll (s.data.toList.drop 1) = .ok n := by
 obtain ⟨hn, h2⟩ := regNo_cons h
 rw [h2]; exact atoi_dec hn
theorem bytesWorld_ext (w : World) (t : TypeId) (s : ByteArray) : Ext w (Lib.bytesWorld w t s) := by
 exact Go.Joins.below_bytesWorld _ w t s (Nat.le_refl _)
theorem extract_tail (s : ByteArray) : (s.extract 1 s.size).data.toList = s.data.toList.drop 1 := by
 rw [ByteArray.data_extract, Array.toList_extract]
 simp [List.extract]
 exact List.take_of_length_le (by simp)

set_option maxRecDepth 20000 in
set_option maxHeartbeats 1000000 in
theorem ident_Register_any (s : ByteArray) (w : World) (hs : s.size ≤ 281474976710656) (hG0 : GlobQ [s] w) :
  Calls Tryz.prog 121 #[.string s] w fun e w' => e = .returned (.tuple #[.int .i64 (regN s), .bool (regB s)]) ∧ Ext w w' := by
 by_cases h2 : s.size < 2
 ·have hr := regNo_short h2
  have h1 : regN s = 0 := by rw [regN, hr]
  have h3 : regB s = false := by rw [regB, hr]; rfl
  rw [h1, h3]
  go_enter Tryz.func121, Tryz.ntmps121
  go_wp2
  go_ret2
  exact ⟨rfl, Ext.refl _⟩
 ·have hlt : 0 < s.size := by omega
  have hat := str_at hlt
  by_cases hb : (s[0]'hlt) = 114
  ·have hG : Glob w := by
    rcases hG0.2 with h | h
    ·rcases h s (by simp) with h | h
     ·exact absurd h h2
     ·exact absurd (by rw [hat, hb]) h
    ·exact h
   clear hG0
   have htl := extract_tail s
   have hne : s.data.toList[0]? = some 114 := by rw [hat, hb]
   have hbn : (((s[0]'hlt).toNat : Int) != 114) = false := by rw [hb]; rfl
   have hxs : (s.extract 1 s.size).size ≤ 281474976710656 := by
    rw [ByteArray.size_extract]; omega
   have HA := hx (fun n (h : regNo s = some n) => regNo_atoi h)
   rw [← htl] at HA
   clear hat hb htl hne
   cases hv : Lib.atoiAll (s.extract 1 s.size).data.toList with
   | ok v =>
    have hc := Tryz.strconv_Atoi_ok (s.extract 1 s.size) (by omega) v hv w
    have hvb : -9223372036854775808 ≤ v ∧ v ≤ 9223372036854775807 := Lib.atoiAll_bounds hv
    have hn := fun W => ident_Name_any v W hvb.1 hvb.2
    have e2 : ∀ w', (w' = w ∨ ∃ t, w' = Lib.bytesWorld w 5 t) → Ext w w' := by
     rintro w' (rfl | ⟨t, rfl⟩)
     ·exact Ext.refl _
     ·exact bytesWorld_ext _ _ _
    have hc2 := hc.mono (R' := fun e w' => e = .returned (.tuple #[.int .i64 v, .nilIface]) ∧ Ext w w') (fun e w' h => ⟨h.1, e2 w' h.2⟩)
    by_cases he : nameOf v = s
    ·have hin : 0 ≤ v ∧ v ≤ 10 := by
      refine Decidable.byContradiction fun hno => ?_
      rw [nameOf_out hno] at he
      rw [← he] at h2; exact h2 (by decide)
     obtain ⟨k, rfl⟩ := Int.eq_ofNat_of_zero_le hin.1
     have hr : regNo s = some k := by rw [← he]; exact regNo_name (by omega)
     have h1 := hx (show regN s = k by rw [regN, hr])
     have h3 := hx (show regB s = true by rw [regB, hr]; rfl)
     rw [he] at hn
     clear hr hv HA hG e2 hc he
     go_enter Tryz.func121, Tryz.ntmps121
     go_wp2_with (first | (go_at_call 125; refine hc2.mono ?_; rintro e w1 ⟨rfl, e1⟩) | (go_at_call 15; refine (hn _).mono ?_; rintro e w' ⟨rfl, rfl⟩))
     go_ret2
     exact ⟨by rw [h1.out, h3.out]; rfl, e1⟩
    ·have hr : regNo s = none := by
      cases hr : regNo s with
      | none => rfl
      | some n =>
       have h := HA.out n hr
       rw [hv] at h
       injection h with h
       exact absurd (by rw [h]; exact (regNo_some hr).2) he
     have h1 := hx (show regN s = 0 by rw [regN, hr])
     have h3 := hx (show regB s = false by rw [regB, hr]; rfl)
     have he2 : ((nameOf v).toList == s.toList) = false := by
      refine beq_eq_false_iff_ne.2 fun e => he ?_
      rw [Go.ByteArray.toList_eq, Go.ByteArray.toList_eq] at e
      exact ByteArray.ext (Array.ext' e)
     have he3 : (nameOf v).toList ≠ s.toList := beq_eq_false_iff_ne.1 he2
     generalize nameOf v = S at *
     clear hr hv HA hG e2 hc he
     go_enter Tryz.func121, Tryz.ntmps121
     go_wp2_with (first | (go_at_call 125; refine hc2.mono ?_; rintro e w1 ⟨rfl, e1⟩) | (go_at_call 15; refine (hn _).mono ?_; rintro e w' ⟨rfl, rfl⟩))
     go_ret2
     exact ⟨by rw [h1.out, h3.out]; rfl, e1⟩
   | range =>
    obtain ⟨ev, hev, hcv⟩ := hG.eran
    have hc := Tryz.strconv_Atoi_range (s.extract 1 s.size) hxs hv ev w hcv hev
    have hr : regNo s = none := by
     cases hr : regNo s with
     | none => rfl
     | some n => have := HA.out n hr; rw [hv] at this; cases this
    have h1 : regN s = 0 := by rw [regN, hr]
    have h3 : regB s = false := by rw [regB, hr]; rfl
    rw [h1, h3]
    clear hr h1 h3 hv HA hG hev
    go_enter Tryz.func121, Tryz.ntmps121
    go_wp2_with (first | (go_at_call 125; refine hc.mono ?_; rintro e w1 ⟨N, rfl, -, -, e1⟩))
    go_ret2
    exact ⟨rfl, e1⟩
   | _ =>
    obtain ⟨ev, hev, hcv⟩ := hG.esyn
    have hc := Tryz.strconv_Atoi_syntax (s.extract 1 s.size) hxs hv ev w hcv hev
    have hr : regNo s = none := by
     cases hr : regNo s with
     | none => rfl
     | some n => have := HA.out n hr; rw [hv] at this; cases this
    have h1 : regN s = 0 := by rw [regN, hr]
    have h3 : regB s = false := by rw [regB, hr]; rfl
    rw [h1, h3]
    clear hr h1 h3 hv HA hG hev
    go_enter Tryz.func121, Tryz.ntmps121
    go_wp2_with (first | (go_at_call 125; refine hc.mono ?_; rintro e w1 ⟨N, rfl, -, -, e1⟩))
    go_ret2
    exact ⟨rfl, e1⟩
  ·have hr := regNo_head hat hb
   have h1 : regN s = 0 := by rw [regN, hr]
   have h3 : regB s = false := by rw [regB, hr]; rfl
   rw [h1, h3]
   have hbn : (((s[0]'hlt).toNat : Int) != 114) = true := by
    simp only [bne_iff_ne, ne_eq]
    intro e
    exact hb (by apply UInt8.toNat.inj; show _ = 114; omega)
   clear hr h1 h3 hat
   go_enter Tryz.func121, Tryz.ntmps121
   go_wp2
   go_ret2
   exact ⟨rfl, Ext.refl _⟩
end Go.Proofs.YtocnmjpldpbioaaGreatDoor


set_option linter.unusedVariables false
set_option linter.unusedSimpArgs false
namespace Go.Proofs.YtocnmjpldpbioaaGreatDoor
open Go.RowKit Go.Lib

def dig0 (s : ByteArray) : Bool := match s.data.toList with | [] => false | b :: _ => Lib.isDigitL (b.toNat : Int)
/-- An identifier. -/
def idB (s : ByteArray) : Bool := decide (s.size ≠ 0 ∧ s.size ≤ 32 ∧ wLen s.data.toList = s.size) && (!regB s && !dig0 s)
theorem wLen_le (l : List UInt8) : wLen l ≤ l.length := (List.takeWhile_sublist _).length_le
theorem dig0_eq {s : ByteArray} (h : 0 < s.size) : dig0 s = Lib.isDigitL ((s[0]'h).toNat : Int) := by
 have := str_at h
 unfold dig0
 cases hl : s.data.toList with
 | nil => rw [hl] at this; cases this
 | cons b l => rw [hl] at this; simp at this; rw [this]

set_option maxRecDepth 20000 in
set_option maxHeartbeats 1000000 in
theorem ident_Valid_any (s : ByteArray) (w : World) (hs : s.size ≤ 281474976710656) (hG : GlobQ [s] w) :
  Calls Tryz.prog 105 #[.string s] w fun e w' => e = .returned (.bool (idB s)) ∧ Ext w w' := by
 by_cases h0 : s.size = 0
 ·have hid : idB s = false := by simp [idB, h0]
  have hem : s.toList.isEmpty = true := by
   rw [Go.ByteArray.toList_eq, List.isEmpty_iff]
   exact List.eq_nil_of_length_eq_zero (by simpa using h0)
  rw [hid]
  go_enter Tryz.func105, Tryz.ntmps105
  go_wp2
  go_ret
  exact ⟨rfl, Ext.refl _⟩
 have hem := toList_ne h0
 have hem2 : s.toList ≠ [] := by intro e; rw [e] at hem; cases hem
 by_cases h32 : 32 < s.size
 ·have hid : idB s = false := by simp [idB]; omega
  rw [hid]
  go_enter Tryz.func105, Tryz.ntmps105
  go_wp2
  go_ret
  exact ⟨rfl, Ext.refl _⟩
 have hW := ident_Word_any s w hs hG.1
 by_cases hw : wLen s.data.toList = s.size
 ·have hlt : 0 < s.size := by omega
  have hR := fun W (h : Ext w W) => ident_Register_any s W hs (hG.ext h)
  have HR := hx hR
  rw [hw] at hW
  have hid := hx (show idB s = (!regB s && !Lib.isDigitL ((s[0]'hlt).toNat : Int)) by
   unfold idB; rw [dig0_eq hlt]; simp [h0, hw]; omega)
  have hD := fun W => Tryz.unicode_IsDigit (((s[0]'hlt).toNat : Nat) : Int) W (by have := (s[0]'hlt).toNat_lt; omega)
  clear hR hG hw
  cases hr : regB s with
  | true =>
   rw [hr] at hid HR
   go_enter Tryz.func105, Tryz.ntmps105
   go_wp2_with (first | (go_at_call 120; refine hW.mono ?_; rintro e w1 ⟨rfl, e1⟩; have hR1 := HR.out w1 e1) | (go_at_call 121; refine hR1.mono ?_; rintro e w2 ⟨rfl, e2⟩; replace e2 := e1.trans e2) | (go_at_call 122; refine (hD _).mono ?_; rintro e w' ⟨rfl, rfl⟩))
   go_ret
   exact ⟨ret_bool (by rw [hid.out]; rfl), e2⟩
  | false =>
   rw [hr] at hid HR
   have hdl := (s[0]'hlt).toNat_lt
   go_enter Tryz.func105, Tryz.ntmps105
   go_wp2_with (first | (go_at_call 120; refine hW.mono ?_; rintro e w1 ⟨rfl, e1⟩; have hR1 := HR.out w1 e1) | (go_at_call 121; refine hR1.mono ?_; rintro e w2 ⟨rfl, e2⟩; replace e2 := e1.trans e2) | (go_at_call 122; refine (hD _).mono ?_; rintro e w' ⟨rfl, rfl⟩))
   go_ret
   exact ⟨ret_bool (by rw [hid.out]; rfl), e2⟩
 ·have hid : idB s = false := by simp [idB, hw]
  have hle := wLen_le s.data.toList
  have hwl : wLen s.data.toList ≤ s.size := by simpa using hle
  clear hle
  rw [hid]
  clear hid hG
  have hmn : ((wLen s.data.toList : Int) != (s.size : Int)) = true := by simp only [bne_iff_ne, ne_eq]; omega
  generalize wLen s.data.toList = m at *
  go_enter Tryz.func105, Tryz.ntmps105
  go_wp2_with (first | (go_at_call 120; refine hW.mono ?_; rintro e w1 ⟨rfl, e1⟩))
  go_ret
  exact ⟨rfl, e1⟩

end Go.Proofs.YtocnmjpldpbioaaGreatDoor


set_option linter.unusedVariables false
set_option linter.unusedSimpArgs false
namespace Go.Proofs.YtocnmjpldpbioaaGreatDoor
open Go.RowKit Go.Lib

def repA : List ByteArray → List ByteArray → Int
 | _, [] => -1
 | seen, x :: l => if seen.any (fun y => decide (y = x)) then seen.length else repA (seen ++ [x]) l
/-- The index of the first text that stands before. -/
def repN (l : List ByteArray) : Int := repA [] l
end Go.Proofs.YtocnmjpldpbioaaGreatDoor


set_option linter.unusedVariables false
set_option linter.unusedSimpArgs false
namespace Go.Proofs.YtocnmjpldpbioaaGreatDoor
open Go.RowKit Go.Lib

theorem zeroBool (w : World) : (zeroValue 4).run Tryz.prog w = .ok (.bool false) w := by
 have h : (Tryz.prog.info? 4).map (fun i => i.zero) = some (some (.bool false)) := by kernel_rfl
 obtain ⟨i, hi, hz⟩ := Option.map_eq_some_iff.1 h
 simp [zeroValue, typeInfo, hi, hz]
def keyS (s : ByteArray) : Lit := .string s.data.toList
theorem keyS_inj {a b : ByteArray} (h : keyS a = keyS b) : a = b := by
 unfold keyS at h
 injection h with h
 exact ByteArray.ext (Array.ext' h)
/-- A map from texts to booleans, true just at some texts. -/
def SetS (w : World) (b n : Nat) (p : ByteArray → Bool) : Prop :=
 ∃ D : DataW Unit, w.ownsMap Tryz.prog 9 (plainElem Tryz.prog 4) b n D ∧ ∀ s, D.atKey (keyS s) (.lit (.bool false)) = .lit (.bool (p s))
theorem SetS.made (w : World) : SetS (w.alloc (.map #[] 0)) w.heap.size 0 (fun _ => false) := ⟨.map [], World.ownsMap_made _ _ _ _, fun s => rfl⟩
theorem SetS.ext {w w' : World} {b n : Nat} {p : ByteArray → Bool} (h : SetS w b n p) (he : Ext w w') : SetS w' b n p := by
 obtain ⟨D, h1, h2⟩ := h
 exact ⟨D, h1.kept (he.toGrown none) (by simp), h2⟩
set_option maxRecDepth 20000 in
theorem plainBool_inv {v : Value} {z : DataW Unit × List MemPlace} (h : plainElem Tryz.prog 4 v = some z) : ∃ x, v = .bool x ∧ z = (.lit (.bool x), []) := by
 unfold plainElem at h
 rw [Tryz.underlying4] at h
 cases v <;> simp at h
 exact ⟨_, rfl, h.symm⟩
set_option maxRecDepth 20000 in
theorem SetS.look {w : World} {b n : Nat} {p : ByteArray → Bool} (h : SetS w b n p) (s : ByteArray) (hs : s.size ≤ 140737488355328) :
  (Instr.lookup 149 (.map (some b)) (.string s) false).run Tryz.prog w = .ok (.bool (p s)) w := by
 obtain ⟨D, h1, h2⟩ := h
 obtain ⟨v, ps, hr, hv⟩ := h1.lookup (Maps.string_keyed Tryz.underlying9) Tryz.underlying149 (zeroBool w) (plainElem_bool Tryz.underlying4 false) (WideMaps.keyOf_string_mk Tryz.underlying9 (s := s) (by simp only [maxLen]; omega))
 obtain ⟨x, rfl, hx⟩ := plainBool_inv hv
 have h3 : (DataW.lit (.bool (p s)) : DataW Unit) = .lit (.bool x) := by rw [← h2 s]; exact congrArg Prod.fst hx
 injection h3 with h3
 injection h3 with h3
 rw [hr, h3]
set_option maxRecDepth 20000 in
theorem SetS.upd {w : World} {b n : Nat} {p : ByteArray → Bool} (h : SetS w b n p) (s : ByteArray) (hs : s.size ≤ 140737488355328) (hn : n < 1000000000) (x : Bool) :
  ∃ w', (Instr.mapUpdate 149 (.map (some b)) (.string s) (.bool x)).run Tryz.prog w = .ok () w' ∧ SetS w' b (n + 1) (fun y => if y = s then x else p y) ∧ w.grownBy w' (some b) := by
 obtain ⟨D, h1, h2⟩ := h
 obtain ⟨w', hr, h3, h4⟩ := h1.update (Maps.string_keyed Tryz.underlying9) Tryz.underlying149 (by simp only [maxLen]; omega) (WideMaps.keyOf_string_mk Tryz.underlying9 (s := s) (by simp only [maxLen]; omega)) (plainElem_bool Tryz.underlying4 x)
 refine ⟨w', hr, ⟨_, h3, fun y => ?_⟩, h4⟩
 by_cases hy : y = s
 ·subst hy
  show _ = DataW.lit (Lit.bool (if y = y then x else p y))
  rw [if_pos rfl]
  exact Maps.atKey_put_same h1.isMap (by trivial) _ _
 ·show _ = DataW.lit (Lit.bool (if y = s then x else p y))
  rw [if_neg hy, ← h2 y]
  exact Maps.atKey_put_other (fun e => hy (keyS_inj e)) _ _
/-- m[s] = x, as an operation. -/
theorem wp_mapUpd {ops : Array Oper} {rest : List Oper} {o : Oper} {a : Act} {Q : Exit → Act → World → Prop} {w : World} {b n : Nat} {p : ByteArray → Bool} (h : SetS w b n p) (s : ByteArray) (hs : s.size ≤ 140737488355328) (hn : n < 1000000000) (x : Bool) (hgd : o.guard = none) {m k v : Operand}
  (ho : o.op = .mapUpdate 149 m k v) (hm : a.eval m = .map (some b)) (hk : a.eval k = .string s) (hv : a.eval v = .bool x)
  (hK : ∀ w', SetS w' b (n + 1) (fun y => if y = s then x else p y) → w.grownBy w' (some b) → wpList Tryz.prog ops Q rest (a.put o.dst undef) w') : wpList Tryz.prog ops Q (o :: rest) a w := by
 refine wpList_plain hgd fun K hK' => ?_
 obtain ⟨w', hr, h1, h2⟩ := h.upd s hs hn x
 unfold Oper.wp
 simp [execOp, ho, hm, hk, hv, hr, Result.andThen]
 exact hK' _ _ (hK w' h1 h2)

set_option maxRecDepth 20000 in
set_option maxHeartbeats 1000000 in
theorem ident_Repeated_any (v : Value) (l : List ByteArray) (w : World) (hl : l.length ≤ 1000000) (hv : IsStrs w v l) :
  Calls Tryz.prog 109 #[v] w fun e w' => e = .returned (.int .i64 (repN l)) ∧ Ext w w' := by
 obtain ⟨A, c, rfl, -, -, hv'⟩ := hv.form
 have hmm := @run_makeMap Tryz.prog
 go_enter Tryz.func109, Tryz.ntmps109
 go_wp2
 clear hmm
 go_loopw [9] (fun i wr => ∃ pre suf : List ByteArray, l = pre ++ suf ∧ i = .int .i64 (pre.length : Nat) ∧ repN l = repA pre suf ∧ SetS wr w.heap.size pre.length (fun x => pre.any (fun y => decide (y = x))) ∧ Ext w wr) (fun i _ => l.length - (RowKit.intOf i).toNat)
 case atStart => exact ⟨[], l, rfl, rfl, rfl, SetS.made w, Ext.new _ _⟩
 case round =>
  obtain ⟨pre, suf, hl', rfl, hr, hm, he⟩ := hrel
  have HR := hx hr
  clear hr
  cases suf with
  | cons x suf =>
   have hlt : pre.length < l.length := by rw [hl']; simp
   have hvx := hv'
   rw [hl'] at hvx
   obtain ⟨b, o, rfl, d1⟩ := hvx.at
   have hxs := d1.2
   replace d1 := he.cell d1.1
   rw [Nat.mul_one] at d1
   have HL := hx hl'; clear hl' hvx
   have hlk := hm.look x hxs
   cases hany : pre.any (fun y => decide (y = x)) with
   | true =>
    rw [hany] at hlk
    have hrep := hx (show repA pre (x :: suf) = pre.length by rw [repA, if_pos hany])
    clear hany
    go_wp2
    go_ret
    exact ⟨ret_int (by rw [HR.out, hrep.out]), he⟩
   | false =>
    rw [hany] at hlk
    have hrep := hx (show repA pre (x :: suf) = repA (pre ++ [x]) suf by rw [repA, if_neg (by rw [hany]; simp)])
    clear hany
    go_wp2_with (refine wp_mapUpd hm x hxs (by omega) true rfl rfl (by rfl) (by rfl) (by rfl) ?_; intro w1 m1 g1)
    have e1 := he.grown g1 (fun k hk => by cases hk; exact Nat.le_refl _)
    clear hm he g1 hlk
    go_roundw
    case rel => exact ⟨pre ++ [x], suf, by simp [HL.out], by simp, by rw [HR.out, hrep.out], by
     have e : (fun y => if y = x then true else pre.any (fun z => decide (z = y))) = (fun y => (pre ++ [x]).any (fun z => decide (z = y))) := by
      funext y
      by_cases h : y = x
      ·subst h; simp
      ·have h' : ¬ x = y := fun e => h e.symm
       simp [h, h']
     rw [e] at m1
     simpa using m1, e1⟩
    case measure => simp [RowKit.intOf]; omega
  | nil =>
   obtain rfl : l = pre := by simpa using hl'
   clear hl'
   have hlt : ¬ l.length < l.length := by omega
   go_wp2
   go_ret
   exact ⟨ret_int (by rw [HR.out]; rfl), he⟩
end Go.Proofs.YtocnmjpldpbioaaGreatDoor


set_option linter.unusedVariables false
set_option linter.unusedSimpArgs false
namespace Go.Proofs.YtocnmjpldpbioaaGreatDoor
open Go.RowKit Go.Lib

def sizesB (d : Def) : Bool := decide (1 ≤ d.key ∧ d.key ≤ 64 ∧ 1 ≤ d.val ∧ d.val ≤ 256 ∧ 1 ≤ d.ents ∧ d.ents ≤ 1024)
def Def.v (d : Def) : Value := .agg #[.string d.name, .int .i64 d.key, .int .i64 d.val, .int .i64 d.ents]

end Go.Proofs.YtocnmjpldpbioaaGreatDoor


set_option linter.unusedVariables false
set_option linter.unusedSimpArgs false
namespace Go.Proofs.YtocnmjpldpbioaaGreatDoor
open Go.RowKit Go.Lib

def whenN (b : Bool) (e : Int) : Int := if b then e else 0
set_option maxHeartbeats 400000 in
theorem when_any (b : Bool) (x : Int) (w : World) : Calls Tryz.prog 76 #[.bool b, .int .i64 x] w fun e w' => e = .returned (.int .i64 (whenN b x)) ∧ w' = w := by
 cases b with
 | true =>
  go_enter Tryz.func76, Tryz.ntmps76
  go_wp2
  go_ret
  exact ⟨rfl, rfl⟩
 | false =>
  go_enter Tryz.func76, Tryz.ntmps76
  go_wp2
  go_ret
  exact ⟨rfl, rfl⟩
def inRg (n m : Int) : Bool := decide (1 ≤ n ∧ n ≤ m)
set_option maxHeartbeats 400000 in
theorem inRange_any (n m : Int) (w : World) : Calls Tryz.prog 106 #[.int .i64 n, .int .i64 m] w fun e w' => e = .returned (.bool (inRg n m)) ∧ w' = w := by
 by_cases h : 1 ≤ n
 ·by_cases h2 : n ≤ m
  ·have hs : inRg n m = true := by unfold inRg; simp; omega
   rw [hs]; clear hs
   go_enter Tryz.func106, Tryz.ntmps106
   go_wp2
   go_ret
   exact ⟨ret_bool (by simp), rfl⟩
  ·have hs : inRg n m = false := by unfold inRg; simp; omega
   rw [hs]; clear hs
   go_enter Tryz.func106, Tryz.ntmps106
   go_wp2
   go_ret
   exact ⟨ret_bool (by simp), rfl⟩
 ·have hs : inRg n m = false := by unfold inRg; simp; omega
  rw [hs]; clear hs
  go_enter Tryz.func106, Tryz.ntmps106
  go_wp2
  go_ret
  exact ⟨rfl, rfl⟩
/-- What a map's declaration has wrong. -/
def mapE (d : Def) : Int := if idB d.name then whenN (!sizesB d) 9 else 7
theorem sizesB_eq (d : Def) : (!sizesB d) = (!inRg d.key 64 || !inRg d.val 256 || !inRg d.ents 1024) := by
 unfold sizesB inRg
 rw [← Bool.not_and, ← Bool.not_and]
 simp only [← Bool.decide_and]
 congr 2
 simp only [and_assoc]

set_option maxRecDepth 20000 in
set_option maxHeartbeats 2000000 in
theorem checkMap_any (A1 A2 : Option Addr) (n1 c1 n2 c2 : Nat) (i : Int) (d : Def) (hd : d.Ok) (w : World) (hG : GlobQ [d.name] w) :
  Calls Tryz.prog 71 #[.agg #[.slice A1 n1 c1, .slice A2 n2 c2], .int .i64 i, .agg #[.string d.name, .int .i64 d.key, .int .i64 d.val, .int .i64 d.ents]] w fun e w' => e = .returned (.int .i64 (mapE d)) ∧ Ext w w' := by
 have hV := fun W (h : Ext w W) => ident_Valid_any d.name W (by have := hd.name; omega) (hG.ext h)
 have HV := hx hV
 clear hV hG
 have e0 := (Ext.new w (.cells #[.slice A1 n1 c1, .slice A2 n2 c2] 40)).alloc (.cells #[.string d.name, .int .i64 d.key, .int .i64 d.val, .int .i64 d.ents] 27)
 have hV1 := HV.out _ e0
 cases hid : idB d.name with
 | false =>
  rw [hid] at hV1
  have hm : mapE d = 7 := by unfold mapE; rw [hid]; rfl
  rw [hm]; clear hm
  go_enter Tryz.func71, Tryz.ntmps71
  go_wp2_with (first | (go_at_call 105; refine hV1.mono ?_; rintro e w1 ⟨rfl, e1⟩; replace e1 := e0.trans e1))
  go_ret
  exact ⟨rfl, e1⟩
 | true =>
  rw [hid] at hV1
  have hm := hx (show mapE d = whenN (!inRg d.key 64 || !inRg d.val 256 || !inRg d.ents 1024) 9 by unfold mapE; rw [hid, sizesB_eq]; rfl)
  have c1' : ∀ w1, Ext ((w.alloc (.cells #[.slice A1 n1 c1, .slice A2 n2 c2] 40)).alloc (.cells #[.string d.name, .int .i64 d.key, .int .i64 d.val, .int .i64 d.ents] 27)) w1 →
    w1.cell? ⟨w.heap.size + 1, 1, none⟩ = some (.int .i64 d.key) ∧ w1.cell? ⟨w.heap.size + 1, 2, none⟩ = some (.int .i64 d.val) ∧ w1.cell? ⟨w.heap.size + 1, 3, none⟩ = some (.int .i64 d.ents) := fun w1 h => by
   refine ⟨h.cell ?_, h.cell ?_, h.cell ?_⟩ <;> simp
  have C1 := hx c1'
  clear c1'
  have hr1 := fun W => inRange_any d.key 64 W
  have hr2 := fun W => inRange_any d.val 256 W
  have hr3 := fun W => inRange_any d.ents 1024 W
  obtain ⟨B1, hB1⟩ : ∃ B, B = inRg d.key 64 := ⟨_, rfl⟩
  obtain ⟨B2, hB2⟩ : ∃ B, B = inRg d.val 256 := ⟨_, rfl⟩
  obtain ⟨B3, hB3⟩ : ∃ B, B = inRg d.ents 1024 := ⟨_, rfl⟩
  rw [← hB1] at hr1 hm
  rw [← hB2] at hr2 hm
  rw [← hB3] at hr3 hm
  clear hB1 hB2 hB3
  cases B1 with
  | false =>
   go_enter Tryz.func71, Tryz.ntmps71
   go_wp2_with (first
    | (go_at_call 105; refine hV1.mono ?_; rintro e w1 ⟨rfl, e1⟩; obtain ⟨k1, k2, k3⟩ := C1.out _ e1; replace e1 := e0.trans e1)
    | (go_at_call 106; refine (hr1 _).mono ?_; clear hr1; rintro e w' ⟨rfl, rfl⟩)
    | (go_at_call 106; refine (hr2 _).mono ?_; clear hr2; rintro e w' ⟨rfl, rfl⟩)
    | (go_at_call 106; refine (hr3 _).mono ?_; clear hr3; rintro e w' ⟨rfl, rfl⟩)
    | (go_at_call 76; refine (when_any _ _ _).mono ?_; rintro e w' ⟨rfl, rfl⟩))
   go_ret
   exact ⟨ret_int (by rw [hm.out]; rfl), e1⟩
  | true =>
   cases B2 with
   | false =>
    go_enter Tryz.func71, Tryz.ntmps71
    go_wp2_with (first
    | (go_at_call 105; refine hV1.mono ?_; rintro e w1 ⟨rfl, e1⟩; obtain ⟨k1, k2, k3⟩ := C1.out _ e1; replace e1 := e0.trans e1)
    | (go_at_call 106; refine (hr1 _).mono ?_; clear hr1; rintro e w' ⟨rfl, rfl⟩)
    | (go_at_call 106; refine (hr2 _).mono ?_; clear hr2; rintro e w' ⟨rfl, rfl⟩)
    | (go_at_call 106; refine (hr3 _).mono ?_; clear hr3; rintro e w' ⟨rfl, rfl⟩)
    | (go_at_call 76; refine (when_any _ _ _).mono ?_; rintro e w' ⟨rfl, rfl⟩))
    go_ret
    exact ⟨ret_int (by rw [hm.out]; rfl), e1⟩
   | true =>
    go_enter Tryz.func71, Tryz.ntmps71
    go_wp2_with (first
    | (go_at_call 105; refine hV1.mono ?_; rintro e w1 ⟨rfl, e1⟩; obtain ⟨k1, k2, k3⟩ := C1.out _ e1; replace e1 := e0.trans e1)
    | (go_at_call 106; refine (hr1 _).mono ?_; clear hr1; rintro e w' ⟨rfl, rfl⟩)
    | (go_at_call 106; refine (hr2 _).mono ?_; clear hr2; rintro e w' ⟨rfl, rfl⟩)
    | (go_at_call 106; refine (hr3 _).mono ?_; clear hr3; rintro e w' ⟨rfl, rfl⟩)
    | (go_at_call 76; refine (when_any _ _ _).mono ?_; rintro e w' ⟨rfl, rfl⟩))
    go_ret
    exact ⟨ret_int (by rw [hm.out]; rfl), e1⟩
end Go.Proofs.YtocnmjpldpbioaaGreatDoor


set_option linter.unusedVariables false
set_option linter.unusedSimpArgs false
namespace Go.Proofs.YtocnmjpldpbioaaGreatDoor
open Go.RowKit Go.Lib

set_option maxHeartbeats 400000 in
theorem maps_any (A1 A2 : Option Addr) (n1 c1 n2 c2 : Nat) (w : World) : Calls Tryz.prog 70 #[.agg #[.slice A1 n1 c1, .slice A2 n2 c2]] w fun e w' => e = .returned (.slice A1 n1 c1) ∧ Ext w w' := by
 go_enter Tryz.func70, Tryz.ntmps70
 go_wp2
 go_ret
 exact ⟨rfl, Ext.new _ _⟩
set_option maxHeartbeats 400000 in
theorem stmts_any (A1 A2 : Option Addr) (n1 c1 n2 c2 : Nat) (w : World) : Calls Tryz.prog 73 #[.agg #[.slice A1 n1 c1, .slice A2 n2 c2]] w fun e w' => e = .returned (.slice A2 n2 c2) ∧ Ext w w' := by
 go_enter Tryz.func73, Tryz.ntmps73
 go_wp2
 go_ret
 exact ⟨rfl, Ext.new _ _⟩

set_option maxRecDepth 20000 in
set_option maxHeartbeats 1000000 in
theorem repeated_any (v1 : Value) (A2 : Option Addr) (n2 c2 : Nat) (l : List Def) (w : World) (hl : l.length ≤ 100000) (hv : IsDefs w v1 l) :
  Calls Tryz.prog 78 #[.agg #[v1, .slice A2 n2 c2]] w fun e w' => e = .returned (.int .i64 (repN (l.map (·.name)))) ∧ Ext w w' := by
 obtain ⟨A, c, rfl, -, -, hv'⟩ := hv.form
 go_enter Tryz.func78, Tryz.ntmps78
 go_wp2
 go_loopw [3, 9] (fun u i wr => ∃ (pre suf : List Def) (ns : List ByteArray), l = pre ++ suf ∧ i = .int .i64 (pre.length : Nat) ∧ ns = pre.map (·.name) ∧ ns.length = pre.length ∧ OwnS wr w.heap.size u ns ∧ Ext w wr) (fun _ i _ => l.length - (RowKit.intOf i).toNat)
 case atStart => exact ⟨[], l, [], rfl, rfl, rfl, rfl, Own.nil _ _ _ _ _, Ext.new _ _⟩
 case round =>
  obtain ⟨pre, suf, ns, hl', rfl, hns, hnl, ho, he⟩ := hrel
  have HNS := hx hns
  have HNL := hx hnl
  clear hns hnl
  have hpl : pre.length ≤ 100000 := by have := congrArg List.length hl'; simp at this; omega
  have hsz := he.size
  obtain ⟨A3, c3, rfl⟩ := ho.slice
  cases suf with
  | cons x suf =>
   have hlt : pre.length < l.length := by rw [hl']; simp
   have hvx := hv'
   rw [hl'] at hvx
   obtain ⟨b, o, rfl, ⟨d1, d2, d3, d4⟩, -⟩ := hvx.at
   replace d1 := he.cell d1
   replace d2 := he.cell d2
   replace d3 := he.cell d3
   replace d4 := he.cell d4
   have HL := hx hl'; clear hl' hvx
   have o1 := ho.alloc (.cells #[.string x.name, .int .i64 x.key, .int .i64 x.val, .int .i64 x.ents] 27)
   go_wp2_with (at_builtin; refine wp_app1 tyS encS_ok o1 x.name rfl rfl rfl rfl (by rw [World.size_alloc]; rfl) (by simp; omega) (by decide) (by have := HNL.out; omega) ?_; intro g cap w1 o2 g2 a2 b2; have e2 := (he.alloc _).grown g2 o1.base_le)
   clear ho o1 he
   go_roundw
   case rel => exact ⟨pre ++ [x], suf, ns ++ [x.name], by simp [HL.out], by simp, by rw [HNS.out]; simp, by simp [HNL.out], o2, e2⟩
   case measure => simp [RowKit.intOf]; omega
  | nil =>
   obtain rfl : l = pre := by simpa using hl'
   clear hl'
   have hlt : ¬ l.length < l.length := by omega
   have hnb := hv'.all (p := fun d => d.name.size ≤ 140737488355328) (fun b o x h => h.2.name)
   have hrd : IsStrs wr (.slice A3 ns.length c3) ns := ho.read (fun s hs => by
    rw [HNS.out] at hs
    obtain ⟨d, hd, rfl⟩ := List.mem_map.1 hs
    exact hnb d hd) (by have := HNL.out; omega)
   have hc := ident_Repeated_any _ ns wr (by have := HNL.out; omega) hrd
   rw [show repN ns = repN (l.map (·.name)) by rw [HNS.out]] at hc
   clear hnb hrd
   go_wp2_with (first | (go_at_call 109; refine hc.mono ?_; rintro e w1 ⟨rfl, e1⟩))
   go_ret
   exact ⟨rfl, he.trans e1⟩
end Go.Proofs.YtocnmjpldpbioaaGreatDoor


set_option linter.unusedVariables false
set_option linter.unusedSimpArgs false
namespace Go.Proofs.YtocnmjpldpbioaaGreatDoor
open Go.RowKit Go.Lib

set_option maxRecDepth 20000 in
set_option maxHeartbeats 1000000 in
theorem rules1_any (A1 A2 : Option Addr) (n1 c1 n2 c2 : Nat) (i : Int) (d : Def) (w : World) :
  Calls Tryz.prog 75 #[.agg #[.slice A1 n1 c1, .slice A2 n2 c2], .int .i64 i, .agg #[.string d.name, .int .i64 d.key, .int .i64 d.val, .int .i64 d.ents]] w fun e w' => e = .returned (.int .i64 (whenN (decide (255 ≤ i)) 16)) ∧ Ext w w' := by
 obtain ⟨B, hB⟩ : ∃ B, B = decide (255 ≤ i) := ⟨_, rfl⟩
 have hw := fun W => when_any B 16 W
 rw [← hB]
 have HB := hx hB
 rw [hB] at hw
 clear hB
 go_enter Tryz.func75, Tryz.ntmps75
 go_wp2_with (first | (go_at_call 76; refine (hw _).mono ?_; rintro e w' ⟨rfl, rfl⟩))
 go_ret
 exact ⟨by rw [HB.out]; rfl, ((Ext.new _ _).alloc _)⟩
set_option maxRecDepth 20000 in
set_option maxHeartbeats 1000000 in
theorem rules2_any (v1 : Value) (A2 : Option Addr) (n2 c2 : Nat) (l : List Def) (i : Int) (d : Def) (w : World) (hl : l.length ≤ 100000) (hv : IsDefs w v1 l) :
  Calls Tryz.prog 77 #[.agg #[v1, .slice A2 n2 c2], .int .i64 i, .agg #[.string d.name, .int .i64 d.key, .int .i64 d.val, .int .i64 d.ents]] w fun e w' => e = .returned (.int .i64 (whenN (repN (l.map (·.name)) == i) 10)) ∧ Ext w w' := by
 have hr := fun W (h : Ext w W) => repeated_any v1 A2 n2 c2 l W hl (IsDefs.ext hv h)
 obtain ⟨A, c, rfl, -, -, hv'⟩ := hv.form
 have e0 := (Ext.new w (.cells #[.slice A l.length c, .slice A2 n2 c2] 40)).alloc (.cells #[.string d.name, .int .i64 d.key, .int .i64 d.val, .int .i64 d.ents] 27)
 have hr1 := hr _ e0
 clear hr
 generalize repN (l.map (·.name)) = R at *
 have hw := fun W => when_any (R == i) 10 W
 go_enter Tryz.func77, Tryz.ntmps77
 go_wp2_with (first | (go_at_call 78; refine hr1.mono ?_; rintro e w1 ⟨rfl, e1⟩; replace e1 := e0.trans e1) | (go_at_call 76; refine (hw _).mono ?_; rintro e w' ⟨rfl, rfl⟩))
 go_ret
 exact ⟨rfl, e1⟩
end Go.Proofs.YtocnmjpldpbioaaGreatDoor


set_option linter.unusedVariables false
set_option linter.unusedSimpArgs false
namespace Go.Proofs.YtocnmjpldpbioaaGreatDoor
open Go.RowKit Go.Lib

set_option maxRecDepth 20000 in
set_option maxHeartbeats 1000000 in
theorem eachDef_any (f1 f2 : Nat) (w : World) :
  Calls Tryz.prog 69 #[.func (.func f1) #[] #[], .func (.func f2) #[] #[]] w fun e w' => e = .returned (.agg #[.func (.func 104) #[] #[.pointer (some ⟨w.heap.size, 0, none⟩), .pointer (some ⟨w.heap.size + 1, 0, none⟩)]]) ∧ Ext w w' ∧
   w'.cell? ⟨w.heap.size, 0, none⟩ = some (.func (.func f1) #[] #[]) ∧ w'.cell? ⟨w.heap.size + 1, 0, none⟩ = some (.func (.func f2) #[] #[]) := by
 go_enter Tryz.func69, Tryz.ntmps69
 go_wp2
 have hb := heap_alloc_new ((w.alloc (.cells #[.func (.func f1) #[] #[]] 123)).alloc (.cells #[.func (.func f2) #[] #[]] 124)) (.cells #[.func (.func 104) #[] #[.pointer (some ⟨w.heap.size, 0, none⟩), .pointer (some ⟨w.heap.size + 1, 0, none⟩)]] 98)
 rw [World.size_alloc, World.size_alloc] at hb
 refine bodyPost_ret (results_cell_row rfl _ _ (w.heap.size + 1 + 1) 98 _ _ _ rfl hb Tryz.underlying98 rfl (by kernel_rfl)) rfl ?_
 have k1 : (w.alloc (.cells #[.func (.func f1) #[] #[]] 123)).cell? ⟨w.heap.size, 0, none⟩ = some (.func (.func f1) #[] #[]) := by simp
 have k2 : ((w.alloc (.cells #[.func (.func f1) #[] #[]] 123)).alloc (.cells #[.func (.func f2) #[] #[]] 124)).cell? ⟨w.heap.size + 1, 0, none⟩ = some (.func (.func f2) #[] #[]) := by simp
 exact ⟨rfl, ((Ext.new _ _).alloc _).alloc _, ((Ext.new _ _).alloc _).cell k1, (Ext.new _ _).cell k2⟩
set_option maxRecDepth 20000 in
set_option maxHeartbeats 1000000 in
theorem eachStmt_any (f1 f2 : Nat) (w : World) :
  Calls Tryz.prog 72 #[.func (.func f1) #[] #[], .func (.func f2) #[] #[]] w fun e w' => e = .returned (.agg #[.func (.func 107) #[] #[.pointer (some ⟨w.heap.size, 0, none⟩), .pointer (some ⟨w.heap.size + 1, 0, none⟩)]]) ∧ Ext w w' ∧
   w'.cell? ⟨w.heap.size, 0, none⟩ = some (.func (.func f1) #[] #[]) ∧ w'.cell? ⟨w.heap.size + 1, 0, none⟩ = some (.func (.func f2) #[] #[]) := by
 go_enter Tryz.func72, Tryz.ntmps72
 go_wp2
 have hb := heap_alloc_new ((w.alloc (.cells #[.func (.func f1) #[] #[]] 126)).alloc (.cells #[.func (.func f2) #[] #[]] 127)) (.cells #[.func (.func 107) #[] #[.pointer (some ⟨w.heap.size, 0, none⟩), .pointer (some ⟨w.heap.size + 1, 0, none⟩)]] 98)
 rw [World.size_alloc, World.size_alloc] at hb
 refine bodyPost_ret (results_cell_row rfl _ _ (w.heap.size + 1 + 1) 98 _ _ _ rfl hb Tryz.underlying98 rfl (by kernel_rfl)) rfl ?_
 have k1 : (w.alloc (.cells #[.func (.func f1) #[] #[]] 126)).cell? ⟨w.heap.size, 0, none⟩ = some (.func (.func f1) #[] #[]) := by simp
 have k2 : ((w.alloc (.cells #[.func (.func f1) #[] #[]] 126)).alloc (.cells #[.func (.func f2) #[] #[]] 127)).cell? ⟨w.heap.size + 1, 0, none⟩ = some (.func (.func f2) #[] #[]) := by simp
 exact ⟨rfl, ((Ext.new _ _).alloc _).alloc _, ((Ext.new _ _).alloc _).cell k1, (Ext.new _ _).cell k2⟩
end Go.Proofs.YtocnmjpldpbioaaGreatDoor


set_option linter.unusedVariables false
set_option linter.unusedSimpArgs false
namespace Go.Proofs.YtocnmjpldpbioaaGreatDoor
open Go.RowKit Go.Lib

/-- The first element with an error, and the error. -/
def findA (chk : Int → Def → Int) : Int → List Def → Int × Int
 | _, [] => (0, 0)
 | i, d :: l => if chk i d = 0 then findA chk (i + 1) l else (i, chk i d)
def findV (r : Int × Int) : Value := .agg #[.int .i64 r.1, .int .i64 r.2]

theorem two_set {W : World} {g : Nat} {a b : Value} {t : TypeId} (x y : Value) (h : W.heap[g]? = some (.cells #[a, b] t (0, 0))) : ((W.setCell ⟨g, 0, none⟩ x).setCell ⟨g, 1, none⟩ y).heap[g]? = some (.cells #[x, y] t (0, 0)) := by
 simp [World.setCell, Array.getElem?_modify, h]
set_option maxRecDepth 20000 in
set_option maxHeartbeats 1000000 in
theorem eachDef1_any (B1 B2 : Nat) (v1 : Value) (A2 : Option Addr) (n2 c2 : Nat) (l : List Def) (chk : Int → Def → Int) (w : World) (hl : l.length ≤ 100000) (hv : IsDefs w v1 l)
  (h1 : w.cell? ⟨B1, 0, none⟩ = some (.func (.func 70) #[] #[])) (h2 : w.cell? ⟨B2, 0, none⟩ = some (.func (.func 71) #[] #[]))
  (hn1 : w.cell? ⟨1, 0, none⟩ = some (.int .i64 0)) (hn2 : w.cell? ⟨1, 1, none⟩ = some (.int .i64 0))
  (hc : ∀ (i : Int) (d : Def) (W : World), Ext w W → d ∈ l → Calls Tryz.prog 71 #[.agg #[v1, .slice A2 n2 c2], .int .i64 i, .agg #[.string d.name, .int .i64 d.key, .int .i64 d.val, .int .i64 d.ents]] W fun e w' => e = .returned (.int .i64 (chk i d)) ∧ Ext W w') :
  Calls Tryz.prog 104 #[.agg #[v1, .slice A2 n2 c2], .pointer (some ⟨B1, 0, none⟩), .pointer (some ⟨B2, 0, none⟩)] w fun e w' => e = .returned (findV (findA chk 0 l)) ∧ Ext w w' := by
 obtain ⟨A, c, rfl, -, -, hv'⟩ := hv.form
 have e0 := (Ext.new w (.cells #[.slice A l.length c, .slice A2 n2 c2] 40)).alloc (.cells #[.int .i64 0, .int .i64 0] 65)
 have k1 := e0.cell h1
 have hm := maps_any A A2 l.length c n2 c2 ((w.alloc (.cells #[.slice A l.length c, .slice A2 n2 c2] 40)).alloc (.cells #[.int .i64 0, .int .i64 0] 65))
 have HC := hx hc
 clear hc
 go_enter Tryz.func104, Tryz.ntmps104
 have p1 : ((w.alloc (.cells #[.slice A l.length c, .slice A2 n2 c2] 40)).alloc (.cells #[.int .i64 0, .int .i64 0] 65)).cell? ⟨w.heap.size, 0, none⟩ = some (.slice A l.length c) := by simp
 have p2 : ((w.alloc (.cells #[.slice A l.length c, .slice A2 n2 c2] 40)).alloc (.cells #[.int .i64 0, .int .i64 0] 65)).cell? ⟨w.heap.size, 1, none⟩ = some (.slice A2 n2 c2) := by simp
 have p3 := heap_alloc_new (w.alloc (.cells #[.slice A l.length c, .slice A2 n2 c2] 40)) (.cells #[.int .i64 0, .int .i64 0] 65)
 rw [World.size_alloc] at p3
 generalize hW0 : (w.alloc (.cells #[.slice A l.length c, .slice A2 n2 c2] 40)).alloc (.cells #[.int .i64 0, .int .i64 0] 65) = W0 at e0 p1 p2 p3
 have HW0 := hx hW0
 clear hW0
 go_wp2_with (first | (go_at_call 70; refine hm.mono ?_; rintro e w1 ⟨rfl, e1⟩))
 rw [HW0.out] at e1
 go_loopw [12] (fun i wr => ∃ pre suf : List Def, l = pre ++ suf ∧ i = .int .i64 (pre.length : Nat) ∧ findA chk 0 l = findA chk pre.length suf ∧ Ext W0 wr) (fun i _ => l.length - (RowKit.intOf i).toNat)
 case atStart => exact ⟨[], l, rfl, rfl, rfl, e1⟩
 case round =>
  clear e1
  obtain ⟨pre, suf, hl', rfl, hr, he⟩ := hrel
  have HR := hx hr
  clear hr
  have q1 := he.cell p1
  have q2 := he.cell p2
  have q3 := he.obj p3
  have ew := e0.trans he
  have b2 := ew.cell h2
  have g1 := ew.cell hn1
  have g2 := ew.cell hn2
  have z1 : wr.cell? ⟨w.heap.size + 1, 0, none⟩ = some (.int .i64 0) := by simp [World.cell?, q3]
  have z2 : wr.cell? ⟨w.heap.size + 1, 1, none⟩ = some (.int .i64 0) := by simp [World.cell?, q3]
  have y1 : wr.frozen? ⟨w.heap.size + 1, 0, none⟩ = false := by simp [World.frozen?, q3]
  have y2 : wr.frozen? ⟨w.heap.size + 1, 1, none⟩ = false := by simp [World.frozen?, q3]
  cases suf with
  | cons x suf =>
   have hlt : pre.length < l.length := by rw [hl']; simp
   have hmem : x ∈ l := by rw [hl']; simp
   have hvx := hv'
   rw [hl'] at hvx
   obtain ⟨b, o, rfl, ⟨d1, d2, d3, d4⟩, -⟩ := hvx.at
   replace d1 := ew.cell d1
   replace d2 := ew.cell d2
   replace d3 := ew.cell d3
   replace d4 := ew.cell d4
   have HL := hx hl'; clear hl' hvx
   have hcx := HC.out pre.length x _ (ew.alloc (.cells #[.string x.name, .int .i64 x.key, .int .i64 x.val, .int .i64 x.ents] 27)) hmem
   have b2' := (Ext.new wr (.cells #[.string x.name, .int .i64 x.key, .int .i64 x.val, .int .i64 x.ents] 27)).cell b2
   have q1' := (Ext.new wr (.cells #[.string x.name, .int .i64 x.key, .int .i64 x.val, .int .i64 x.ents] 27)).cell q1
   have q2' := (Ext.new wr (.cells #[.string x.name, .int .i64 x.key, .int .i64 x.val, .int .i64 x.ents] 27)).cell q2
   by_cases hch : chk pre.length x = 0
   ·have hf := hx (show findA chk pre.length (x :: suf) = findA chk (pre.length + 1) suf by rw [findA, if_pos hch])
    rw [hch] at hcx
    clear hch
    go_wp2_with (first | (go_at_call 71; refine hcx.mono ?_; rintro e w2 ⟨rfl, e2⟩; replace e2 := (Ext.new wr _).trans e2; have q4 := e2.obj q3; have z1' := e2.cell z1; have z2' := e2.cell z2; have y1' : w2.frozen? ⟨w.heap.size + 1, 0, none⟩ = false := (by simp [World.frozen?, q4]); have y2' : w2.frozen? ⟨w.heap.size + 1, 1, none⟩ = false := (by simp [World.frozen?, q4])))
    go_roundw
    case rel => exact ⟨pre ++ [x], suf, by simp [HL.out], by simp, by rw [HR.out, hf.out]; simp, he.trans e2⟩
    case measure => simp [RowKit.intOf]; omega
   ·have hne : (chk (pre.length : Int) x != 0) = true := by simpa using hch
    go_wp2_with (first | (go_at_call 71; refine hcx.mono ?_; rintro e w2 ⟨rfl, e2⟩; replace e2 := (Ext.new wr _).trans e2; have q4 := e2.obj q3; have z1' := e2.cell z1; have z2' := e2.cell z2; have y1' : w2.frozen? ⟨w.heap.size + 1, 0, none⟩ = false := (by simp [World.frozen?, q4]); have y2' : w2.frozen? ⟨w.heap.size + 1, 1, none⟩ = false := (by simp [World.frozen?, q4])))
    refine bodyPost_ret (results_cell_row rfl _ _ (w.heap.size + 1) 65 _ _ _ rfl (two_set _ _ q4) Tryz.underlying65 rfl (by kernel_rfl)) rfl ?_
    exact ⟨by rw [HR.out, findA, if_neg hch]; rfl, ((ew.trans e2).setCell (a := ⟨w.heap.size + 1, 0, none⟩) _ (by simp)).setCell (a := ⟨w.heap.size + 1, 1, none⟩) _ (by simp)⟩
  | nil =>
   obtain rfl : l = pre := by simpa using hl'
   clear hl'
   have hlt : ¬ l.length < l.length := by omega
   go_wp2
   refine bodyPost_ret (results_cell_row rfl _ _ (w.heap.size + 1) 65 _ _ _ rfl (two_set _ _ q3) Tryz.underlying65 rfl (by kernel_rfl)) rfl ?_
   exact ⟨by rw [HR.out]; rfl, (ew.setCell (a := ⟨w.heap.size + 1, 0, none⟩) _ (by simp)).setCell (a := ⟨w.heap.size + 1, 1, none⟩) _ (by simp)⟩
end Go.Proofs.YtocnmjpldpbioaaGreatDoor
