/- The layer object: what Check, Pack and Parse return, as plain functions. -/
import Derived.Test.YtmnbalbiehlkpaaGreatDoorJTabK
import Derived.Test.YtmnbalbiehlkpaaGreatDoorJRules
import Derived.Deep.RegionWith
import Derived.Deep.RegionHeld3
import Derived.Test.YtmnbalbiehlkpaaGreatDoorJRefChkE
import Derived.BigRegionIn
import Derived.StillTailTactics
set_option linter.unusedVariables false
set_option linter.unusedSimpArgs false
namespace Go.Proofs.YtmnbalbiehlkpaaGreatDoor
open Go.RowKit Go.Lib

/-! ### bytes of numbers -/
/-! ### a container determines its sections -/
/-! ### Check -/
/-- The error of the maps alone. -/
def mapsE (l : List Def) : Int :=
 if (findA (fun _ d => mapE d) 0 l).2 ≠ 0 then (findA (fun _ d => mapE d) 0 l).2 else if 255 < l.length then 16 else if 0 ≤ repN (l.map (·.name)) then 10 else 0
def relsOk (slots maps : Int) : Int → List Rel → Bool
 | _, [] => true
 | last, r :: l => decide (last < r.slot ∧ r.slot < slots ∧ 0 ≤ r.sym ∧ r.sym < maps) && relsOk slots maps r.slot l
def obE (o : Ob) : Int :=
 if mapsE o.maps ≠ 0 then mapsE o.maps else if o.code.length = 0 ∨ o.code.length % 8 ≠ 0 then 17 else if 524280 < o.code.length then 16
 else if relsOk ((o.code.length : Int) / 8) o.maps.length (-1) o.rels then 0 else 18

theorem findA_all {chk : Int → Def → Int} : ∀ (l : List Def) (i : Int), (∀ (k : Nat) d, l[k]? = some d → chk (i + k) d = 0) → findA chk i l = (0, 0) := by
 intro l
 induction l with
 | nil => intro i _; rfl
 | cons x l ih =>
  intro i h
  have h0 := h 0 x rfl
  unfold findA
  rw [if_pos (by simpa using h0)]
  refine ih _ fun k d hd => ?_
  have := h (k + 1) d (by simpa using hd)
  rw [show i + 1 + (k : Int) = i + ((k + 1 : Nat) : Int) by omega]; exact this
/-- The rule on the maps' number. -/
theorem find_size (l : List Def) : (findA (fun i _ => whenN (decide (255 ≤ i)) 16) 0 l).2 = if 255 < l.length then 16 else 0 := by
 have key : ∀ (l : List Def) (i : Int), (findA (fun i _ => whenN (decide (255 ≤ i)) 16) i l).2 = if l ≠ [] ∧ 255 < i + l.length then 16 else 0 := by
  intro l
  induction l with
  | nil => intro i; simp [findA]
  | cons x l ih =>
   intro i
   unfold findA
   by_cases h : 255 ≤ i
   ·simp [whenN, h]; omega
   ·rw [if_pos (by simp [whenN, h]), ih]
    cases l with
    | nil => simp; omega
    | cons y l => simp only [List.length_cons, ne_eq, reduceCtorEq, not_false_eq_true, true_and]; congr 1; simp; omega
 rw [key]
 cases l with
 | nil => simp
 | cons y l => simp; congr 1; apply propext; omega
theorem repA_bd : ∀ (l seen : List ByteArray), repA seen l < seen.length + l.length ∧ (repA seen l < 0 ∨ seen.length ≤ repA seen l) := by
 intro l
 induction l with
 | nil => intro seen; simp [repA]; omega
 | cons x l ih =>
  intro seen
  unfold repA
  split
  ·simp; omega
  ·have := ih (seen ++ [x]); simp at *; omega
theorem repN_bd (l : List ByteArray) : repN l < l.length := by have := (repA_bd l []).1; simpa [repN] using this
theorem find_rep (l : List Def) (R : Int) (hR : R < l.length) : (findA (fun i _ => whenN (R == i) 10) 0 l).2 = if 0 ≤ R then 10 else 0 := by
 have key : ∀ (l : List Def) (i : Int), (findA (fun i _ => whenN (R == i) 10) i l).2 = if i ≤ R ∧ R < i + l.length then 10 else 0 := by
  intro l
  induction l with
  | nil => intro i; simp [findA]
  | cons x l ih =>
   intro i
   unfold findA
   by_cases h : R = i
   ·simp [whenN, h]; omega
   ·have hb : (R == i) = false := by simpa using h
    rw [if_pos (by simp [whenN, hb]), ih]
    simp only [List.length_cons]
    congr 1
    simp; omega
 rw [key]
 congr 1
 apply propext; omega

/-! ### Pack -/
def b4 (l : List Int) : List Int := l.flatMap (le 4)
def defN (l : List Def) : List Int := l.flatMap fun d => [d.key, d.val, d.ents, 0]
def symN : Nat → List Int → List Int
 | _, [] => []
 | i, o :: l => o :: (i : Int) :: symN (i + 1) l
def relN (l : List Rel) : List Int := l.flatMap fun r => [r.slot, r.sym]
def namesOf (o : Ob) : List ByteArray := o.maps.map (·.name)
def secsOf (o : Ob) : List Sec := [⟨1, o.code⟩, ⟨2, b4 (defN o.maps)⟩, ⟨3, b4 (symN 0 (offsOf 1 (namesOf o)))⟩, ⟨4, b4 (relN o.rels)⟩, ⟨5, tabOf (namesOf o)⟩]
def packOf (o : Ob) : List Int := boxOf (secsOf o)
/-! ### Parse -/
def mDef (b : List Int) (k : Nat) (t : ByteArray) : Def := ⟨t, numOf b (16 * k) 4, numOf b (16 * k + 4) 4, numOf b (16 * k + 8) 4⟩
def mRel (b : List Int) (k : Nat) : Rel := ⟨numOf b (8 * k) 4, numOf b (8 * k + 4) 4⟩
def mDefs (b : List Int) (T : List ByteArray) : List Def := T.mapIdx fun k t => mDef b k t
def mRels (b : List Int) (n : Nat) : List Rel := (List.range n).map (mRel b)
def secD (S : List Sec) (i : Nat) : List Int := (S.getD i default).data
def obOf (S : List Sec) : Ob := ⟨mDefs (secD S 1) (parL (secD S 4)), secD S 0, mRels (secD S 3) ((secD S 3).length / 8)⟩
def paOk (b : List Int) : Prop :=
 rdOk b ∧ (rdOut b).length = 5 ∧ parB (secD (rdOut b) 4) = true ∧ (secD (rdOut b) 1).length = 16 * (parL (secD (rdOut b) 4)).length ∧ (secD (rdOut b) 3).length % 8 = 0 ∧ obE (obOf (rdOut b)) = 0 ∧ packOf (obOf (rdOut b)) = b
instance (b : List Int) : Decidable (paOk b) := inferInstanceAs (Decidable (_ ∧ _))
end Go.Proofs.YtmnbalbiehlkpaaGreatDoor


set_option linter.unusedVariables false
set_option linter.unusedSimpArgs false
namespace Go.Proofs.YtmnbalbiehlkpaaGreatDoor
open Go.RowKit Go.Lib

set_option maxRecDepth 20000 in
set_option maxHeartbeats 1000000 in
theorem progCheck_of (A1 A2 : Option Addr) (n1 c1 n2 c2 : Nat) (f : Int × Int) (i : Int) (w : World)
  (hc : ∀ W, Ext w W → Calls Tryz.prog 64 #[.agg #[.slice A1 n1 c1, .slice A2 n2 c2]] W fun e w' => e = .returned (.tuple #[findV f, .int .i64 i]) ∧ Ext W w') :
  Calls Tryz.prog 28 #[.agg #[.slice A1 n1 c1, .slice A2 n2 c2]] w fun e w' => e = .returned (.tuple #[.int .i64 f.1, .int .i64 f.2]) ∧ Ext w w' := by
 have e0 := Ext.new w (.cells #[.slice A1 n1 c1, .slice A2 n2 c2] 25)
 have hc1 := hc _ e0
 obtain ⟨x, y⟩ := f
 simp only [findV] at hc1
 clear hc
 go_enter Tryz.func28, Tryz.ntmps28
 go_wp2_with (first | (go_at_call 64; refine hc1.mono ?_; rintro e w1 ⟨rfl, e1⟩; replace e1 := e0.trans e1))
 go_region
 all_goals (go_wp2; go_ret2; exact ⟨rfl, (e1.alloc _).drew⟩)

/-- What the variable none of prog holds. -/
structure NoneV (w : World) : Prop where
 a : w.cell? ⟨0, 0, none⟩ = some (.int .i64 0)
 b : w.cell? ⟨0, 1, none⟩ = some (.int .i64 0)
theorem NoneV.ext {w w' : World} (h : NoneV w) (he : Ext w w') : NoneV w' := ⟨he.cell h.a, he.cell h.b⟩
theorem enD : ∀ args W, (callFunc 195 args).run Tryz.prog W = .ok (.enter 195 args) W := fun _ _ => by kernel_rfl
theorem enS : ∀ args W, (callFunc 198 args).run Tryz.prog W = .ok (.enter 198 args) W := fun _ _ => by kernel_rfl
theorem enL : ∀ args W, (callFunc 162 args).run Tryz.prog W = .ok (.enter 162 args) W := fun _ _ => by kernel_rfl
theorem en3 : ∀ args W, (callFunc 163 args).run Tryz.prog W = .ok (.enter 163 args) W := fun _ _ => by kernel_rfl
theorem defs_ok {w : World} {v : Value} {l : List Def} (h : IsDefs w v l) : ∀ d ∈ l, d.Ok := Sl.all h fun _ _ _ k => k.2
end Go.Proofs.YtmnbalbiehlkpaaGreatDoor


set_option linter.unusedVariables false
set_option linter.unusedSimpArgs false
namespace Go.Proofs.YtmnbalbiehlkpaaGreatDoor
open Go.RowKit Go.Lib

end Go.Proofs.YtmnbalbiehlkpaaGreatDoor


set_option linter.unusedVariables false
set_option linter.unusedSimpArgs false
namespace Go.Proofs.YtmnbalbiehlkpaaGreatDoor
open Go.RowKit Go.Lib

/-- Numbers that four bytes are taken of. -/
def Small (l : List Int) : Prop := ∀ x ∈ l, 0 ≤ x ∧ x ≤ 1099511627776
theorem Small.i64 {l : List Int} (h : Small l) : ∀ x ∈ l, I64 x := fun x hx => by have := h x hx; unfold I64; omega
end Go.Proofs.YtmnbalbiehlkpaaGreatDoor


set_option linter.unusedVariables false
set_option linter.unusedSimpArgs false
namespace Go.Proofs.YtmnbalbiehlkpaaGreatDoor
open Go.RowKit Go.Lib

end Go.Proofs.YtmnbalbiehlkpaaGreatDoor


set_option linter.unusedVariables false
set_option linter.unusedSimpArgs false
namespace Go.Proofs.YtmnbalbiehlkpaaGreatDoor
open Go.RowKit Go.Lib

end Go.Proofs.YtmnbalbiehlkpaaGreatDoor


set_option linter.unusedVariables false
set_option linter.unusedSimpArgs false
namespace Go.Proofs.YtmnbalbiehlkpaaGreatDoor
open Go.RowKit Go.Lib

end Go.Proofs.YtmnbalbiehlkpaaGreatDoor


set_option linter.unusedVariables false
set_option linter.unusedSimpArgs false
namespace Go.Proofs.YtmnbalbiehlkpaaGreatDoor
open Go.RowKit Go.Lib

end Go.Proofs.YtmnbalbiehlkpaaGreatDoor


set_option linter.unusedVariables false
set_option linter.unusedSimpArgs false
namespace Go.Proofs.YtmnbalbiehlkpaaGreatDoor
open Go.RowKit Go.Lib Go.Shelf Go.Proofs
attribute [local go_sem] Oper.semAt_some

def rg (q k : Nat) : List (Fin q) := (List.finRange q).take k
def KpC (n₀ B : Nat) (W W' : World) : Prop := Below n₀ W W' ∧ W'.heap[B]? = W.heap[B]? ∧ W'.heap[B + 1]? = W.heap[B + 1]?
theorem KpC.trans {n₀ B : Nat} {W W1 W2 : World} (h : KpC n₀ B W W1) (k : KpC n₀ B W1 W2) : KpC n₀ B W W2 := ⟨h.1.trans k.1, k.2.1.trans h.2.1, k.2.2.trans h.2.2⟩
end Go.Proofs.YtmnbalbiehlkpaaGreatDoor


set_option linter.unusedVariables false
set_option linter.unusedSimpArgs false
namespace Go.Proofs.YtmnbalbiehlkpaaGreatDoor
open Go.RowKit Go.Lib Go.Shelf Go.Proofs

section
variable {F : Fence} {n : Nat} {P : Program}
end
end Go.Proofs.YtmnbalbiehlkpaaGreatDoor


set_option linter.unusedVariables false
set_option linter.unusedSimpArgs false
namespace Go.Proofs.YtmnbalbiehlkpaaGreatDoor
open Go.RowKit Go.Lib Go.Shelf Go.Proofs
attribute [local go_sem] Oper.semAt_some

theorem Boxed.ext' {w W : World} {B : Nat} {t : TypeId} {v : Value} (h : Boxed w B t v) (he : Ext w W) : Boxed W B t v := he.obj h
theorem Byt.drop {b : List Int} (h : Byt b) (k : Nat) : Byt (b.drop k) := fun x hx => h x (List.mem_of_mem_drop hx)
end Go.Proofs.YtmnbalbiehlkpaaGreatDoor


set_option linter.unusedVariables false
set_option linter.unusedSimpArgs false
namespace Go.Proofs.YtmnbalbiehlkpaaGreatDoor
open Go.RowKit Go.Lib Go.Shelf Go.Proofs
attribute [local go_sem] Oper.semAt_some

section
variable {P : Program} {F : Fence} {n : Nat} {ops : Array Oper} {rest : List Oper} {o : Oper} {a : Act} {Q : Exit → Act → World → Prop} {α : Type} {e : TypeId} {sz bytes : Nat} {enc : α → List Value} {z : Value} {t : TypeId}
end

/-! ### what the rows hold -/
end Go.Proofs.YtmnbalbiehlkpaaGreatDoor
