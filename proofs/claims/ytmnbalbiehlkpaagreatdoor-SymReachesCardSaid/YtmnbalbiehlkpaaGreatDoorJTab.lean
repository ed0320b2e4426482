/- The layer strtab: Build, and that of its reference. -/
import Derived.Test.YtmnbalbiehlkpaaGreatDoorJCore
import Derived.Test.YtmnbalbiehlkpaaGreatDoorJShelf
import Derived.Shelf.Bytes.SlSmallAll
import Derived.Laws.RangeAny
set_option linter.unusedVariables false
set_option linter.unusedSimpArgs false
namespace Go.Proofs.YtmnbalbiehlkpaaGreatDoor
open Go.RowKit Go.Lib

/-- A text that may stand in a table. -/
structure GoodT (s : ByteArray) : Prop where
 ne : s.size ≠ 0
 nul : (0 : Int) ∉ bytesOf s
def tab (l : List ByteArray) : List Int := l.flatMap fun s => bytesOf s ++ [0]
def tabOf (l : List ByteArray) : List Int := 0 :: tab l
def offsOf : Nat → List ByteArray → List Int
 | _, [] => []
 | a, s :: l => (a : Int) :: offsOf (a + s.size + 1) l
theorem toList_ne {x : ByteArray} (h : x.size ≠ 0) : x.toList.isEmpty = false := by
 rw [Go.ByteArray.toList_eq]
 cases e : x.data.toList with
 | nil => exact absurd (by show x.data.size = 0; rw [← Array.length_toList, e]; rfl) h
 | cons a l => rfl
/-- A block of numbers, whole. -/
def RowI (w : World) (g : Nat) (l : List Int) : Prop := w.heap[g]? = some (.cells (l.map (Value.int .i64)).toArray 3 (0, 0))
theorem RowI.cell {w : World} {g : Nat} {l : List Int} (h : RowI w g l) {i : Nat} {y : Int} (hy : l[i]? = some y) : w.cell? ⟨g, i, none⟩ = some (.int .i64 y) := by
 simp [World.cell?, show w.heap[g]? = _ from h, hy]
theorem RowI.frozen {w : World} {g : Nat} {l : List Int} (h : RowI w g l) (i : Nat) : w.frozen? ⟨g, i, none⟩ = false := by
 simp [World.frozen?, show w.heap[g]? = _ from h]
theorem RowI.set {w : World} {g : Nat} {l : List Int} (h : RowI w g l) (i : Nat) (y : Int) : RowI (w.setCell ⟨g, i, none⟩ (.int .i64 y)) g (l.set i y) := by
 unfold RowI at *
 simp only [World.setCell, Array.getElem?_modify, h, if_true, Option.map_some]
 simp [List.map_set]
theorem RowI.lt {w : World} {g : Nat} {l : List Int} (h : RowI w g l) : g < w.heap.size := (Array.getElem?_eq_some_iff.1 h).1
theorem RowI.keep {w w' : World} {g : Nat} {l : List Int} {row : Option Nat} (h : RowI w g l) (hg : w.grownBy w' row) (hne : some g ≠ row) : RowI w' g l :=
 (hg.block g h.lt hne).trans h
theorem RowI.ext {w w' : World} {g : Nat} {l : List Int} (h : RowI w g l) (hg : Ext w w') : RowI w' g l := hg.obj h
theorem RowI.read {w : World} {g N : Nat} {L : List Int} (h : RowI w g L) (hb : ∀ x ∈ L, I64 x) (hN : L.length = N) (hL : L.length ≤ 1000000000000) : IsInts w (.slice (some ⟨g, 0, none⟩) N N) L := by
 subst hN
 refine ⟨_, L.length, rfl, ⟨Nat.le_refl _, by simp only [maxLen]; omega⟩, by omega, (fun h => by cases h), fun i x hx => ⟨g, 0, rfl, ?_, hb x (List.mem_of_getElem? hx)⟩⟩
 rw [Nat.mul_one, Nat.zero_add]; exact h.cell hx
theorem RowB.ne {w : World} {g g' : Nat} {l l' : List Int} (h : RowB w g l) (h' : RowI w g' l') : g ≠ g' := by
 intro e
 subst e
 unfold RowB RowI at *
 rw [h] at h'
 injection h' with h'
 injection h' with _ ht
 exact absurd ht (by decide)

end Go.Proofs.YtmnbalbiehlkpaaGreatDoor


set_option linter.unusedVariables false
set_option linter.unusedSimpArgs false
namespace Go.Proofs.YtmnbalbiehlkpaaGreatDoor
open Go.RowKit Go.Lib

theorem OwnI.read {w : World} {base : Nat} {v : Value} {l : List Int} (h : OwnI w base v l) (hb : ∀ x ∈ l, I64 x) (hl : l.length ≤ 281474976710656) : IsInts w v l :=
 Own.read encI_ok h hl fun x hx b o hc => ⟨by simpa using hc 0 (.int .i64 x) rfl, hb x hx⟩
theorem OwnS.read {w : World} {base : Nat} {v : Value} {l : List ByteArray} (h : OwnS w base v l) (hb : ∀ x ∈ l, x.size ≤ 140737488355328) (hl : l.length ≤ 281474976710656) : IsStrs w v l :=
 Own.read encS_ok h hl fun x hx b o hc => ⟨by simpa using hc 0 (.string x) rfl, hb x hx⟩

end Go.Proofs.YtmnbalbiehlkpaaGreatDoor


set_option linter.unusedVariables false
set_option linter.unusedSimpArgs false
namespace Go.Proofs.YtmnbalbiehlkpaaGreatDoor
open Go.RowKit Go.Lib

end Go.Proofs.YtmnbalbiehlkpaaGreatDoor


set_option linter.unusedVariables false
set_option linter.unusedSimpArgs false
namespace Go.Proofs.YtmnbalbiehlkpaaGreatDoor
open Go.RowKit Go.Lib

end Go.Proofs.YtmnbalbiehlkpaaGreatDoor


set_option linter.unusedVariables false
set_option linter.unusedSimpArgs false
namespace Go.Proofs.YtmnbalbiehlkpaaGreatDoor
open Go.RowKit Go.Lib

def splitA : List Int → List Int → Option (List (List Int))
 | cur, [] => if cur = [] then some [] else none
 | cur, x :: l => if x = 0 then (if cur = [] then none else (splitA [] l).map (cur :: ·)) else splitA (cur ++ [x]) l
/-- The texts of a table behind its first byte. -/
def splitT (l : List Int) : Option (List (List Int)) := splitA [] l
def parT (b : List Int) : Option (List ByteArray) := match b with | [] => none | x :: l => if x = 0 then (splitT l).map (·.map strOfNums) else none
def parL (b : List Int) : List ByteArray := match parT b with | none => [] | some l => l
def parB (b : List Int) : Bool := (parT b).isSome
end Go.Proofs.YtmnbalbiehlkpaaGreatDoor


set_option linter.unusedVariables false
set_option linter.unusedSimpArgs false
namespace Go.Proofs.YtmnbalbiehlkpaaGreatDoor
open Go.RowKit Go.Lib

/-- What the package variables hold, so far as the walks ask. -/
structure Glob (w : World) : Prop where
 props : Lib.TabIs Tryz.prog w "unicode.properties" .u8 Lib.propertiesTab
 esyn : ∃ ev, (ev = .nilIface ∨ ∃ te pe, ev = .iface te pe) ∧ w.cell? ⟨6, 0, none⟩ = some ev
 eran : ∃ ev, (ev = .nilIface ∨ ∃ te pe, ev = .iface te pe) ∧ w.cell? ⟨7, 0, none⟩ = some ev
theorem var_ext {P : Program} {w w' : World} {n : String} {cs : Array Value} (h : w.var? P n = some cs) (he : Ext w w') : w'.var? P n = some cs := by
 unfold World.var? at *
 cases hg : P.globalNamed n with
 | none => rw [hg] at h; exact h
 | some g =>
  rw [hg] at h
  simp only [Option.bind_some] at h ⊢
  cases ho : w.heap[g]? with
  | none => rw [ho] at h; cases h
  | some o => rw [he.obj ho]; rw [ho] at h; exact h
theorem Glob.ext {w w' : World} (h : Glob w) (he : Ext w w') : Glob w' := by
 obtain ⟨v1, h0, h1⟩ := h.esyn
 obtain ⟨v2, h2, h3⟩ := h.eran
 exact ⟨var_ext h.props he, ⟨v1, h0, he.cell h1⟩, ⟨v2, h2, he.cell h3⟩⟩

/-- The part that every name asks; and what the names of a list ask: a name that may be a register's is read as a number, and that may end in an error. -/
def GlobP (w : World) : Prop := Lib.TabIs Tryz.prog w "unicode.properties" .u8 Lib.propertiesTab
theorem GlobP.ext {w w' : World} (h : GlobP w) (he : Ext w w') : GlobP w' := var_ext h he
instance {w : World} : Coe (Glob w) (GlobP w) := ⟨fun h => h.props⟩
def QuietN (s : ByteArray) : Prop := s.size < 2 ∨ s.data.toList[0]? ≠ some 114
def GlobQ (l : List ByteArray) (w : World) : Prop := GlobP w ∧ ((∀ s ∈ l, QuietN s) ∨ Glob w)
theorem GlobQ.ext {l : List ByteArray} {w w' : World} (h : GlobQ l w) (he : Ext w w') : GlobQ l w' := ⟨h.1.ext he, h.2.imp id fun h => h.ext he⟩
theorem GlobQ.sub {l l' : List ByteArray} {w : World} (h : GlobQ l w) (hl : ∀ s ∈ l', s ∈ l) : GlobQ l' w := ⟨h.1, h.2.imp (fun h s hs => h s (hl s hs)) id⟩
theorem GlobQ.of {l : List ByteArray} {w : World} (h : Glob w) : GlobQ l w := ⟨h.props, .inr h⟩
instance {l : List ByteArray} {w : World} : Coe (Glob w) (GlobQ l w) := ⟨GlobQ.of⟩

/-- The names in a statement. -/
def Stmt.names (s : Stmt) : List ByteArray := s.labels ++ [s.target, s.map]

/-- A word character. -/
def inW (c : Int) : Bool := decide (c = 95 ∨ c = 46 ∨ (48 ≤ c ∧ c ≤ 57) ∨ (65 ≤ c ∧ c ≤ 90) ∨ (97 ≤ c ∧ c ≤ 122))
theorem inW_low {c : Nat} (h : c ≤ 127) (h1 : c ≠ 95) (h2 : c ≠ 46) : inW c = (Lib.isLetterL c || Lib.isDigitL c) := by
 unfold inW Lib.isLetterL Lib.isDigitL Lib.isUpperL Lib.isLowerL
 simp only [← Bool.decide_or, decide_eq_decide]
 omega
set_option maxRecDepth 20000 in
set_option maxHeartbeats 1000000 in
theorem inWord_any (c : Nat) (w : World) (hc : c ≤ 2147483647) (hG : GlobP w) :
  Calls Tryz.prog 252 #[.int .i32 c] w fun e w' => e = .returned (.bool (inW c)) ∧ w' = w := by
 by_cases h1 : c = 95
 ·subst h1
  go_enter Tryz.func252, Tryz.ntmps252
  go_wp2
  go_ret
  exact ⟨rfl, rfl⟩
 by_cases h2 : c = 46
 ·subst h2
  go_enter Tryz.func252, Tryz.ntmps252
  go_wp2
  go_ret
  exact ⟨rfl, rfl⟩
 by_cases h3 : c ≤ 127
 ·have hw := inW_low h3 h1 h2
  have hL := Tryz.unicode_IsLetter c w (by omega) hG
  have hD := Tryz.unicode_IsDigit (c : Int) w (by omega)
  have e1 : ((c : Int) == 95) = false := beq_eq_false_iff_ne.2 (by omega)
  have e2 : ((c : Int) == 46) = false := beq_eq_false_iff_ne.2 (by omega)
  have HW := hx hw
  clear hw hG
  generalize inW (c : Int) = B at *
  cases hl : Lib.isLetterL (c : Int) with
  | true =>
   rw [hl] at hL HW
   go_enter Tryz.func252, Tryz.ntmps252
   go_wp2_with (first | (go_at_call 266; refine hL.mono ?_; rintro e w' ⟨rfl, rfl⟩) | (go_at_call 214; refine hD.mono ?_; rintro e w' ⟨rfl, rfl⟩))
   go_ret
   exact ⟨ret_bool (by rw [HW.out]; simp), rfl⟩
  | false =>
   rw [hl] at hL HW
   go_enter Tryz.func252, Tryz.ntmps252
   go_wp2_with (first | (go_at_call 266; refine hL.mono ?_; rintro e w' ⟨rfl, rfl⟩) | (go_at_call 214; refine hD.mono ?_; rintro e w' ⟨rfl, rfl⟩))
   go_ret
   exact ⟨ret_bool (by rw [HW.out]; simp), rfl⟩
 ·have e1 : ((c : Int) == 95) = false := beq_eq_false_iff_ne.2 (by omega)
  have e2 : ((c : Int) == 46) = false := beq_eq_false_iff_ne.2 (by omega)
  have hw : inW c = false := by unfold inW; simp; omega
  rw [hw]
  go_enter Tryz.func252, Tryz.ntmps252
  go_wp2
  go_ret
  exact ⟨rfl, rfl⟩
end Go.Proofs.YtmnbalbiehlkpaaGreatDoor
