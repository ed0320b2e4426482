/- The layer asm: what Resolve answers. -/
import Derived.Test.YtmnbalbiehlkpaaGreatDoorJStmR
import Derived.Test.YtmnbalbiehlkpaaGreatDoorJPDec
import Derived.Test.YtmnbalbiehlkpaaGreatDoorJMemA
import Derived.Test.YtmnbalbiehlkpaaGreatDoorJOpsC
import Derived.Test.YtmnbalbiehlkpaaGreatDoorJSlot
import Derived.Test.YtmnbalbiehlkpaaGreatDoorJRulG
import Derived.Deep.RegionWith
import Derived.Deep.DeepCutAuto
set_option linter.unusedVariables false
set_option linter.unusedSimpArgs false
namespace Go.Proofs.YtmnbalbiehlkpaaGreatDoor
open Go.RowKit Go.Lib

theorem firstP_all : ∀ (l : List (Int × Int)), (firstP l).2 = 0 → ∀ r ∈ l, r.2 = 0 := by
 intro l
 induction l with
 | nil => intro _ r hr; cases hr
 | cons x l ih =>
  intro h r hr
  rw [firstP] at h
  split at h
  ·rename_i h0
   rcases List.mem_cons.1 hr with rfl | hr
   ·exact h0
   ·exact ih h r hr
  ·rename_i h0; exact absurd h h0
theorem findS_zero {chk : Nat → Stmt → Int} {l : List Stmt} (h : (findS chk l).2 = 0) : ∀ j, j < l.length → chk j (l.getD j default) = 0 := by
 intro j hj
 unfold findS at h
 split at h
 ·rename_i r hr
  obtain ⟨i, _, hi⟩ := List.exists_of_findSome?_eq_some hr
  split at hi
  ·cases hi
  ·rename_i h0
   injection hi with hi
   subst hi
   exact absurd h h0
 ·rename_i hr
  rw [List.findSome?_eq_none_iff] at hr
  have := hr j (by simpa using hj)
  split at this
  ·assumption
  ·cases this
/-- What a correct program keeps. -/
theorem pchk_all {M : List Def} {L : List Stmt} (h : (pchk M L).2 = 0) : ∀ r ∈ prRs M L, r.2 = 0 := by
 rw [pchk, firstF_fst] at h
 exact firstP_all _ h
theorem pchk_und {M : List Def} {L : List Stmt} (h : (pchk M L).2 = 0) : ∀ j, j < L.length → undB L (emS :: namesL M) (L.getD j default) = false := by
 intro j hj
 have h1 := findS_zero (pchk_all h (findS (undE L (emS :: M.map (·.name))) L) (by simp [prRs])) j hj
 cases hu : undB L (emS :: namesL M) (L.getD j default) with
 | false => rfl
 | true =>
  unfold undE at h1
  have hu' : undB L (emS :: M.map (·.name)) (L.getD j default) = true := hu
  rw [if_pos hu'] at h1
  cases h1
theorem pchk_stmt {M : List Def} {L : List Stmt} (h : (pchk M L).2 = 0) : ∀ j, j < L.length → stmtE (L.getD j default) = 0 :=
 findS_zero (pchk_all h (findS (fun _ s => stmtE s) L) (by simp [prRs]))
theorem labI_bd : ∀ (L : List Stmt) (k : Nat) (p : ByteArray → Option Int) (s : ByteArray) (n : Int), (k : Int) + L.length ≤ n → (∀ i, p s = some i → 0 ≤ i ∧ i < n) → ∀ i, labI k L p s = some i → 0 ≤ i ∧ i < n := by
 intro L
 induction L with
 | nil => intro k p s n _ h i hi; exact h i hi
 | cons x l ih =>
  intro k p s n hn h i hi
  rw [List.length_cons] at hn
  refine ih (k + 1) _ s n (by omega) (fun j hj => ?_) i hi
  split at hj
  ·injection hj with hj; omega
  ·exact h j hj
/-- A jump's label has a statement. -/
theorem lab_in {M : List Def} {L : List Stmt} (h : (pchk M L).2 = 0) {j : Nat} (hj : j < L.length) (hne : neS (L.getD j default).target = true) : 0 ≤ labX L (L.getD j default).target ∧ labX L (L.getD j default).target < L.length := by
 have hu := pchk_und h j hj
 unfold undB at hu
 rw [hne, Bool.true_and, Bool.or_eq_false_iff] at hu
 cases hl : labAt L (L.getD j default).target with
 | none => rw [hl] at hu; exact absurd hu.1 (by decide)
 | some i =>
  unfold labX
  rw [hl]
  exact labI_bd L 0 (fun _ => none) _ L.length (by omega) (fun i h => by cases h) i hl
end Go.Proofs.YtmnbalbiehlkpaaGreatDoor


set_option linter.unusedVariables false
set_option linter.unusedSimpArgs false
namespace Go.Proofs.YtmnbalbiehlkpaaGreatDoor
open Go.RowKit

end Go.Proofs.YtmnbalbiehlkpaaGreatDoor


set_option linter.unusedVariables false
set_option linter.unusedSimpArgs false
namespace Go.Proofs.YtmnbalbiehlkpaaGreatDoor
open Go.RowKit

/-- An instruction of one slot whose numbers need no care. -/
structure EncOne (x : Ins) : Prop where
 ok : x.Ok
 slots : slotsN x.op = 1
 dst : 0 ≤ x.dst ∧ x.dst ≤ 10
 src : 0 ≤ x.src ∧ x.src ≤ 10
 off : 0 ≤ x.off ∧ x.off ≤ 1000
 imm : 0 ≤ x.imm ∧ x.imm ≤ 1000
end Go.Proofs.YtmnbalbiehlkpaaGreatDoor


set_option linter.unusedVariables false
set_option linter.unusedSimpArgs false
namespace Go.Proofs.YtmnbalbiehlkpaaGreatDoor
open Go.RowKit

/-- The bounds of a correct instruction's numbers. -/
structure EncL (x : Ins) (n : Int) : Prop where
 ok : x.Ok
 slots : slotsN x.op = n
 dst : 0 ≤ x.dst ∧ x.dst ≤ 10
 src : 0 ≤ x.src ∧ x.src ≤ 10
 off : -40000 ≤ x.off ∧ x.off ≤ 40000
structure EncK (x : Ins) : Prop where
 ok : x.Ok
 slots : slotsN x.op = 1 ∨ slotsN x.op = 2
 dst : 0 ≤ x.dst ∧ x.dst ≤ 10
 src : 0 ≤ x.src ∧ x.src ≤ 10
 off : -40000 ≤ x.off ∧ x.off ≤ 40000
end Go.Proofs.YtmnbalbiehlkpaaGreatDoor


set_option linter.unusedVariables false
set_option linter.unusedSimpArgs false
namespace Go.Proofs.YtmnbalbiehlkpaaGreatDoor
open Go.RowKit

/-- The parts of an instruction's correctness. -/
structure InsOk (x : Ins) : Prop where
 form : formN x.op ≠ -1
 reg : regBad x = false
 field : fieldBad x = false
 dst : regOk x.dst = true
 src : regOk x.src = true
 off : fits16 x.off = true
 imm : immOk x = true
end Go.Proofs.YtmnbalbiehlkpaaGreatDoor


set_option linter.unusedVariables false
set_option linter.unusedSimpArgs false
namespace Go.Proofs.YtmnbalbiehlkpaaGreatDoor
open Go.RowKit Go.Lib

theorem stmtE_zero {s : Stmt} (h : stmtE s = 0) : lblBad s.labels = false ∧ insE s.ins = 0 ∧ tailB (jumpsX s.ins) (formN s.ins.op == 11) s.ins.off s.ins.imm s.target s.map = 0 := by
 cases h1 : lblBad s.labels with
 | true => unfold stmtE at h; rw [if_pos h1] at h; omega
 | false =>
  by_cases h2 : insE s.ins = 0
  ·exact ⟨rfl, h2, by rw [← stmtE_tail h1 h2]; exact h⟩
  ·exact absurd ((stmtE_ins h1 h2).symm.trans h) h2
structure TailOk (J R : Bool) (off imm : Int) (t m : ByteArray) : Prop where
 off : J = true → off = 0
 imm : R = true → imm = 0
 tgt : J = false → neS t = false
 map : R = false → neS m = false
 tid : J = true → idB t = true
 mid : R = true → idB m = true
theorem tailB_zero {J R : Bool} {off imm : Int} {t m : ByteArray} (h : tailB J R off imm t m = 0) : TailOk J R off imm t m := by
 unfold tailB at h
 split at h
 ·omega
 split at h
 ·omega
 rename_i h1 h2
 simp only [Bool.or_eq_true, not_or, Bool.not_eq_true, Bool.and_eq_true, not_and] at h1 h2
 obtain ⟨⟨⟨h1, h3⟩, h4⟩, h5⟩ := h1
 refine ⟨fun e => ?_, fun e => ?_, fun e => ?_, fun e => ?_, fun e => ?_, fun e => ?_⟩
 ·subst e; simpa using h1
 ·subst e; simpa using h3
 ·subst e; simpa using h4
 ·subst e; simpa using h5
 ·subst e; simpa using h2.1
 ·subst e; simpa using h2.2
end Go.Proofs.YtmnbalbiehlkpaaGreatDoor


set_option linter.unusedVariables false
set_option linter.unusedSimpArgs false
namespace Go.Proofs.YtmnbalbiehlkpaaGreatDoor
open Go.RowKit Go.Lib

/-- Where the jump of a statement leads, or -1. -/
def to24 (L : List Stmt) (i : Nat) : Int := if neS (L.getD i default).target then labX L (L.getD i default).target else -1
/-- Does a statement lead to the next one? -/
def fall24 (L : List Stmt) (i : Nat) : Bool := !endsX (L.getD i default).ins
def at24 (s : List Bool) (i : Nat) : Bool := s.getD i false
/-- A set that holds the first statement and all that its statements lead to. -/
def Clo24 (L : List Stmt) (C : Nat → Bool) : Prop :=
 C 0 = true ∧ ∀ i, i < L.length → C i = true → (0 ≤ to24 L i → C (to24 L i).toNat = true) ∧ (fall24 L i = true → i + 1 < L.length → C (i + 1) = true)
def Min24 (L : List Stmt) (s : List Bool) : Prop := ∀ C, Clo24 L C → ∀ i, at24 s i = true → C i = true
theorem at24_set (s : List Bool) (k i : Nat) (hk : k < s.length) : at24 (s.set k true) i = (decide (i = k) || at24 s i) := by
 unfold at24
 rw [List.getD_eq_getElem?_getD, List.getD_eq_getElem?_getD]
 by_cases h : i = k
 ·subst h; rw [List.getElem?_set_self hk]; simp
 ·rw [List.getElem?_set_ne (fun e => h e.symm)]; simp [h]
theorem at24_lt {s : List Bool} {i : Nat} (h : at24 s i = true) : i < s.length := by
 unfold at24 at h
 rw [List.getD_eq_getElem?_getD] at h
 refine Nat.lt_of_not_le fun hi => ?_
 rw [List.getElem?_eq_none_iff.2 hi] at h
 cases h
/-- Two sets of the same kind are the same. -/
theorem reach24_eq {L : List Stmt} {s t : List Bool} (hl : s.length = t.length) (hs : Clo24 L (at24 s)) (ht : Clo24 L (at24 t)) (ms : Min24 L s) (mt : Min24 L t) : s = t := by
 have h : ∀ i, at24 s i = at24 t i := fun i => by
  have h1 := ms _ ht i
  have h2 := mt _ hs i
  cases ha : at24 s i <;> cases hb : at24 t i
  ·rfl
  ·rw [h2 hb] at ha; cases ha
  ·rw [h1 ha] at hb; cases hb
  ·rfl
 refine List.ext_getElem? fun i => ?_
 have hi := h i
 unfold at24 at hi
 rw [List.getD_eq_getElem?_getD, List.getD_eq_getElem?_getD] at hi
 by_cases hlt : i < s.length
 ·rw [List.getElem?_eq_getElem hlt, List.getElem?_eq_getElem (by omega)] at hi ⊢
  simpa using hi
 ·rw [List.getElem?_eq_none_iff.2 (by omega), List.getElem?_eq_none_iff.2 (by omega)]

/-- The reference's step, its pass over the statements, and its rounds. -/
def stepA (L : List Stmt) (s : List Bool) (i : Nat) : List Bool := if at24 s i = true ∧ 0 ≤ to24 L i then s.set (to24 L i).toNat true else s
def stepB (L : List Stmt) (s : List Bool) (i : Nat) : List Bool := if at24 s i = true ∧ fall24 L i = true ∧ i + 1 < s.length then s.set (i + 1) true else s
def pass24 (L : List Stmt) : Nat → List Bool → List Bool
 | 0, s => s
 | k + 1, s => stepB L (stepA L (pass24 L k s) k) k
def rounds24 (L : List Stmt) : Nat → List Bool
 | 0 => (List.replicate L.length false).set 0 true
 | r + 1 => pass24 L L.length (rounds24 L r)
def cnt (s : List Bool) : Nat := s.countP id
theorem cnt_le (s : List Bool) : cnt s ≤ s.length := List.countP_le_length
theorem set_true {s : List Bool} {k : Nat} (hk : k < s.length) : s.set k true = s ∨ cnt s < cnt (s.set k true) := by
 induction s generalizing k with
 | nil => simp at hk
 | cons b s ih =>
  cases k with
  | zero =>
   cases b
   ·right; simp [cnt]
   ·left; rfl
  | succ k =>
   rcases ih (k := k) (by simpa using hk) with h | h
   ·left; rw [List.set_cons_succ, h]
   ·right
    rw [List.set_cons_succ]
    unfold cnt at *
    rw [List.countP_cons, List.countP_cons]
    omega
theorem stepA_len (L : List Stmt) (s : List Bool) (i : Nat) : (stepA L s i).length = s.length := by unfold stepA; split <;> simp
theorem stepB_len (L : List Stmt) (s : List Bool) (i : Nat) : (stepB L s i).length = s.length := by unfold stepB; split <;> simp
theorem pass24_len (L : List Stmt) : ∀ k s, (pass24 L k s).length = s.length
 | 0, s => rfl
 | k + 1, s => by rw [pass24, stepB_len, stepA_len, pass24_len L k s]
theorem rounds24_len (L : List Stmt) : ∀ r, (rounds24 L r).length = L.length
 | 0 => by simp [rounds24]
 | r + 1 => by rw [rounds24, pass24_len, rounds24_len L r]
/-- What a list of statements without error gives: jumps lead to statements. -/
structure Good24 (L : List Stmt) : Prop where
 pos : 0 < L.length
 lt : ∀ i, i < L.length → to24 L i < L.length
theorem stepA_min {L : List Stmt} {s : List Bool} {i : Nat} (hg : Good24 L) (hl : s.length = L.length) (h : Min24 L s) : Min24 L (stepA L s i) := by
 unfold stepA
 split
 ·next hc =>
  have hi : i < L.length := by have := at24_lt hc.1; omega
  intro C hC j hj
  rw [at24_set _ _ _ (by have := hg.lt i hi; omega)] at hj
  by_cases e : j = (to24 L i).toNat
  ·subst e; exact (hC.2 i hi (h C hC i hc.1)).1 hc.2
  ·simp [e] at hj; exact h C hC j hj
 ·exact h
theorem stepB_min {L : List Stmt} {s : List Bool} {i : Nat} (hl : s.length = L.length) (h : Min24 L s) : Min24 L (stepB L s i) := by
 unfold stepB
 split
 ·next hc =>
  have hi : i < L.length := by have := at24_lt hc.1; omega
  intro C hC j hj
  rw [at24_set _ _ _ (by omega)] at hj
  by_cases e : j = i + 1
  ·subst e; exact (hC.2 i hi (h C hC i hc.1)).2 hc.2.1 (by omega)
  ·simp [e] at hj; exact h C hC j hj
 ·exact h
theorem pass24_min {L : List Stmt} (hg : Good24 L) : ∀ k s, s.length = L.length → Min24 L s → Min24 L (pass24 L k s)
 | 0, s, _, h => h
 | k + 1, s, hl, h => stepB_min (by rw [stepA_len, pass24_len, hl]) (stepA_min hg (by rw [pass24_len, hl]) (pass24_min hg k s hl h))
/-- A step changes nothing, and then the set is closed there; or it adds an element. -/
theorem stepA_or {L : List Stmt} {s : List Bool} {i : Nat} (hg : Good24 L) (hl : s.length = L.length) : (stepA L s i = s ∧ (at24 s i = true → 0 ≤ to24 L i → at24 s (to24 L i).toNat = true)) ∨ cnt s < cnt (stepA L s i) := by
 unfold stepA
 split
 ·next hc =>
  have hi : i < L.length := by have := at24_lt hc.1; omega
  have ht : (to24 L i).toNat < s.length := by have := hg.lt i hi; omega
  rcases set_true ht with h | h
  ·left
   refine ⟨h, fun _ _ => ?_⟩
   rw [← h, at24_set _ _ _ ht]; simp
  ·exact .inr h
 ·next hc => exact .inl ⟨rfl, fun h1 h2 => absurd ⟨h1, h2⟩ hc⟩
theorem stepB_or {L : List Stmt} {s : List Bool} {i : Nat} : (stepB L s i = s ∧ (at24 s i = true → fall24 L i = true → i + 1 < s.length → at24 s (i + 1) = true)) ∨ cnt s < cnt (stepB L s i) := by
 unfold stepB
 split
 ·next hc =>
  rcases set_true hc.2.2 with h | h
  ·left
   refine ⟨h, fun _ _ _ => ?_⟩
   rw [← h, at24_set _ _ _ hc.2.2]; simp
  ·exact .inr h
 ·next hc => exact .inl ⟨rfl, fun h1 h2 h3 => absurd ⟨h1, h2, h3⟩ hc⟩
theorem stepA_cnt {L : List Stmt} {s : List Bool} {i : Nat} (hg : Good24 L) (hl : s.length = L.length) : cnt s ≤ cnt (stepA L s i) := by
 rcases stepA_or (i := i) hg hl with ⟨h, -⟩ | h
 ·rw [h]; exact Nat.le_refl _
 ·omega
theorem stepB_cnt {L : List Stmt} {s : List Bool} {i : Nat} : cnt s ≤ cnt (stepB L s i) := by
 rcases stepB_or (L := L) (s := s) (i := i) with ⟨h, -⟩ | h
 ·rw [h]; exact Nat.le_refl _
 ·omega
theorem pass24_or {L : List Stmt} (hg : Good24 L) : ∀ k s, s.length = L.length → (pass24 L k s = s ∧ ∀ i, i < k → at24 s i = true → (0 ≤ to24 L i → at24 s (to24 L i).toNat = true) ∧ (fall24 L i = true → i + 1 < s.length → at24 s (i + 1) = true)) ∨ cnt s < cnt (pass24 L k s)
 | 0, s, _ => .inl ⟨rfl, fun i h => by omega⟩
 | k + 1, s, hl => by
  have hl1 : (pass24 L k s).length = L.length := by rw [pass24_len, hl]
  have hl2 : (stepA L (pass24 L k s) k).length = L.length := by rw [stepA_len, hl1]
  rw [pass24]
  rcases pass24_or hg k s hl with ⟨h1, h2⟩ | h
  ·rw [h1] at hl1 hl2 ⊢
   rcases stepA_or (i := k) hg hl1 with ⟨h3, h4⟩ | h
   ·rw [h3] at hl2 ⊢
    rcases stepB_or (L := L) (s := s) (i := k) with ⟨h5, h6⟩ | h
    ·refine .inl ⟨h5, fun i hi hs => ?_⟩
     by_cases e : i < k
     ·exact h2 i e hs
     ·obtain rfl : i = k := by omega
      exact ⟨h4 hs, h6 hs⟩
    ·exact .inr h
   ·right
    have := stepB_cnt (L := L) (s := stepA L s k) (i := k)
    omega
  ·right
   have h7 := stepA_cnt (i := k) hg hl1
   have h8 := stepB_cnt (L := L) (s := stepA L (pass24 L k s) k) (i := k)
   omega
theorem zero24 {L : List Stmt} (hg : Good24 L) : ∀ r, at24 (rounds24 L r) 0 = true := by
 have hA : ∀ s i, at24 s 0 = true → at24 (stepA L s i) 0 = true := fun s i h => by
  unfold stepA; split
  ·by_cases hk : (to24 L i).toNat < s.length
   ·rw [at24_set _ _ _ hk, h]; simp
   ·rw [List.set_eq_of_length_le (by omega)]; exact h
  ·exact h
 have hB : ∀ s i, at24 s 0 = true → at24 (stepB L s i) 0 = true := fun s i h => by
  unfold stepB; split
  ·next hc => rw [at24_set _ _ _ hc.2.2, h]; simp
  ·exact h
 have hP : ∀ k s, at24 s 0 = true → at24 (pass24 L k s) 0 = true := fun k => by
  induction k with
  | zero => exact fun s h => h
  | succ k ih => exact fun s h => hB _ _ (hA _ _ (ih s h))
 intro r
 induction r with
 | zero => rw [rounds24, at24_set _ _ _ (by simpa using hg.pos)]; simp
 | succ r ih => exact hP _ _ ih
theorem rounds24_all {L : List Stmt} (hg : Good24 L) : ∀ r, Min24 L (rounds24 L r) ∧ (Clo24 L (at24 (rounds24 L r)) ∨ r + 1 ≤ cnt (rounds24 L r))
 | 0 => by
  constructor
  ·intro C hC i hi
   rw [rounds24, at24_set _ _ _ (by simpa using hg.pos)] at hi
   by_cases e : i = 0
   ·subst e; exact hC.1
   ·simp [e, at24, List.getD_eq_getElem?_getD, List.getElem?_replicate] at hi
    split at hi <;> simp at hi
  ·right
   rcases set_true (s := List.replicate L.length false) (k := 0) (by simpa using hg.pos) with h | h
   ·have h1 := at24_set (List.replicate L.length false) 0 0 (by simpa using hg.pos)
    rw [h] at h1
    simp [at24, List.getD_eq_getElem?_getD, List.getElem?_replicate] at h1
    split at h1 <;> simp at h1
   ·rw [rounds24]; omega
 | r + 1 => by
  obtain ⟨h1, h2⟩ := rounds24_all hg r
  have hl := rounds24_len L r
  refine ⟨pass24_min hg _ _ hl h1, ?_⟩
  rw [rounds24]
  rcases pass24_or hg L.length (rounds24 L r) hl with ⟨h3, h4⟩ | h
  ·left
   rw [h3]
   exact ⟨zero24 hg r, fun i hi hs => ⟨(h4 i hi hs).1, fun hf hlt => (h4 i hi hs).2 hf (by omega)⟩⟩
  ·rcases h2 with h2 | h2
   ·exfalso
    have hm := pass24_min hg L.length _ hl h1
    have h5 : rounds24 L r = pass24 L L.length (rounds24 L r) := by
     refine List.ext_getElem? fun i => ?_
     rcases pass24_or hg L.length (rounds24 L r) hl with ⟨h3, -⟩ | h6
     ·rw [h3]
     ·exact absurd h6 (by
       have : ∀ i, at24 (pass24 L L.length (rounds24 L r)) i = true → at24 (rounds24 L r) i = true := fun i hi => hm _ h2 i hi
       have hc : cnt (pass24 L L.length (rounds24 L r)) ≤ cnt (rounds24 L r) := by
        have hll : (pass24 L L.length (rounds24 L r)).length = (rounds24 L r).length := pass24_len ..
        generalize pass24 L L.length (rounds24 L r) = s at *
        generalize rounds24 L r = t at *
        clear hm h1 h2 h h6 hl
        induction s generalizing t with
        | nil => simp [cnt]
        | cons a s ih =>
         cases t with
         | nil => simp at hll
         | cons b t =>
          have h7 := ih t (fun i hi => by have := this (i + 1) (by simpa [at24] using hi); simpa [at24] using this) (by simpa using hll)
          have h8 := this 0
          simp only [at24, List.getD_cons_zero] at h8
          unfold cnt at *
          rw [List.countP_cons, List.countP_cons]
          cases a <;> cases b <;> simp at h8 ⊢ <;> omega
       omega)
    rw [← h5] at h
    omega
   ·right; omega
theorem ref24_reach {L : List Stmt} (hg : Good24 L) : Min24 L (rounds24 L L.length) ∧ Clo24 L (at24 (rounds24 L L.length)) := by
 obtain ⟨h1, h2⟩ := rounds24_all hg L.length
 refine ⟨h1, h2.resolve_right fun h => ?_⟩
 have h3 := cnt_le (rounds24 L L.length)
 rw [rounds24_len] at h3
 omega

/-- The search of the program. -/
structure Dfs (L : List Stmt) (work : List Nat) (s : List Bool) : Prop where
 len : s.length = L.length
 wlt : ∀ x ∈ work, x < L.length
 zero : 0 ∈ work ∨ at24 s 0 = true
 min : Min24 L s
 wmin : ∀ C, Clo24 L C → ∀ x ∈ work, C x = true
 clo : ∀ i, at24 s i = true → (0 ≤ to24 L i → (to24 L i).toNat ∈ work ∨ at24 s (to24 L i).toNat = true) ∧ (fall24 L i = true → i + 1 < L.length → (i + 1) ∈ work ∨ at24 s (i + 1) = true)
theorem Dfs.start {L : List Stmt} (hg : Good24 L) : Dfs L [0] (List.replicate L.length false) := by
 have hz : ∀ i, at24 (List.replicate L.length false) i = false := fun i => by
  simp [at24, List.getD_eq_getElem?_getD, List.getElem?_replicate]
  split <;> simp
 refine ⟨by simp, by simpa using hg.pos, .inl (by simp), fun C _ i hi => ?_, fun C hC x hx => ?_, fun i hi => ?_⟩
 ·rw [hz] at hi; cases hi
 ·obtain rfl : x = 0 := by simpa using hx
  exact hC.1
 ·rw [hz] at hi; cases hi
theorem Dfs.seen {L : List Stmt} {work : List Nat} {i : Nat} {s : List Bool} (h : Dfs L (work ++ [i]) s) (hs : at24 s i = true) : Dfs L work s := by
 have hm : ∀ x, x ∈ work ++ [i] ∨ at24 s x = true → x ∈ work ∨ at24 s x = true := fun x hx => by
  rcases hx with hx | hx
  ·rcases List.mem_append.1 hx with hx | hx
   ·exact .inl hx
   ·obtain rfl : x = i := by simpa using hx
    exact .inr hs
  ·exact .inr hx
 exact ⟨h.len, fun x hx => h.wlt x (by simp [hx]), hm 0 h.zero, h.min, fun C hC x hx => h.wmin C hC x (by simp [hx]), fun j hj => ⟨fun h0 => hm _ ((h.clo j hj).1 h0), fun hf hl => hm _ ((h.clo j hj).2 hf hl)⟩⟩
theorem Dfs.new {L : List Stmt} {work w2 : List Nat} {i : Nat} {s : List Bool} (hg : Good24 L) (h : Dfs L (work ++ [i]) s)
  (hin : ∀ x ∈ w2, x ∈ work ∨ (0 ≤ to24 L i ∧ x = (to24 L i).toNat) ∨ (fall24 L i = true ∧ x = i + 1 ∧ i + 1 < L.length)) (hw : ∀ x ∈ work, x ∈ w2) (hj : 0 ≤ to24 L i → (to24 L i).toNat ∈ w2) (hf : fall24 L i = true → i + 1 < L.length → (i + 1) ∈ w2) : Dfs L w2 (s.set i true) := by
 have hi : i < L.length := h.wlt i (by simp)
 have his : i < s.length := by rw [h.len]; exact hi
 have hC0 : ∀ C, Clo24 L C → C i = true := fun C hC => h.wmin C hC i (by simp)
 have hm : ∀ x, x ∈ work ++ [i] ∨ at24 s x = true → x ∈ w2 ∨ at24 (s.set i true) x = true := fun x hx => by
  rw [at24_set _ _ _ his]
  rcases hx with hx | hx
  ·rcases List.mem_append.1 hx with hx | hx
   ·exact .inl (hw x hx)
   ·obtain rfl : x = i := by simpa using hx
    right; simp
  ·right; simp [hx]
 refine ⟨by rw [List.length_set]; exact h.len, fun x hx => ?_, hm 0 h.zero, fun C hC j hj => ?_, fun C hC x hx => ?_, fun j hj' => ?_⟩
 ·rcases hin x hx with h1 | ⟨h1, rfl⟩ | ⟨_, rfl, h1⟩
  ·exact h.wlt x (by simp [h1])
  ·have := hg.lt i hi; omega
  ·exact h1
 ·rw [at24_set _ _ _ his] at hj
  by_cases e : j = i
  ·subst e; exact hC0 C hC
  ·simp [e] at hj; exact h.min C hC j hj
 ·rcases hin x hx with h1 | ⟨h1, rfl⟩ | ⟨h1, rfl, h2⟩
  ·exact h.wmin C hC x (by simp [h1])
  ·exact (hC.2 i hi (hC0 C hC)).1 h1
  ·exact (hC.2 i hi (hC0 C hC)).2 h1 h2
 ·rw [at24_set _ _ _ his] at hj'
  by_cases e : j = i
  ·subst e; exact ⟨fun h0 => .inl (hj h0), fun h1 h2 => .inl (hf h1 h2)⟩
  ·simp [e] at hj'
   exact ⟨fun h0 => hm _ ((h.clo j hj').1 h0), fun h1 h2 => hm _ ((h.clo j hj').2 h1 h2)⟩
theorem Dfs.done {L : List Stmt} {s : List Bool} (hg : Good24 L) (h : Dfs L [] s) : s = rounds24 L L.length := by
 obtain ⟨h1, h2⟩ := ref24_reach hg
 refine reach24_eq (L := L) (by rw [h.len, rounds24_len]) ⟨h.zero.resolve_left (by simp), fun i _ hi => ⟨fun h0 => ((h.clo i hi).1 h0).resolve_left (by simp), fun hf hl => ((h.clo i hi).2 hf hl).resolve_left (by simp)⟩⟩ h2 h.min h1
theorem good24 {M : List Def} {L : List Stmt} (h : (pchk M L).2 = 0) (hp : 0 < L.length) : Good24 L := by
 refine ⟨hp, fun i hi => ?_⟩
 unfold to24
 split
 ·next hn => exact (lab_in h hi hn).2
 ·omega
theorem pchk_pos {M : List Def} {L : List Stmt} (h : (pchk M L).2 = 0) : 0 < L.length := by
 have h1 := pchk_all h (if L.length = 0 then (0, 15) else (0, 0)) (by simp [prRs])
 refine Nat.pos_of_ne_zero fun e => ?_
 rw [if_pos e] at h1
 cases h1
theorem fall_lt {M : List Def} {L : List Stmt} (h : (pchk M L).2 = 0) {i : Nat} (hi : i < L.length) (hf : fall24 L i = true) : i + 1 < L.length := by
 refine Nat.lt_of_not_le fun hle => ?_
 have h1 := findS_zero (pchk_all h (findS (enE L.length) L) (by simp [prRs])) i hi
 unfold fall24 at hf
 unfold enE at h1
 rw [show i + 1 = L.length by omega, hf] at h1
 simp [whenN] at h1
theorem idB_ne {s : ByteArray} (h : idB s = true) : neS s = true := by
 unfold neS
 rw [decide_eq_true_iff]
 intro e
 subst e
 revert h
 decide +kernel
theorem jump_ne {M : List Def} {L : List Stmt} (h : (pchk M L).2 = 0) {i : Nat} (hi : i < L.length) : neS (L.getD i default).target = jumpsX (L.getD i default).ins := by
 have h1 := tailB_zero (stmtE_zero (pchk_stmt h i hi)).2.2
 cases hj : jumpsX (L.getD i default).ins with
 | true => exact idB_ne (h1.tid hj)
 | false => exact h1.tgt hj
end Go.Proofs.YtmnbalbiehlkpaaGreatDoor


set_option linter.unusedVariables false
set_option linter.unusedSimpArgs false
namespace Go.Proofs.YtmnbalbiehlkpaaGreatDoor
open Go.RowKit Go.Lib

/-- An instruction with the index of its map. -/
def ins24 (M : List Def) (L : List Stmt) (i : Nat) : Ins := if neS (L.getD i default).map then { (L.getD i default).ins with imm := mapX M (L.getD i default).map } else (L.getD i default).ins
def code24 (M : List Def) (L : List Stmt) : List Ins := (List.range L.length).map (ins24 M L)
def tos24 (L : List Stmt) : List Int := (List.range L.length).map (to24 L)
theorem labX_bd (L : List Stmt) (s : ByteArray) : -1 ≤ labX L s ∧ labX L s < L.length := by
  unfold labX
  cases h : labAt L s with
  | none => simp; omega
  | some i =>
    have := labI_bd L 0 (fun _ => none) s L.length (by omega) (fun i h => by cases h) i h
    simp; omega
theorem to24_bd (L : List Stmt) (i : Nat) : -1 ≤ to24 L i ∧ to24 L i < L.length := by
  unfold to24
  split
  · exact labX_bd _ _
  · omega
theorem ins24_ok {M : List Def} {L : List Stmt} {m : Nat} (hL : ∀ x ∈ codeL L, x.Ok) (hm : m = L.length) (hM : M.length ≤ 1000000) : ∀ x ∈ (List.range m).map (ins24 M L), x.Ok := by
  intro x hx
  obtain ⟨k, hk, rfl⟩ := List.mem_map.1 hx
  have hk' : k < L.length := by rw [← hm]; simpa using hk
  have hg : L[k]? = some (L.getD k default) := by rw [List.getD_eq_getElem?_getD, List.getElem?_eq_getElem hk']; rfl
  have ho := hL _ (List.mem_of_getElem? (codeL_get hg))
  unfold ins24
  split
  · have h1 := mapX_bd M (L.getD k default).map
    exact ⟨ho.op, ho.dst, ho.src, ho.off, by unfold I64; dsimp only; omega⟩
  · exact ho
set_option maxRecDepth 40000 in
set_option maxHeartbeats 16000000 in
theorem refCode24_any (A1 A2 : Option Addr) (m1 c1 m c2 : Nat) (M : List Def) (L : List Stmt) (w : World) (hm1 : m1 = M.length) (hm1l : m1 ≤ 100000) (hm : m = L.length) (hml : m ≤ 1000000) (hd : IsDefs w (.slice A1 m1 c1) M) (hv : IsStmts w (.slice A2 m c2) L) (hfl : (flat L).length ≤ 1000000) :
    Calls Tryz.prog 22 #[.agg #[.slice A1 m1 c1, .slice A2 m c2]] w fun e w' => ∃ v1 v2, e = .returned (.tuple #[v1, v2]) ∧ IsIns w' v1 (code24 M L) ∧ IsInts w' v2 (tos24 L) ∧ Ext w w' := by
  obtain ⟨W0, hW0⟩ : ∃ W0, W0 = w.alloc (.cells #[.slice A1 m1 c1, .slice A2 m c2] 25) := ⟨_, rfl⟩
  have e0 : Ext w W0 := by rw [hW0]; exact Ext.new w _
  have rP : RowV W0 w.heap.size 25 [.slice A1 m1 c1, .slice A2 m c2] := by rw [hW0]; exact RowV.new _ _ _
  have HLA := hx fun (s : ByteArray) (W : World) (hW : Ext w W) => refLabel_any A1 A2 m1 c1 m c2 L s W hm hml (IsStmts.ext hv hW) hfl
  have HMA := hx fun (s : ByteArray) (W : World) (hW : Ext w W) => refMap_any A1 A2 m1 c1 m c2 M s W hm1 (by omega) (IsDefs.ext hd hW)
  have HOK := hx (ins24_ok (m := m) (M := M) (stmts_ok hv) hm (by omega))
  have hC : code24 M L = (List.range m).map (ins24 M L) := by rw [hm]; rfl
  have hT : tos24 L = (List.range m).map (to24 L) := by rw [hm]; rfl
  have HTB := hx (to24_bd L)
  rw [hC, hT]
  have HM := hx hm
  have HW0 := hx hW0
  have E0 := hx e0
  have RP := hx rP
  have HB0 := hx rP.lt
  clear hm hm1 hfl hC hT hd e0
  go_enter Tryz.func22, Tryz.ntmps22
  go_wp2
  rw [← hW0]
  clear hW0
  go_loopw [4, 5, 6] (fun vn vi i wr => ∃ k : Nat, k ≤ m ∧ i = .int .i64 (k : Nat) ∧ OwnN wr (w.heap.size + 1) vn ((List.range k).map (ins24 M L)) ∧ OwnI wr (w.heap.size + 1) vi ((List.range k).map (to24 L)) ∧ Ext W0 wr) (fun _ _ i _ => m - (RowKit.intOf i).toNat)
  case atStart => exact ⟨0, by omega, rfl, Own.nil _ _ _ _ _, Own.nil _ _ _ _ _, Ext.refl _⟩
  case round =>
    clear rP
    obtain ⟨k, hk, rfl, os, oi, he⟩ := hrel
    obtain ⟨As, cs, rfl⟩ := os.slice
    obtain ⟨Ai, ci, rfl⟩ := oi.slice
    have r2 := RP.out.ext he
    by_cases hlt : k < m
    · obtain ⟨s, hs0⟩ : ∃ s, L[k]? = some s := ⟨_, List.getElem?_eq_getElem (by rw [← HM.out]; exact hlt)⟩
      have hg : L.getD k default = s := by rw [List.getD_eq_getElem?_getD, hs0]; rfl
      obtain ⟨b, o, hAA, vl, d0, dl, ⟨d1, d2, d3, d4, d5, d6⟩, dok, ⟨d7, d7'⟩, d8, d8'⟩ := (IsStmts.ext hv (E0.out.trans he)).get hs0
      subst hAA
      have hkm : (k : Int) < (m : Int) := by omega
      have q1 := r2.cell (i := 1) rfl
      have q0 := r2.cell (i := 0) rfl
      have hrx : ins24 M L k = if neS s.map then { s.ins with imm := mapX M s.map } else s.ins := by unfold ins24; rw [hg]
      have htx : to24 L k = if neS s.target then labX L s.target else -1 := by unfold to24; rw [hg]
      have hrr : (List.range (k + 1)).map (ins24 M L) = (List.range k).map (ins24 M L) ++ [ins24 M L k] := by rw [List.range_succ, List.map_append]; rfl
      have htt : (List.range (k + 1)).map (to24 L) = (List.range k).map (to24 L) ++ [to24 L k] := by rw [List.range_succ, List.map_append]; rfl
      have H48 := hx (show (((List.range k).map (ins24 M L)).length + 1) * 48 ≤ 140737488355328 by rw [List.length_map, List.length_range]; omega)
      have H8 := hx (show (((List.range k).map (to24 L)).length + 1) * 8 ≤ 140737488355328 by rw [List.length_map, List.length_range]; omega)
      have HRX := hx hrx
      have HTX := hx htx
      have HRR := hx hrr
      have HTT := hx htt
      have HLT := hx hlt
      obtain ⟨labels, ⟨op, reg, n1', n2', n3', n4'⟩, tt, tm⟩ := s
      dsimp only at *
      generalize (List.range k).map (ins24 M L) = RK at *
      generalize (List.range k).map (to24 L) = TK at *
      clear hrx htx hrr htt hlt hs0 hg dl dok d7' d8' d0
      have HE := hx he
      have OS := hx os
      have OI := hx oi
      have HBS := hx (Nat.le_trans HB0.out he.size)
      clear he os oi
      go_upto_region 7 with fail
      obtain ⟨W1, hW1⟩ : ∃ W1, W1 = wr.alloc (.cells #[.int .i64 op, .bool reg, .int .i64 n1', .int .i64 n2', .int .i64 n3', .int .i64 n4'] 53) := ⟨_, rfl⟩
      rw [← hW1]
      have x1 : Ext wr W1 := by rw [hW1]; exact Ext.new wr _
      have rx1 : RowV W1 wr.heap.size 53 [.int .i64 op, .bool reg, .int .i64 n1', .int .i64 n2', .int .i64 n3', .int .i64 n4'] := by rw [hW1]; exact RowV.new _ _ _
      have q1' := x1.cell q1
      have q0' := x1.cell q0
      have d7' := x1.cell d7
      have d8' := x1.cell d8
      have RX1 := hx rx1
      have X1 := hx x1
      have L5 := hx fun (W : World) (h : Ext wr W) => And.intro (h.cell q0) (And.intro (h.cell q1) (And.intro (h.cell d7) (h.cell d8)))
      clear hW1 q1 q0 d1 d2 d3 d4 d5 d6 d7 d8 r2
      have hd2 : Ext W1 W1.drew := (Ext.refl W1).drew
      have hr0 : Ext W1 W1 := Ext.refl W1
      obtain ⟨I, hI⟩ : ∃ I, I = if neS tm then mapX M tm else n4' := ⟨_, rfl⟩
      obtain ⟨T, hT⟩ : ∃ T, T = if neS tt then labX L tt else -1 := ⟨_, rfl⟩
      have HI := hx hI
      have HT := hx hT
      have HLB := hx (show ∀ W, Ext W1 W → Calls Tryz.prog 46 #[.agg #[.slice A1 m1 c1, .slice (some ⟨b, o, none⟩) m c2], .string tt] W (fun e w' => e = .returned (.int .i64 (labX L tt)) ∧ Ext W w') from fun W hW => HLA.out tt W ((E0.out.trans (HE.out.trans X1.out)).trans hW))
      have HMB := hx (show ∀ W, Ext W1 W → Calls Tryz.prog 47 #[.agg #[.slice A1 m1 c1, .slice (some ⟨b, o, none⟩) m c2], .string tm] W (fun e w' => e = .returned (.int .i64 (mapX M tm)) ∧ Ext W w') from fun W hW => HMA.out tm W ((E0.out.trans (HE.out.trans X1.out)).trans hW))
      have HLD := HLA
      clear hI hT HLA HMA
      go_cut [28] (fun s28 wx => s28 = .bool (neS tm) ∧ wx = W1)
      case first =>
        by_cases hmm : tm = emS
        · subst hmm
          have u1 := em_list
          have u2 := em_isE
          go_wp2
          go_meet
          exact ⟨by simp [neS], rfl⟩
        · have u1 := ne_list hmm
          have u2 := ne_isE hmm
          go_wp2
          go_meet
          exact ⟨by simp [neS, hmm], rfl⟩
      case rest =>
      obtain ⟨rfl, hwc⟩ := hcut
      rw [hwc]
      clear hwc
      go_upto_if 28 with fail
      go_cut [7] (fun s7 wx => s7 = .pointer (some ⟨wr.heap.size, 0, none⟩) ∧ RowV wx wr.heap.size 53 [.int .i64 op, .bool reg, .int .i64 n1', .int .i64 n2', .int .i64 n3', .int .i64 I] ∧ Ext wr wx)
      case first =>
        cases hmm : neS tm with
        | false =>
          have hi : I = n4' := HI.out.trans (if_neg (by simp [hmm]))
          subst hi
          go_wp2
          go_meet
          exact ⟨rfl, rx1, x1⟩
        | true =>
          have hi : I = mapX M tm := HI.out.trans (if_pos hmm)
          subst hi
          go_upto_region 8 with fail
          go_region_held3 (fun w' => w'.cell? ⟨w.heap.size, 0, none⟩ = some (.slice A1 m1 c1) ∧ w'.cell? ⟨w.heap.size, 1, none⟩ = some (.slice (some ⟨b, o, none⟩) m c2) ∧ w'.cell? ⟨b, o + k * 9 + 7, none⟩ = some (.string tt) ∧ w'.cell? ⟨b, o + k * 9 + 8, none⟩ = some (.string tm)) (first | exact L5.out _ (X1.out.trans (by assumption)) | exact L5.out _ (Ext.setCell (X1.out.trans (by assumption)) _ (Nat.le_refl _)))
            (first
              | (go_at_call 47; refine (HMB.out _ (by assumption)).mono ?_; rintro e wA ⟨rfl, eA⟩; have fA : Ext W1 wA := Ext.trans (by assumption) eA; have rA := RX1.out.ext fA; have zA := rA.cell (i := 5) rfl; have zF := rA.frozen 5; clear HMB))
          all_goals
            go_wp2
            go_meet
            exact ⟨rfl, rA.set 5 (.int .i64 (mapX M tm)), Ext.setCell (X1.out.trans (by assumption)) _ (Nat.le_refl _)⟩
      case rest =>
        obtain ⟨rfl, rx6, x6⟩ := hcut
        obtain ⟨wx, hwx⟩ : ∃ x, x = wc := ⟨_, rfl⟩
        subst hwx
        have q0x := (L5.out _ x6).1
        have q1x := (L5.out _ x6).2.1
        have d7x := (L5.out _ x6).2.2.1
        have hd3 : Ext wx wx.drew := (Ext.refl wx).drew
        have hr3 : Ext wx wx := Ext.refl wx
        have X6 := hx x6
        have RX6 := hx rx6
        clear q0' q1' d7' d8' hd2 hr0 rx1 x1 rx6 x6 HMB
        have HLC := hx (show ∀ W, Ext wx W → Calls Tryz.prog 46 #[.agg #[.slice A1 m1 c1, .slice (some ⟨b, o, none⟩) m c2], .string tt] W (fun e w' => e = .returned (.int .i64 (labX L tt)) ∧ Ext W w') from fun W hW => HLD.out tt W ((E0.out.trans (HE.out.trans X6.out)).trans hW))
        clear HLB HLD
        go_upto_region 10 with fail
        go_cut [44] (fun s44 wy => s44 = .bool (neS tt) ∧ wy = wx)
        case first =>
          by_cases htt : tt = emS
          · subst htt
            have u1 := em_list
            have u2 := em_isE
            go_wp2
            go_meet
            exact ⟨by simp [neS], rfl⟩
          · have u1 := ne_list htt
            have u2 := ne_isE htt
            go_wp2
            go_meet
            exact ⟨by simp [neS, htt], rfl⟩
        case rest =>
        obtain ⟨rfl, hwc⟩ := hcut
        rw [hwc]
        clear hwc
        go_upto_if 44 with fail
        go_cut [8] (fun s8 wy => s8 = .int .i64 T ∧ Ext wx wy)
        case first =>
          cases htt : neS tt with
          | false =>
            have hi : T = -1 := HT.out.trans (if_neg (by simp [htt]))
            subst hi
            go_wp2
            go_meet
            exact ⟨rfl, Ext.refl _⟩
          | true =>
            have hi : T = labX L tt := HT.out.trans (if_pos htt)
            subst hi
            go_upto_region 11 with fail
            go_region_held3 (fun w' => w'.cell? ⟨w.heap.size, 0, none⟩ = some (.slice A1 m1 c1) ∧ w'.cell? ⟨w.heap.size, 1, none⟩ = some (.slice (some ⟨b, o, none⟩) m c2) ∧ w'.cell? ⟨b, o + k * 9 + 7, none⟩ = some (.string tt) ∧ w'.cell? ⟨b, o + k * 9 + 8, none⟩ = some (.string tm)) (exact L5.out _ (X6.out.trans (by assumption)))
              (first
                | (go_at_call 46; refine (HLC.out _ (by assumption)).mono ?_; rintro e wA ⟨rfl, eA⟩; have fA : Ext wx wA := Ext.trans (by assumption) eA; clear HLC))
            all_goals
              go_wp2
              go_meet
              exact ⟨rfl, by assumption⟩
        case rest =>
          obtain ⟨rfl, x7⟩ := hcut
          obtain ⟨wy, hwy⟩ : ∃ x, x = wc := ⟨_, rfl⟩
          subst hwy
          have rx7 := RX6.out.ext x7
          have X7 := hx (X6.out.trans x7)
          have os7 := OS.out.ext X7.out
          have oi7 := OI.out.ext X7.out
          have HS7 := hx (Nat.le_trans HBS.out X7.out.size)
          have y0 := rx7.cell (i := 0) rfl
          have y1 := rx7.cell (i := 1) rfl
          have y2 := rx7.cell (i := 2) rfl
          have y3 := rx7.cell (i := 3) rfl
          have y4 := rx7.cell (i := 4) rfl
          have y5 := rx7.cell (i := 5) rfl
          have x8 := HE.out.trans X7.out
          have hne := Own.type_ne oi7 os7 (by decide)
          have HII := hx (HRX.out.trans (show _ = (⟨op, reg, n1', n2', n3', I⟩ : Ins) by rw [HI.out]; split <;> rfl))
          have HTI := hx (HTX.out.trans HT.out.symm)
          clear q0x q1x d7x hd3 hr3 HLC rx7 x7 L5
          have HWS := hx (show W0.heap.size = w.heap.size + 1 by rw [HW0.out]; simp)
          go_wp2_with (first
            | (at_builtin; refine wp_app1 tyN encN_ok os7 ⟨op, reg, n1', n2', n3', I⟩ rfl rfl rfl rfl rfl HS7.out (by decide) H48.out ?_; intro g1 cap1 w3 os3 hg3 hat3 hbg3
               have oi8 := Own.kept oi7 hg3 hne
               have x9 := x8.grown hg3 (fun k hk => by have := os7.base_le k hk; have := HWS.out; omega)
               have HS8 := hx (Nat.le_trans HS7.out hg3.size)
               clear os7 oi7 hg3 hat3 x8 hne)
            | (at_builtin; refine wp_app1 tyI encI_ok oi8 T rfl rfl rfl rfl rfl HS8.out (by decide) H8.out ?_; intro g2 cap2 w4 os4 hg4 hat4 hbg4
               have os5 := Own.kept os3 hg4 (Own.type_ne os3 oi8 (by decide))
               have x10 := x9.grown hg4 (fun k hk => by have := oi8.base_le k hk; have := HWS.out; omega)
               clear oi8 os3 hg4 hat4 x9))
          go_roundw
          case rel => exact ⟨k + 1, by have := HLT.out; omega, by go_num, by rw [HRR.out, HII.out]; exact os5, by rw [HTT.out, HTI.out]; exact os4, x10⟩
          case measure => simp [RowKit.intOf]; have := HLT.out; omega
    · obtain rfl : m = k := by omega
      have q1 := r2.cell (i := 1) rfl
      have OS := hx os
      have OI := hx oi
      have HE := hx he
      clear os oi he r2 hlt
      go_wp2
      go_ret2
      refine ⟨_, _, rfl, ?_, ?_, E0.out.trans HE.out⟩
      · exact OS.out.read encN_ok (E := EIns) (by rw [List.length_map, List.length_range]; omega) fun x hx b o h => ⟨⟨by simpa using h 0 _ rfl, h 1 _ rfl, h 2 _ rfl, h 3 _ rfl, h 4 _ rfl, h 5 _ rfl⟩, HOK.out x hx⟩
      · exact OI.out.read (by
          intro x hx
          obtain ⟨i, hi, rfl⟩ := List.mem_map.1 hx
          have h1 := HTB.out i
          have h2 := HM.out
          unfold I64; omega) (by simp; omega)
end Go.Proofs.YtmnbalbiehlkpaaGreatDoor
