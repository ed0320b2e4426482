/- The layer slot: All of the program. -/
import Derived.Test.YtmnbalbiehlkpaaGreatDoorJObj
import Derived.Test.YtmnbalbiehlkpaaGreatDoorJNumsB
import Derived.Deep.QuietTactic
import Derived.BigQuiet
import Derived.Maps.OwnOps
import Derived.Maps.OwnSet
import Derived.Deep.DeepCutAuto
import Derived.Test.YtmnbalbiehlkpaaGreatDoorJRepP
import Derived.Test.YtmnbalbiehlkpaaGreatDoorJRulG
import Derived.Test.YtmnbalbiehlkpaaGreatDoorJRefChkE
set_option linter.unusedVariables false
set_option linter.unusedSimpArgs false
namespace Go.Proofs.YtmnbalbiehlkpaaGreatDoor
open Go.RowKit Go.Lib Go.Shelf Go.Proofs
attribute [local go_sem] Oper.semAt_some

/-- Behind so many steps: the place, and the first error with its place. -/
def sumN (l : List (Ins × Int × Int)) : Int := (l.map (·.2.1)).sum
structure AllI (w : World) (B : Nat) (pre : List (Ins × Int × Int)) (W : World) : Prop where
 ok : ∀ x ∈ pre, x.2.2 = 0
 sz : w.heap.size + 6 ≤ W.heap.size
 b1 : Boxed W B 72 (.slice none 0 0)
 b2 : Boxed W (B + 1) 3 (.int .i64 0)
 b3 : Boxed W (B + 1 + 1) 36 (.int .i64 0)
 b4 : ∃ v, Boxed W (B + 1 + 1 + 1) 72 v ∧ OwnN W (B + 1 + 1 + 1 + 1 + 1 + 1) v (pre.map (·.1))
 b5 : Boxed W (B + 1 + 1 + 1 + 1) 3 (.int .i64 (sumN pre))
 ext : Ext w W
structure AllX (w : World) (B : Nat) (c : Code) (pre : List (Ins × Int × Int)) (W : World) : Prop where
 c : c = .ret
 bad : ∃ p x, pre = p ++ [x] ∧ (∀ x ∈ p, x.2.2 = 0) ∧ x.2.2 ≠ 0 ∧ Boxed W (B + 1) 3 (.int .i64 (sumN p)) ∧ Boxed W (B + 1 + 1) 36 (.int .i64 x.2.2)
 b1 : Boxed W B 72 (.slice none 0 0)
 ext : Ext w W
theorem own_neV {α : Type} {e t : TypeId} {sz : Nat} {enc : α → List Value} {w : World} {B g : Nat} {v : Value} {l : List α} {xs : List Value} (h : Own e sz enc w B v l) (hne : e ≠ t) (k : RowV w g t xs) : some g ≠ v.ownBlock := by
 rcases h.2 with ⟨rfl, _⟩ | ⟨g', cap', cur', rfl, _, hh', _⟩
 ·simp [Value.ownBlock]
 ·intro he
  have : g = g' := by simpa [Value.ownBlock] using he
  subst this
  unfold RowV at k
  rw [hh'] at k
  injection k with k
  injection k with _ ht
  exact hne ht
end Go.Proofs.YtmnbalbiehlkpaaGreatDoor


set_option linter.unusedVariables false
set_option linter.unusedSimpArgs false
namespace Go.Proofs.YtmnbalbiehlkpaaGreatDoor
open Go.RowKit Go.Lib Go.Shelf Go.Proofs
attribute [local go_sem] Oper.semAt_some

def endY (l : List (Int × Int)) : Int := (l.getLast?.map (·.2)).getD 0
structure LayI (w : World) (B : Nat) (pre : List (Int × Int)) (W : World) : Prop where
 sz : w.heap.size + 3 ≤ W.heap.size
 b4 : ∃ v, Boxed W B 43 v ∧ OwnI W (B + 1 + 1 + 1) v (pre.map (·.1))
 b5 : Boxed W (B + 1) 3 (.int .i64 (endY pre))
 ext : Ext w W
end Go.Proofs.YtmnbalbiehlkpaaGreatDoor


set_option linter.unusedVariables false
set_option linter.unusedSimpArgs false
namespace Go.Proofs.YtmnbalbiehlkpaaGreatDoor
open Go.RowKit

end Go.Proofs.YtmnbalbiehlkpaaGreatDoor


set_option linter.unusedVariables false
set_option linter.unusedSimpArgs false
namespace Go.Proofs.YtmnbalbiehlkpaaGreatDoor
open Go.RowKit

end Go.Proofs.YtmnbalbiehlkpaaGreatDoor


set_option linter.unusedVariables false
set_option linter.unusedSimpArgs false
namespace Go.Proofs.YtmnbalbiehlkpaaGreatDoor
open Go.RowKit

end Go.Proofs.YtmnbalbiehlkpaaGreatDoor


set_option linter.unusedVariables false
set_option linter.unusedSimpArgs false
namespace Go.Proofs.YtmnbalbiehlkpaaGreatDoor
open Go.RowKit Go.Lib

theorem zeroInt (w : World) : (zeroValue 3).run Tryz.prog w = .ok (.int .i64 0) w := by
 have h : (Tryz.prog.info? 3).map (fun i => i.zero) = some (some (.int .i64 0)) := by kernel_rfl
 obtain ⟨i, hi, hz⟩ := Option.map_eq_some_iff.1 h
 simp [zeroValue, typeInfo, hi, hz]
def keyI (x : Int) : Lit := .int .i64 x
theorem keyI_wf {x : Int} (h : I64 x) : (Lit.int .i64 x).wf = true := WalkArith.wf_i64 h
/-- A map from numbers to numbers, with what it has at each. -/
def MapI (w : World) (b n : Nat) (p : Int → Option Int) : Prop :=
 ∃ D : DataW Unit, w.ownsMap Tryz.prog 3 (plainElem Tryz.prog 3) b n D ∧ ∀ s, Maps.has D (keyI s) = (p s).isSome ∧ D.atKey (keyI s) (.lit (.int .i64 0)) = .lit (.int .i64 ((p s).getD 0))
theorem MapI.made (w : World) : MapI (w.alloc (.map #[] 0)) w.heap.size 0 (fun _ => none) := ⟨.map [], World.ownsMap_made _ _ _ _, fun s => ⟨rfl, rfl⟩⟩
theorem MapI.ext {w w' : World} {b n : Nat} {p : Int → Option Int} (h : MapI w b n p) (he : Ext w w') : MapI w' b n p := by
 obtain ⟨D, h1, h2⟩ := h
 exact ⟨D, h1.kept (he.toGrown none) (by simp), h2⟩
theorem MapI.kept {w w' : World} {row : Option Nat} {b n : Nat} {p : Int → Option Int} (h : MapI w b n p) (hg : w.grownBy w' row) (hne : some b ≠ row) : MapI w' b n p := by
 obtain ⟨D, h1, h2⟩ := h
 exact ⟨D, h1.kept hg hne, h2⟩
end Go.Proofs.YtmnbalbiehlkpaaGreatDoor


set_option linter.unusedVariables false
set_option linter.unusedSimpArgs false
namespace Go.Proofs.YtmnbalbiehlkpaaGreatDoor
open Go.RowKit Go.Lib

theorem SetS.kept {w w' : World} {row : Option Nat} {b n : Nat} {p : ByteArray → Bool} (h : SetS w b n p) (hg : w.grownBy w' row) (hne : some b ≠ row) : SetS w' b n p := by
 obtain ⟨D, h1, h2⟩ := h
 exact ⟨D, h1.kept hg hne, h2⟩
/-- A map from texts to numbers, with what it has at each. -/
def MapS (w : World) (b n : Nat) (p : ByteArray → Option Int) : Prop :=
 ∃ D : DataW Unit, w.ownsMap Tryz.prog 9 (plainElem Tryz.prog 3) b n D ∧ ∀ s, Maps.has D (keyS s) = (p s).isSome ∧ D.atKey (keyS s) (.lit (.int .i64 0)) = .lit (.int .i64 ((p s).getD 0))
theorem MapS.made (w : World) : MapS (w.alloc (.map #[] 0)) w.heap.size 0 (fun _ => none) := ⟨.map [], World.ownsMap_made _ _ _ _, fun s => ⟨rfl, rfl⟩⟩
theorem MapS.ext {w w' : World} {b n : Nat} {p : ByteArray → Option Int} (h : MapS w b n p) (he : Ext w w') : MapS w' b n p := by
 obtain ⟨D, h1, h2⟩ := h
 exact ⟨D, h1.kept (he.toGrown none) (by simp), h2⟩
theorem MapS.kept {w w' : World} {row : Option Nat} {b n : Nat} {p : ByteArray → Option Int} (h : MapS w b n p) (hg : w.grownBy w' row) (hne : some b ≠ row) : MapS w' b n p := by
 obtain ⟨D, h1, h2⟩ := h
 exact ⟨D, h1.kept hg hne, h2⟩
set_option maxRecDepth 20000 in
theorem MapS.look {w : World} {b n : Nat} {p : ByteArray → Option Int} (h : MapS w b n p) (s : ByteArray) (hs : s.size ≤ 140737488355328) :
  (Instr.lookup 86 (.map (some b)) (.string s) true).run Tryz.prog w = .ok (.tuple #[.int .i64 ((p s).getD 0), .bool (p s).isSome]) w := by
 obtain ⟨D, h1, h2⟩ := h
 obtain ⟨v, ps, hr, hv⟩ := h1.look_ok (Maps.string_keyed Tryz.underlying9) Tryz.underlying86 (zeroInt w) (plainElem_int Tryz.underlying3 (by decide)) (WideMaps.keyOf_string_mk Tryz.underlying9 (s := s) (by simp only [maxLen]; omega))
 obtain ⟨c, rfl, hc, _⟩ := plainElem_int_inv Tryz.underlying3 hv
 have h3 := congrArg Prod.fst hc
 have h4 := (h2 s).2
 unfold keyS at h4
 rw [h4] at h3
 injection h3 with h3
 injection h3 with _ h3
 rw [hr, ← h3, ← (h2 s).1]
 rfl
set_option maxRecDepth 20000 in
theorem MapS.upd {w : World} {b n : Nat} {p : ByteArray → Option Int} (h : MapS w b n p) (s : ByteArray) (x : Int) (hs : s.size ≤ 140737488355328) (hxx : I64 x) (hn : n < 1000000000) :
  ∃ w', (Instr.mapUpdate 86 (.map (some b)) (.string s) (.int .i64 x)).run Tryz.prog w = .ok () w' ∧ MapS w' b (n + 1) (fun y => if y = s then some x else p y) ∧ w.grownBy w' (some b) := by
 obtain ⟨D, h1, h2⟩ := h
 obtain ⟨w', hr, h3, h4⟩ := h1.update (Maps.string_keyed Tryz.underlying9) Tryz.underlying86 (by simp only [maxLen]; omega) (WideMaps.keyOf_string_mk Tryz.underlying9 (s := s) (by simp only [maxLen]; omega)) (plainElem_int Tryz.underlying3 (keyI_wf hxx))
 refine ⟨w', hr, ⟨_, h3, fun y => ?_⟩, h4⟩
 by_cases hy : y = s
 ·subst hy
  dsimp only
  rw [if_pos rfl]
  exact ⟨Maps.has_put_same h1.isMap (by trivial) _, Maps.atKey_put_same h1.isMap (by trivial) _ _⟩
 ·dsimp only
  rw [if_neg hy]
  exact ⟨(Maps.has_put_other (fun e => hy (keyS_inj e)) _).trans (h2 y).1, (Maps.atKey_put_other (fun e => hy (keyS_inj e)) _ _).trans (h2 y).2⟩
theorem wp_mapUpdT {ops : Array Oper} {rest : List Oper} {o : Oper} {a : Act} {Q : Exit → Act → World → Prop} {w : World} {b n : Nat} {p : ByteArray → Option Int} (h : MapS w b n p) (s : ByteArray) (x : Int) (hs : s.size ≤ 140737488355328) (hxx : I64 x) (hn : n < 1000000000) (hgd : o.guard = none) {m k v : Operand}
  (ho : o.op = .mapUpdate 86 m k v) (hm : a.eval m = .map (some b)) (hk : a.eval k = .string s) (hv : a.eval v = .int .i64 x)
  (hK : ∀ w', MapS w' b (n + 1) (fun y => if y = s then some x else p y) → w.grownBy w' (some b) → wpList Tryz.prog ops Q rest (a.put o.dst undef) w') : wpList Tryz.prog ops Q (o :: rest) a w := by
 refine wpList_plain hgd fun K hK' => ?_
 obtain ⟨w', hr, h1, h2⟩ := h.upd s x hs hxx hn
 unfold Oper.wp
 simp [execOp, ho, hm, hk, hv, hr, Result.andThen]
 exact hK' _ _ (hK w' h1 h2)
end Go.Proofs.YtmnbalbiehlkpaaGreatDoor


set_option linter.unusedVariables false
set_option linter.unusedSimpArgs false
namespace Go.Proofs.YtmnbalbiehlkpaaGreatDoor
open Go.RowKit Go.Lib

def emS : ByteArray := ⟨#[]⟩
/-- Is a text not empty? -/
def neS (s : ByteArray) : Bool := decide (s ≠ emS)
/-- What is left of a statement's check behind its labels and its instruction. -/
def tailB (J R : Bool) (off imm : Int) (t m : ByteArray) : Int := if (J && off != 0) || (R && imm != 0) || (!J && neS t) || (!R && neS m) then 12 else if (J && !idB t) || (R && !idB m) then 7 else 0
def lblBad (l : List ByteArray) : Bool := l.any fun s => !idB s
/-- The error of a statement for itself. -/
def stmtE (s : Stmt) : Int := if lblBad s.labels then 7 else if insE s.ins ≠ 0 then insE s.ins else tailB (jumpsX s.ins) (formN s.ins.op == 11) s.ins.off s.ins.imm s.target s.map
def StV (A : Option Addr) (n c : Nat) (s : Stmt) : Value := .agg #[.slice A n c, .int .i64 s.ins.op, .bool s.ins.reg, .int .i64 s.ins.dst, .int .i64 s.ins.src, .int .i64 s.ins.off, .int .i64 s.ins.imm, .string s.target, .string s.map]
theorem em_list : emS.toList = [] := by rw [Go.ByteArray.toList_eq]; rfl
theorem em_isE : emS.toList.isEmpty = true := by rw [em_list]; rfl
theorem ne_list {s : ByteArray} (h : s ≠ emS) : s.toList ≠ [] := fun e => h (ByteArray.ext (Array.ext' (by rw [Go.ByteArray.toList_eq] at e; exact e)))
theorem ne_isE {s : ByteArray} (h : s ≠ emS) : s.toList.isEmpty = false := by
 have := ne_list h
 cases hl : s.toList with
 | nil => exact absurd hl this
 | cons a l => rfl
theorem lbl_hit {l : List ByteArray} {k : Nat} {s : ByteArray} (h : l[k]? = some s) (hb : idB s = false) : lblBad l = true := by
 unfold lblBad
 rw [List.any_eq_true]
 exact ⟨s, List.mem_of_getElem? h, by rw [hb]; rfl⟩
theorem lbl_none {l : List ByteArray} (h : ∀ j, j < l.length → idB (l.getD j emS) = true) : lblBad l = false := by
 unfold lblBad
 rw [List.any_eq_false]
 intro s hs
 obtain ⟨i, hi, rfl⟩ := List.mem_iff_getElem.1 hs
 have := h i hi
 rw [List.getD_eq_getElem?_getD, List.getElem?_eq_getElem hi] at this
 have h2 : idB l[i] = true := this
 rw [h2]; decide
theorem stmtE_lbl {s : Stmt} (h : lblBad s.labels = true) : stmtE s = 7 := if_pos h
theorem stmtE_ins {s : Stmt} (h : lblBad s.labels = false) (h2 : insE s.ins ≠ 0) : stmtE s = insE s.ins := by unfold stmtE; rw [if_neg (by rw [h]; decide), if_pos h2]
theorem stmtE_tail {s : Stmt} (h : lblBad s.labels = false) (h2 : insE s.ins = 0) : stmtE s = tailB (jumpsX s.ins) (formN s.ins.op == 11) s.ins.off s.ins.imm s.target s.map := by unfold stmtE; rw [if_neg (by rw [h]; decide), if_neg (by rw [h2]; decide)]
end Go.Proofs.YtmnbalbiehlkpaaGreatDoor


set_option linter.unusedVariables false
set_option linter.unusedSimpArgs false
namespace Go.Proofs.YtmnbalbiehlkpaaGreatDoor
open Go.RowKit Go.Lib

/-- The first statement with an error: its index and the error. -/
def findS (chk : Nat → Stmt → Int) (l : List Stmt) : Int × Int :=
 match (List.range l.length).findSome? (fun i => if chk i (l.getD i default) = 0 then none else some ((i : Int), chk i (l.getD i default))) with | some r => r | none => (0, 0)
theorem findS_hit {chk : Nat → Stmt → Int} {l : List Stmt} {k : Nat} (hk : k < l.length) (hn : ∀ j, j < k → chk j (l.getD j default) = 0) (h : chk k (l.getD k default) ≠ 0) : findS chk l = ((k : Int), chk k (l.getD k default)) := by
 unfold findS
 rw [range_first (fun i => if chk i (l.getD i default) = 0 then none else some ((i : Int), chk i (l.getD i default))) l.length k _ hk (fun j hj => if_pos (hn j hj)) (if_neg h)]
theorem findS_none {chk : Nat → Stmt → Int} {l : List Stmt} (hn : ∀ j, j < l.length → chk j (l.getD j default) = 0) : findS chk l = (0, 0) := by
 unfold findS
 have : (List.range l.length).findSome? (fun i => if chk i (l.getD i default) = 0 then none else some ((i : Int), chk i (l.getD i default))) = none := by
  rw [List.findSome?_eq_none_iff]
  intro x hx
  exact if_pos (hn x (by simpa using hx))
 rw [this]
/-- A statement's cells. -/
def stL (A : Option Addr) (n c : Nat) (s : Stmt) : List Value := [.slice A n c, .int .i64 s.ins.op, .bool s.ins.reg, .int .i64 s.ins.dst, .int .i64 s.ins.src, .int .i64 s.ins.off, .int .i64 s.ins.imm, .string s.target, .string s.map]
structure StOk (s : Stmt) : Prop where
 ins : s.ins.Ok
 tgt : s.target.size ≤ 140737488355328
 map : s.map.size ≤ 140737488355328
set_option maxRecDepth 40000 in
set_option maxHeartbeats 4000000 in
theorem eachStmt_of (B1 B2 F : Nat) (A1 A2 : Option Addr) (n1 c1 c2 m : Nat) (l : List Stmt) (chk : Nat → Stmt → Int) (w : World) (hm : m = l.length) (hml : m ≤ 1000000) (hv : IsStmts w (.slice A2 m c2) l)
  (h1 : w.cell? ⟨B1, 0, none⟩ = some (.func (.func 156) #[] #[])) (h2 : w.cell? ⟨B2, 0, none⟩ = some (.func (.func F) #[] #[]))
  (hn1 : w.cell? ⟨0, 0, none⟩ = some (.int .i64 0)) (hn2 : w.cell? ⟨0, 1, none⟩ = some (.int .i64 0))
  (hF : ∀ args W, (callFunc F args).run Tryz.prog W = .ok (.enter F args) W)
  (hc : ∀ (i : Nat) (s : Stmt) (A : Option Addr) (c : Nat) (W : World), Ext w W → l[i]? = some s → IsStrs W (.slice A s.labels.length c) s.labels → StOk s →
   Calls Tryz.prog F #[.agg #[.slice A1 n1 c1, .slice A2 m c2], .int .i64 (i : Nat), StV A s.labels.length c s] W fun e w' => e = .returned (.int .i64 (chk i s)) ∧ Ext W w') :
  Calls Tryz.prog 198 #[.agg #[.slice A1 n1 c1, .slice A2 m c2], .pointer (some ⟨B1, 0, none⟩), .pointer (some ⟨B2, 0, none⟩)] w fun e w' => e = .returned (findV (findS chk l)) ∧ Ext w w' := by
 obtain ⟨W0, hW0⟩ : ∃ W0, W0 = (w.alloc (.cells #[.slice A1 n1 c1, .slice A2 m c2] 25)).alloc (.cells #[.int .i64 0, .int .i64 0] 146) := ⟨_, rfl⟩
 have e0 : Ext w W0 := by rw [hW0]; exact (Ext.new w _).alloc _
 have hst := stmts_any A1 A2 n1 c1 m c2 W0
 have p1 : W0.cell? ⟨w.heap.size, 0, none⟩ = some (.slice A1 n1 c1) := by rw [hW0]; simp
 have p2 : W0.cell? ⟨w.heap.size, 1, none⟩ = some (.slice A2 m c2) := by rw [hW0]; simp
 have p3 : W0.heap[w.heap.size + 1]? = some (.cells #[.int .i64 0, .int .i64 0] 146 (0, 0)) := by
  rw [hW0]
  have h := heap_alloc_new (w.alloc (.cells #[.slice A1 n1 c1, .slice A2 m c2] 25)) (.cells #[.int .i64 0, .int .i64 0] 146)
  rwa [World.size_alloc] at h
 have k1 := e0.cell h1
 rw [hW0] at hst k1
 have HS := hx hst
 have HW0 := hx hW0
 have HC := hx hc
 have HM := hx hm
 clear hc hst hW0 hm h1
 go_enter Tryz.func198, Tryz.ntmps198
 go_wp2_with (first | (go_at_call 156; refine HS.out.mono ?_; rintro e w1 ⟨rfl, e1⟩))
 rw [← HW0.out] at e1
 clear k1 HW0 HS
 go_loopw [12] (fun i wr => ∃ k : Nat, k ≤ m ∧ i = .int .i64 (k : Nat) ∧ (∀ j, j < k → chk j (l.getD j default) = 0) ∧ Ext W0 wr) (fun i _ => m - (RowKit.intOf i).toNat)
 case atStart => exact ⟨0, by omega, rfl, (by intro j hj; omega), e1⟩
 case round =>
  clear e1
  obtain ⟨k, hk, rfl, hn, he⟩ := hrel
  have HN := hx hn
  clear hn
  have ew := e0.trans he
  have q3 := he.obj p3
  have EW := hx ew
  have Q3 := hx q3
  by_cases hlt : k < m
  ·obtain ⟨x, hx0⟩ : ∃ x, l[k]? = some x := ⟨_, List.getElem?_eq_getElem (by have := HM.out; omega)⟩
   have hg : l.getD k default = x := by rw [List.getD_eq_getElem?_getD, hx0]; rfl
   obtain ⟨b, o, rfl, vl, d0, dl, ⟨d1, d2, d3, d4, d5, d6⟩, dok, ⟨d7, d7'⟩, d8, d8'⟩ := (IsStmts.ext hv ew).get hx0
   obtain ⟨Al, cl, rfl, -, -, dl'⟩ := dl.form
   have hkm : (k : Int) < (m : Int) := by omega
   have q1 := he.cell p1
   have q2 := he.cell p2
   have b2 := ew.cell h2
   have eN := Ext.new wr (.cells (stL Al x.labels.length cl x).toArray 55)
   have hcx := HC.out k x Al cl _ (ew.trans eN) hx0 (IsStrs.ext dl' eN) ⟨dok, d7', d8'⟩
   have b2' := eN.cell b2
   have q1' := eN.cell q1
   have q2' := eN.cell q2
   have rN := RowV.new wr (stL Al x.labels.length cl x) 55
   have EN := hx (he.trans eN)
   have HG := hx (congrArg (chk k) hg)
   have HLT := hx hlt
   have HF2 := hF
   unfold StV at hcx
   obtain ⟨labels, ⟨op, reg, n1', n2', n3', n4'⟩, tt, tm⟩ := x
   simp only [stL] at *
   generalize labels.length = ll at *
   generalize chk k ⟨labels, ⟨op, reg, n1', n2', n3', n4'⟩, tt, tm⟩ = CX at *
   have HCX := hx hcx
   clear hcx hg hx0 dl dl' dok d7' d8' ew eN he hlt q3 rN
   by_cases hz : CX = 0
   ·subst hz
    go_wp2_with (with_reducible refine HCX.out.mono ?_)
    rintro e w2 ⟨rfl, e2⟩
    have Y := hx (EN.out.trans e2)
    clear e2 d0 d1 d2 d3 d4 d5 d6 d7 d8 q1 q2 b2 b2' q1' q2' HF2
    go_wp2
    go_roundw
    case rel => exact ⟨k + 1, HLT.out, by go_num, fun j hj => (Nat.lt_succ_iff_lt_or_eq.1 hj).elim (HN.out j) (fun h => by rw [h, HG.out]), Y.out⟩
    case measure => simp [RowKit.intOf]; omega
   ·have hz' : (CX != 0) = true := by simpa using hz
    have HZ := hx hz
    clear hz
    go_wp2_with (with_reducible refine HCX.out.mono ?_)
    rintro e w2 ⟨rfl, e2⟩
    have q4 := (EN.out.trans e2).obj p3
    have y1 : w2.frozen? ⟨w.heap.size + 1, 0, none⟩ = false := by simp [World.frozen?, q4]
    have y2 : w2.frozen? ⟨w.heap.size + 1, 1, none⟩ = false := by simp [World.frozen?, q4]
    have Y := hx (e0.trans (EN.out.trans e2))
    have Q4 := hx q4
    have z1 : w2.cell? ⟨w.heap.size + 1, 0, none⟩ = some (.int .i64 0) := by simp [World.cell?, q4]
    have z2 : w2.cell? ⟨w.heap.size + 1, 1, none⟩ = some (.int .i64 0) := by simp [World.cell?, q4]
    have hf := findS_hit (l := l) (by rw [← HM.out]; exact HLT.out) HN.out (by rw [HG.out]; exact HZ.out)
    rw [HG.out] at hf
    have HFX := hx hf
    clear e2 d0 d1 d2 d3 d4 d5 d6 d7 d8 q1 q2 b2 b2' q1' q2' HF2 q4 hf
    go_wp2
    refine bodyPost_ret (results_cell_row rfl _ _ (w.heap.size + 1) 146 _ _ _ rfl (two_set _ _ Q4.out) Tryz.underlying146 rfl (by kernel_rfl)) rfl ?_
    exact ⟨by rw [HFX.out]; rfl, (Y.out.setCell (a := ⟨w.heap.size + 1, 0, none⟩) _ (by simp)).setCell (a := ⟨w.heap.size + 1, 1, none⟩) _ (by simp)⟩
  ·obtain rfl : m = k := by omega
   have hf := findS_none (l := l) (chk := chk) (by rw [← HM.out]; exact HN.out)
   have HFX := hx hf
   have g1 := ew.cell hn1
   have g2 := ew.cell hn2
   have y1 : wr.frozen? ⟨w.heap.size + 1, 0, none⟩ = false := by simp [World.frozen?, q3]
   have y2 : wr.frozen? ⟨w.heap.size + 1, 1, none⟩ = false := by simp [World.frozen?, q3]
   have z1 : wr.cell? ⟨w.heap.size + 1, 0, none⟩ = some (.int .i64 0) := by simp [World.cell?, q3]
   have z2 : wr.cell? ⟨w.heap.size + 1, 1, none⟩ = some (.int .i64 0) := by simp [World.cell?, q3]
   clear hf ew q3 he hlt
   go_wp2
   refine bodyPost_ret (results_cell_row rfl _ _ (w.heap.size + 1) 146 _ _ _ rfl (two_set _ _ Q3.out) Tryz.underlying146 rfl (by kernel_rfl)) rfl ?_
   exact ⟨by rw [HFX.out]; rfl, (EW.out.setCell (a := ⟨w.heap.size + 1, 0, none⟩) _ (by simp)).setCell (a := ⟨w.heap.size + 1, 1, none⟩) _ (by simp)⟩
end Go.Proofs.YtmnbalbiehlkpaaGreatDoor


set_option linter.unusedVariables false
set_option linter.unusedSimpArgs false
namespace Go.Proofs.YtmnbalbiehlkpaaGreatDoor
open Go.RowKit Go.Lib

/-- The labels of statements, in order. -/
def flat (L : List Stmt) : List ByteArray := L.flatMap (·.labels)
theorem flat_cons (x : Stmt) (l : List Stmt) : flat (x :: l) = x.labels ++ flat l := by simp [flat]
theorem flat_app (a b : List Stmt) : flat (a ++ b) = flat a ++ flat b := by simp [flat]
/-- Does a text stand in a list? -/
def inL (l : List ByteArray) (y : ByteArray) : Bool := l.any fun z => decide (z = y)
theorem inL_snoc (l : List ByteArray) (x y : ByteArray) : inL (l ++ [x]) y = (inL l y || decide (x = y)) := by simp [inL]
/-- What a map of labels holds behind some statements. -/
def labI : Nat → List Stmt → (ByteArray → Option Int) → ByteArray → Option Int
 | _, [], p => p
 | k, x :: l, p => labI (k + 1) l (fun y => if inL x.labels y then some (k : Int) else p y)
/-- The statement with a label. -/
def labAt (L : List Stmt) : ByteArray → Option Int := labI 0 L fun _ => none
set_option maxRecDepth 40000 in
set_option maxHeartbeats 4000000 in
theorem Labels_any (A1 A2 : Option Addr) (n1 c1 m c2 : Nat) (L : List Stmt) (w : World) (hm : m = L.length) (hml : m ≤ 1000000) (hv : IsStmts w (.slice A2 m c2) L) (hfl : (flat L).length ≤ 1000000) :
  Calls Tryz.prog 29 #[.agg #[.slice A1 n1 c1, .slice A2 m c2]] w fun e w' => ∃ b, e = .returned (.map (some b)) ∧ MapS w' b (flat L).length (labAt L) ∧ Ext w w' := by
 obtain ⟨W0, hW0⟩ : ∃ W0, W0 = (w.alloc (.cells #[.slice A1 n1 c1, .slice A2 m c2] 25)).alloc (.map #[] 0) := ⟨_, rfl⟩
 have e0 : Ext w W0 := by rw [hW0]; exact (Ext.new w _).alloc _
 have hM0 : MapS W0 (w.heap.size + 1) 0 (fun _ => none) := by
  rw [hW0]
  have h := MapS.made (w.alloc (.cells #[.slice A1 n1 c1, .slice A2 m c2] 25))
  rwa [World.size_alloc] at h
 have p2 : W0.cell? ⟨w.heap.size, 1, none⟩ = some (.slice A2 m c2) := by rw [hW0]; simp
 rw [hW0] at p2
 have hmm := @run_makeMap Tryz.prog
 have HM := hx hm
 have HFL := hx hfl
 clear hm hfl
 go_enter Tryz.func29, Tryz.ntmps29
 go_wp2
 rw [← hW0]
 clear hmm hW0 p2
 go_loopw [12] (fun i wr => ∃ (pre suf : List Stmt) (p : ByteArray → Option Int), L = pre ++ suf ∧ i = .int .i64 (pre.length : Nat) ∧ labAt L = labI pre.length suf p ∧ MapS wr (w.heap.size + 1) (flat pre).length p ∧ Ext w wr) (fun i _ => m - (RowKit.intOf i).toNat)
 case atStart => exact ⟨[], L, _, rfl, rfl, rfl, hM0, e0⟩
 case round =>
  clear hM0 e0
  obtain ⟨pre, suf, p, hl', rfl, hlab, hmp, he⟩ := hrel
  have HLAB := hx hlab
  clear hlab
  cases suf with
  | cons x suf =>
   have hlt : pre.length < m := by rw [HM.out, hl']; simp
   have hkm : (pre.length : Int) < (m : Int) := by omega
   have hvx := hv
   rw [hl'] at hvx
   have hfx : (flat pre).length + x.labels.length ≤ 1000000 := by
    have h := HFL.out
    rw [hl', flat_app, flat_cons, List.length_append, List.length_append] at h
    omega
   obtain ⟨b, o, rfl, vl, d0, dl, ⟨d1, d2, d3, d4, d5, d6⟩, dok, ⟨d7, d7'⟩, d8, d8'⟩ := hvx.at
   obtain ⟨Al, cl, rfl, -, -, dl'⟩ := dl.form
   replace d0 := he.cell d0
   replace d1 := he.cell d1
   replace d2 := he.cell d2
   replace d3 := he.cell d3
   replace d4 := he.cell d4
   replace d5 := he.cell d5
   replace d6 := he.cell d6
   replace d7 := he.cell d7
   replace d8 := he.cell d8
   have hst : labI pre.length (x :: suf) p = labI (pre.length + 1) suf (fun y => if inL x.labels y then some (pre.length : Int) else p y) := rfl
   have HL := hx hl'
   have HST := hx hst
   have HFX := hx hfx
   have HLT := hx hlt
   obtain ⟨W1, hW1⟩ : ∃ W1, W1 = wr.alloc (.cells (stL Al x.labels.length cl x).toArray 55) := ⟨_, rfl⟩
   have eN : Ext wr W1 := by rw [hW1]; exact Ext.new _ _
   have iN := dl'
   have mN := hmp.ext eN
   have xN := he.trans eN
   obtain ⟨pl, hpl⟩ : ∃ pl, pl = pre.length := ⟨_, rfl⟩
   rw [← hpl] at hkm HST HLAB HLT d0 d1 d2 d3 d4 d5 d6 d7 d8 ⊢
   have HPL := hx hpl
   obtain ⟨labels, ⟨op, reg, n1', n2', n3', n4'⟩, tt, tm⟩ := x
   simp only [stL] at *
   obtain ⟨ll, hll⟩ : ∃ ll, ll = labels.length := ⟨_, rfl⟩
   rw [← hll] at d0 iN hW1 HFX
   have HLL := hx hll
   have HW1 := hx hW1
   clear hl' hvx hst hfx hlt hW1 dl dl' dok d7' d8' hmp he eN hpl hll
   go_wp2
   rw [← HW1.out]
   clear d0 d1 d2 d3 d4 d5 d6 d7 d8
   go_loopw [20] (fun i wi => ∃ (lp ls : List ByteArray), labels = lp ++ ls ∧ i = .int .i64 (lp.length : Nat) ∧ MapS wi (w.heap.size + 1) ((flat pre).length + lp.length) (fun y => if inL lp y then some (pl : Int) else p y) ∧ Ext w wi) (fun i _ => ll - (RowKit.intOf i).toNat)
   case atStart => exact ⟨[], labels, rfl, rfl, (by simpa [inL] using mN), xN⟩
   case round =>
    clear mN
    obtain ⟨lp, ls, hls, rfl, hmi, hei⟩ := hrel
    cases ls with
    | cons y ls =>
     have hlt2 : lp.length < ll := by rw [HLL.out, hls]; simp
     have hkm2 : (lp.length : Int) < (ll : Int) := by omega
     have ivx := iN
     rw [hls] at ivx
     obtain ⟨by', oy, rfl, d1, d2⟩ := (IsStrs.ext ivx hei).at
     rw [Nat.mul_one] at d1
     have hnb : (flat pre).length + lp.length < 1000000000 := by have := HFX.out; omega
     have hpb : I64 (pl : Int) := by have := HLT.out; unfold I64; omega
     have HNB := hx hnb
     have HPB := hx hpb
     have HLS := hx hls
     have HLT2 := hx hlt2
     have hfun : (fun z => if z = y then some (pl : Int) else if inL lp z then some (pl : Int) else p z) = fun z => if inL (lp ++ [y]) z then some (pl : Int) else p z := by
      funext z
      rw [inL_snoc]
      by_cases h1 : z = y
      ·subst h1; simp
      ·have h1' : ¬ y = z := fun e => h1 e.symm
       rw [if_neg h1, decide_eq_false h1', Bool.or_false]
     have HFUN := hx hfun
     have HEI := hx hei
     have hlb : lp.length ≤ 1000000 := by have := HFX.out; omega
     clear hls ivx hnb hpb hfun hei
     go_wp2_with (refine wp_mapUpdT hmi y _ d2 HPB.out HNB.out rfl rfl (by rfl) (by rfl) (by rfl) ?_; intro w2 m2 g2)
     have e2 := HEI.out.grown g2 (fun k hk => by cases hk; omega)
     clear hmi g2 d1 d2
     go_roundw
     case rel => exact ⟨lp ++ [y], ls, by rw [HLS.out, List.append_assoc]; rfl, by first | go_num | simp, by rw [← HFUN.out]; simpa [Nat.add_assoc] using m2, e2⟩
     case measure => simp [RowKit.intOf]; omega
    | nil =>
     obtain rfl : labels = lp := by simpa using hls
     have hlt2 : ¬ ((labels.length : Int) < (ll : Int)) := by rw [HLL.out]; omega
     have HMI := hx hmi
     have HEI := hx hei
     clear hls hmi hei
     go_wp2
     go_roundw
     case rel => exact ⟨pre ++ [⟨labels, ⟨op, reg, n1', n2', n3', n4'⟩, tt, tm⟩], suf, _, by rw [HL.out]; simp, by rw [List.length_append, List.length_singleton, ← HPL.out]; go_num, by rw [HLAB.out, HST.out, List.length_append, List.length_singleton, ← HPL.out], by rw [flat_app, List.length_append]; simpa [flat] using HMI.out, HEI.out⟩
     case measure => simp [RowKit.intOf]; have := HLT.out; omega
  | nil =>
   obtain rfl : L = pre := by simpa using hl'
   have hlt : ¬ ((L.length : Int) < (m : Int)) := by rw [HM.out]; omega
   have HMP := hx hmp
   have HE := hx he
   clear hl' hmp he
   go_wp2
   go_ret
   exact ⟨_, rfl, by rw [HLAB.out]; exact HMP.out, HE.out⟩
end Go.Proofs.YtmnbalbiehlkpaaGreatDoor


set_option linter.unusedVariables false
set_option linter.unusedSimpArgs false
namespace Go.Proofs.YtmnbalbiehlkpaaGreatDoor
open Go.RowKit Go.Lib

/-- Does a label of a statement stand before? -/
def dupA : List ByteArray → List ByteArray → Bool
 | _, [] => false
 | seen, y :: t => if inL seen y then true else dupA (seen ++ [y]) t
/-- The first statement with a label that stands before. -/
def labD : List ByteArray → Nat → List Stmt → Int × Int
 | _, _, [] => (0, 0)
 | seen, k, x :: l => if dupA seen x.labels then ((k : Int), 10) else labD (seen ++ x.labels) (k + 1) l
/-- The index of the statement of each label. -/
def flatAt : Nat → List Stmt → List Int
 | _, [] => []
 | k, x :: l => x.labels.map (fun _ => (k : Int)) ++ flatAt (k + 1) l
theorem repA_app : ∀ (a seen b : List ByteArray), (dupA seen a = true → ∃ j : Nat, repA seen (a ++ b) = ((seen.length + j : Nat) : Int) ∧ j < a.length) ∧ (dupA seen a = false → repA seen (a ++ b) = repA (seen ++ a) b) := by
 intro a
 induction a with
 | nil => intro seen b; exact ⟨(fun h => by cases h), (fun _ => by simp)⟩
 | cons y t ih =>
  intro seen b
  rw [dupA, List.cons_append, repA]
  by_cases h : inL seen y = true
  ·have h' : (seen.any fun z => decide (z = y)) = true := h
   rw [if_pos h, if_pos h']
   exact ⟨(fun _ => ⟨0, rfl, by simp⟩), (fun h => by cases h)⟩
  ·have h' : ¬ (seen.any fun z => decide (z = y)) = true := h
   rw [if_neg h, if_neg h']
   obtain ⟨i1, i2⟩ := ih (seen ++ [y]) b
   refine ⟨fun hd => ?_, fun hd => by rw [i2 hd]; simp⟩
   obtain ⟨j, h1, h2⟩ := i1 hd
   exact ⟨j + 1, by rw [h1]; simp; omega, by simp; omega⟩
theorem labD_rep : ∀ (L : List Stmt) (seen : List ByteArray) (k : Nat), labD seen k L = if 0 ≤ repA seen (flat L) then ((flatAt k L).getD ((repA seen (flat L)).toNat - seen.length) 0, 10) else (0, 0) := by
 intro L
 induction L with
 | nil => intro seen k; simp [labD, flat, repA]
 | cons x l ih =>
  intro seen k
  rw [labD, flat_cons, flatAt]
  obtain ⟨r1, r2⟩ := repA_app x.labels seen (flat l)
  cases hd : dupA seen x.labels with
  | true =>
   obtain ⟨j, h1, h2⟩ := r1 hd
   rw [if_pos rfl, h1, if_pos (by omega), Int.toNat_natCast, Nat.add_sub_cancel_left]
   rw [List.getD_eq_getElem?_getD, List.getElem?_append_left (by simpa using h2)]
   simp [h2]
  | false =>
   rw [if_neg (by decide), r2 hd, ih]
   have hb := (repA_bd (flat l) (seen ++ x.labels)).2
   by_cases h0 : 0 ≤ repA (seen ++ x.labels) (flat l)
   ·rw [if_pos h0, if_pos h0]
    have hb2 := hb.resolve_left (by omega)
    rw [List.length_append] at hb2
    rw [List.getD_eq_getElem?_getD, List.getD_eq_getElem?_getD, List.getElem?_append_right (by simp; omega), List.length_map, List.length_append]
    congr 3
    omega
   ·rw [if_neg h0, if_neg h0]
theorem fin4 {W : World} {g : Nat} {a b : Value} (h : W.heap[g]? = some (.cells #[a, b] 146 (0, 0))) : W.frozen? ⟨g, 0, none⟩ = false ∧ W.frozen? ⟨g, 1, none⟩ = false ∧ W.cell? ⟨g, 0, none⟩ = some a ∧ W.cell? ⟨g, 1, none⟩ = some b :=
 ⟨by simp [World.frozen?, h], by simp [World.frozen?, h], by simp [World.cell?, h], by simp [World.cell?, h]⟩
set_option maxRecDepth 40000 in
set_option maxHeartbeats 4000000 in
theorem labelsOnce_any (A1 A2 : Option Addr) (n1 c1 m c2 : Nat) (L : List Stmt) (w : World) (hm : m = L.length) (hml : m ≤ 1000000) (hv : IsStmts w (.slice A2 m c2) L) (hfl : (flat L).length ≤ 1000000)
  (hn1 : w.cell? ⟨0, 0, none⟩ = some (.int .i64 0)) (hn2 : w.cell? ⟨0, 1, none⟩ = some (.int .i64 0)) :
  Calls Tryz.prog 162 #[.agg #[.slice A1 n1 c1, .slice A2 m c2]] w fun e w' => e = .returned (findV (labD [] 0 L)) ∧ Ext w w' := by
 obtain ⟨W0, hW0⟩ : ∃ W0, W0 = ((w.alloc (.cells #[.slice A1 n1 c1, .slice A2 m c2] 25)).alloc (.cells #[.int .i64 0, .int .i64 0] 146)).alloc (.map #[] 0) := ⟨_, rfl⟩
 have e0 : Ext w W0 := by rw [hW0]; exact ((Ext.new w _).alloc _).alloc _
 have hM0 : SetS W0 (w.heap.size + 1 + 1) 0 (fun _ => false) := by
  rw [hW0]
  have h := SetS.made ((w.alloc (.cells #[.slice A1 n1 c1, .slice A2 m c2] 25)).alloc (.cells #[.int .i64 0, .int .i64 0] 146))
  rwa [World.size_alloc, World.size_alloc] at h
 have p3 : W0.heap[w.heap.size + 1]? = some (.cells #[.int .i64 0, .int .i64 0] 146 (0, 0)) := by
  rw [hW0]
  have h := heap_alloc_new (w.alloc (.cells #[.slice A1 n1 c1, .slice A2 m c2] 25)) (.cells #[.int .i64 0, .int .i64 0] 146)
  rw [World.size_alloc] at h
  exact (Ext.new _ (.map #[] 0)).obj h
 have p2 : W0.cell? ⟨w.heap.size, 1, none⟩ = some (.slice A2 m c2) := by
  have h : (w.alloc (.cells #[.slice A1 n1 c1, .slice A2 m c2] 25)).cell? ⟨w.heap.size, 1, none⟩ = some (.slice A2 m c2) := by simp
  rw [hW0]
  exact ((Ext.new _ _).alloc _).cell h
 rw [hW0] at p2
 have hmm := @run_makeMap Tryz.prog
 have HM := hx hm
 have HFL := hx hfl
 clear hm hfl
 go_enter Tryz.func162, Tryz.ntmps162
 go_wp2
 rw [← hW0]
 clear hmm hW0 p2
 go_loopw [12] (fun i wr => ∃ (pre suf : List Stmt), L = pre ++ suf ∧ i = .int .i64 (pre.length : Nat) ∧ labD [] 0 L = labD (flat pre) pre.length suf ∧ SetS wr (w.heap.size + 1 + 1) (flat pre).length (inL (flat pre)) ∧ wr.heap[w.heap.size + 1]? = some (.cells #[.int .i64 0, .int .i64 0] 146 (0, 0)) ∧ Ext w wr) (fun i _ => m - (RowKit.intOf i).toNat)
 case atStart => exact ⟨[], L, rfl, rfl, rfl, hM0, p3, e0⟩
 case round =>
  clear hM0 e0 p3
  obtain ⟨pre, suf, hl', rfl, hlab, hmp, q3, he⟩ := hrel
  have HLAB := hx hlab
  clear hlab
  cases suf with
  | cons x suf =>
   have hlt : pre.length < m := by rw [HM.out, hl']; simp
   have hkm : (pre.length : Int) < (m : Int) := by omega
   have hvx := hv
   rw [hl'] at hvx
   have hfx : (flat pre).length + x.labels.length ≤ 1000000 := by
    have h := HFL.out
    rw [hl', flat_app, flat_cons, List.length_append, List.length_append] at h
    omega
   obtain ⟨b, o, rfl, vl, d0, dl, ⟨d1, d2, d3, d4, d5, d6⟩, dok, ⟨d7, d7'⟩, d8, d8'⟩ := hvx.at
   obtain ⟨Al, cl, rfl, -, -, dl'⟩ := dl.form
   replace d0 := he.cell d0
   replace d1 := he.cell d1
   replace d2 := he.cell d2
   replace d3 := he.cell d3
   replace d4 := he.cell d4
   replace d5 := he.cell d5
   replace d6 := he.cell d6
   replace d7 := he.cell d7
   replace d8 := he.cell d8
   have hst : labD (flat pre) pre.length (x :: suf) = if dupA (flat pre) x.labels then ((pre.length : Int), 10) else labD (flat pre ++ x.labels) (pre.length + 1) suf := rfl
   have HL := hx hl'
   have HST := hx hst
   have HFX := hx hfx
   have HLT := hx hlt
   obtain ⟨W1, hW1⟩ : ∃ W1, W1 = wr.alloc (.cells (stL Al x.labels.length cl x).toArray 55) := ⟨_, rfl⟩
   have eN : Ext wr W1 := by rw [hW1]; exact Ext.new _ _
   have iN := dl'
   have mN := hmp.ext eN
   have xN := he.trans eN
   have qN := eN.obj q3
   obtain ⟨pl, hpl⟩ : ∃ pl, pl = pre.length := ⟨_, rfl⟩
   rw [← hpl] at hkm HST HLAB HLT d0 d1 d2 d3 d4 d5 d6 d7 d8 ⊢
   have HPL := hx hpl
   obtain ⟨labels, ⟨op, reg, n1', n2', n3', n4'⟩, tt, tm⟩ := x
   simp only [stL] at *
   obtain ⟨ll, hll⟩ : ∃ ll, ll = labels.length := ⟨_, rfl⟩
   rw [← hll] at d0 iN hW1 HFX
   have HLL := hx hll
   have HW1 := hx hW1
   clear hl' hvx hst hfx hlt hW1 dl dl' dok d7' d8' hmp he eN hpl hll q3
   go_wp2
   rw [← HW1.out]
   clear d0 d1 d2 d3 d4 d5 d6 d7 d8
   go_loopw [20] (fun i wi => ∃ (lp ls : List ByteArray), labels = lp ++ ls ∧ i = .int .i64 (lp.length : Nat) ∧ dupA (flat pre) labels = dupA (flat pre ++ lp) ls ∧ SetS wi (w.heap.size + 1 + 1) ((flat pre).length + lp.length) (inL (flat pre ++ lp)) ∧ wi.heap[w.heap.size + 1]? = some (.cells #[.int .i64 0, .int .i64 0] 146 (0, 0)) ∧ Ext w wi) (fun i _ => ll - (RowKit.intOf i).toNat)
   case atStart => exact ⟨[], labels, rfl, rfl, (by simp), (by simpa using mN), qN, xN⟩
   case round =>
    clear mN qN
    obtain ⟨lp, ls, hls, rfl, hdp, hmi, qi, hei⟩ := hrel
    have HDP := hx hdp
    clear hdp
    cases ls with
    | cons y ls =>
     have hlt2 : lp.length < ll := by rw [HLL.out, hls]; simp
     have hkm2 : (lp.length : Int) < (ll : Int) := by omega
     have ivx := iN
     rw [hls] at ivx
     obtain ⟨by', oy, rfl, d1, d2⟩ := (IsStrs.ext ivx hei).at
     rw [Nat.mul_one] at d1
     have hnb : (flat pre).length + lp.length < 1000000000 := by have := HFX.out; omega
     have HNB := hx hnb
     have HLS := hx hls
     have hlb : lp.length ≤ 1000000 := by have := HFX.out; omega
     have HEI := hx hei
     have hlk := hmi.look y d2
     have QI := hx qi
     have hst2 : dupA (flat pre ++ lp) (y :: ls) = if inL (flat pre ++ lp) y then true else dupA (flat pre ++ lp ++ [y]) ls := rfl
     have HS2 := hx hst2
     clear hls ivx hnb hei hst2
     cases hin : inL (flat pre ++ lp) y with
     | true =>
      rw [hin] at hlk
      have hlab2 : labD [] 0 L = ((pl : Int), 10) := by rw [HLAB.out, HST.out, HDP.out, HS2.out, hin]; rfl
      have HLB := hx hlab2
      obtain ⟨y1, y2, z1, z2⟩ := fin4 qi
      clear hin hlab2 hmi qi
      go_wp2
      refine bodyPost_ret (results_cell_row rfl _ _ (w.heap.size + 1) 146 _ _ _ rfl (two_set _ _ QI.out) Tryz.underlying146 rfl (by kernel_rfl)) rfl ?_
      exact ⟨by rw [HLB.out]; rfl, (HEI.out.setCell (a := ⟨w.heap.size + 1, 0, none⟩) _ (by simp)).setCell (a := ⟨w.heap.size + 1, 1, none⟩) _ (by simp)⟩
     | false =>
      rw [hin] at hlk
      have hdp2 : dupA (flat pre) labels = dupA (flat pre ++ (lp ++ [y])) ls := by rw [HDP.out, HS2.out, hin, ← List.append_assoc]; rfl
      have HDP2 := hx hdp2
      have hfun : (fun z => if z = y then true else inL (flat pre ++ lp) z) = inL (flat pre ++ (lp ++ [y])) := by
       funext z
       rw [← List.append_assoc, inL_snoc]
       by_cases h1 : z = y
       ·subst h1; simp
       ·have h1' : ¬ y = z := fun e => h1 e.symm
        rw [if_neg h1, decide_eq_false h1', Bool.or_false]
      have HFUN := hx hfun
      clear hin hdp2 hfun qi
      go_wp2_with (refine wp_mapUpd hmi y d2 HNB.out true rfl rfl (by rfl) (by rfl) (by rfl) ?_; intro w2 m2 g2)
      have e2 := HEI.out.grown g2 (fun k hk => by cases hk; omega)
      have q2 := (g2.block (w.heap.size + 1) (Array.getElem?_eq_some_iff.1 QI.out).1 (by simp)).trans QI.out
      clear hmi g2 d1 d2 hlk
      go_roundw
      case rel => exact ⟨lp ++ [y], ls, by rw [HLS.out, List.append_assoc]; rfl, by first | go_num | simp, HDP2.out, by rw [← HFUN.out]; simpa [Nat.add_assoc] using m2, q2, e2⟩
      case measure => simp [RowKit.intOf]; omega
    | nil =>
     obtain rfl : labels = lp := by simpa using hls
     have hlt2 : ¬ ((labels.length : Int) < (ll : Int)) := by rw [HLL.out]; omega
     have HMI := hx hmi
     have HEI := hx hei
     have QI := hx qi
     clear hls hmi hei qi
     go_wp2
     go_roundw
     case rel => exact ⟨pre ++ [⟨labels, ⟨op, reg, n1', n2', n3', n4'⟩, tt, tm⟩], suf, by rw [HL.out]; simp, by rw [List.length_append, List.length_singleton, ← HPL.out]; go_num, by rw [HLAB.out, HST.out, HDP.out, dupA, if_neg (by decide), List.length_append, List.length_singleton, ← HPL.out, flat_app]; simp [flat], by rw [flat_app, List.length_append]; simpa [flat] using HMI.out, QI.out, HEI.out⟩
     case measure => simp [RowKit.intOf]; have := HLT.out; omega
  | nil =>
   obtain rfl : L = pre := by simpa using hl'
   have hlt : ¬ ((L.length : Int) < (m : Int)) := by rw [HM.out]; omega
   have HE := hx he
   have Q3 := hx q3
   have g1 := he.cell hn1
   have g2 := he.cell hn2
   have z1 : wr.cell? ⟨w.heap.size + 1, 0, none⟩ = some (.int .i64 0) := by simp [World.cell?, q3]
   have z2 : wr.cell? ⟨w.heap.size + 1, 1, none⟩ = some (.int .i64 0) := by simp [World.cell?, q3]
   have y1 : wr.frozen? ⟨w.heap.size + 1, 0, none⟩ = false := by simp [World.frozen?, q3]
   have y2 : wr.frozen? ⟨w.heap.size + 1, 1, none⟩ = false := by simp [World.frozen?, q3]
   clear hl' hmp he q3
   go_wp2
   refine bodyPost_ret (results_cell_row rfl _ _ (w.heap.size + 1) 146 _ _ _ rfl (two_set _ _ Q3.out) Tryz.underlying146 rfl (by kernel_rfl)) rfl ?_
   exact ⟨by rw [HLAB.out]; rfl, (HE.out.setCell (a := ⟨w.heap.size + 1, 0, none⟩) _ (by simp)).setCell (a := ⟨w.heap.size + 1, 1, none⟩) _ (by simp)⟩
end Go.Proofs.YtmnbalbiehlkpaaGreatDoor
