/- The words that all later texts of this proof share: a world that has only grown (Ext), slices that are read (Sl), slices that the call itself has built (Own), and the laws on append over them. No statement of its own is claimed here. -/
import Derived.Test.YtmnbalbiehlkpaaGreatDoorProg
import Derived.WalkKit
import Derived.Outline
import Derived.LoopTactic
import Derived.Maps.AppendAt
import Derived.Deep.AppendLies
import Derived.Deep.OwnRows
import Derived.Deep.Draws
import Derived.Laws.OwnMore
import Derived.Lib.AppendStr
import Derived.Laws.CopyOwn
import Derived.Lib.SlBytesConst
import Derived.BigQuiet
import Derived.Deep.QuietTactic
import Derived.Deep.RegionWith
import Derived.Deep.RegionLaw
import Derived.Deep.RegionHeld3
import Derived.Laws.EntriesVeiled
set_option linter.unusedVariables false
set_option linter.unusedSimpArgs false
namespace Go.Proofs.YtmnbalbiehlkpaaGreatDoor
open Go.RowKit

/-- A fact that the walk does not look into. -/
structure Hx (p : Prop) : Prop where
  out : p
theorem hx {p : Prop} (h : p) : Hx p := ⟨h⟩

theorem ret_int {k : IntKind} {a b : Int} (h : a = b) : Ending.returned (.int k a) = .returned (.int k b) := by rw [h]
theorem ret_str {a b : ByteArray} (h : a = b) : Ending.returned (.string a) = .returned (.string b) := by rw [h]
theorem ret_bool {a b : Bool} (h : a = b) : Ending.returned (.bool a) = .returned (.bool b) := by rw [h]

/-- The world has only grown: whatever lay in it lies there as before. -/
def Ext (w w' : World) : Prop := Below w.heap.size w w'
theorem Ext.refl (w : World) : Ext w w := Below.refl _ _
theorem Ext.trans {w w1 w2 : World} (h : Ext w w1) (k : Ext w1 w2) : Ext w w2 := by
  unfold Ext at *
  exact Below.trans h ⟨k.os, k.tape, k.output, k.size, fun i hi => k.block i (Nat.lt_of_lt_of_le hi h.size)⟩
theorem Ext.alloc {w W : World} (h : Ext w W) (o : Obj) : Ext w (W.alloc o) := Below.alloc h (Below.size h) o
theorem Ext.drew {w W : World} (h : Ext w W) : Ext w W.drew := by unfold Ext at *; exact ⟨h.os, h.tape, h.output, h.size, h.block⟩
theorem Ext.drewN {w W : World} (h : Ext w W) (n : Nat) : Ext w (W.drewN n) := by unfold Ext at *; exact ⟨h.os, h.tape, h.output, h.size, h.block⟩
theorem Ext.setCell {w W : World} (h : Ext w W) {a : Addr} (v : Value) (ha : w.heap.size ≤ a.block) : Ext w (W.setCell a v) := Below.setCell h ha v
theorem Ext.size {w W : World} (h : Ext w W) : w.heap.size ≤ W.heap.size := Below.size h
theorem Ext.block {w W : World} (h : Ext w W) {k : Nat} (hk : k < w.heap.size) : W.heap[k]? = w.heap[k]? := Below.block h k hk
theorem Ext.cell {w W : World} (h : Ext w W) {a : Addr} {v : Value} (hc : w.cell? a = some v) : W.cell? a = some v := (Below.cell h (World.block_lt_of_cell? w a hc)).trans hc
theorem Ext.cellAt {w W : World} (h : Ext w W) {a : Addr} (ha : a.block < w.heap.size) : W.cell? a = w.cell? a := Below.cell h ha
theorem Ext.new (w : World) (o : Obj) : Ext w (w.alloc o) := (Ext.refl w).alloc o
theorem Ext.grown {w W W' : World} {row : Option Nat} (h : Ext w W) (hg : W.grownBy W' row) (hr : ∀ k, row = some k → w.heap.size ≤ k) : Ext w W' := Below.grown h hg (Below.size h) hr
theorem Ext.toGrown {w W : World} (h : Ext w W) (row : Option Nat) : w.grownBy W row := ⟨h.os, h.tape, h.output, h.size, fun i hi _ => h.block hi⟩
theorem Ext.obj {w W : World} (h : Ext w W) {k : Nat} {o : Obj} (hk : w.heap[k]? = some o) : W.heap[k]? = some o := (h.block (Array.getElem?_eq_some_iff.1 hk).1).trans hk
/-! ### slices that are read -/
def Sl {α : Type} (sz : Nat) (E : World → Nat → Nat → α → Prop) (w : World) (v : Value) (xs : List α) : Prop :=
  ∃ A c, v = .slice A xs.length c ∧ (xs.length ≤ c ∧ c ≤ maxLen) ∧ xs.length ≤ 281474976710656 ∧ (A = none → c = 0) ∧ ∀ i x, xs[i]? = some x → ∃ b o, A = some ⟨b, o, none⟩ ∧ E w b (o + i * sz) x

section
variable {α : Type} {sz : Nat} {E : World → Nat → Nat → α → Prop} {w w' : World} {v : Value} {xs : List α}
theorem Sl.ext (h : Sl sz E w v xs) (he : ∀ b o x, E w b o x → E w' b o x) : Sl sz E w' v xs := by
  obtain ⟨A, c, h1, h2, h3, hn, h4⟩ := h
  refine ⟨A, c, h1, h2, h3, hn, fun i x hx => ?_⟩
  obtain ⟨b, o, hA, hE⟩ := h4 i x hx
  exact ⟨b, o, hA, he _ _ _ hE⟩
theorem Sl.at {A : Option Addr} {n c : Nat} {pre suf : List α} {x : α} (h : Sl sz E w (.slice A n c) (pre ++ x :: suf)) :
    ∃ b o, A = some ⟨b, o, none⟩ ∧ E w b (o + pre.length * sz) x := by
  obtain ⟨A', c', h1, h2, h3, hn, h4⟩ := h
  cases h1
  exact h4 _ _ (by simp)
theorem Sl.get {A : Option Addr} {n c : Nat} {i : Nat} {x : α} (h : Sl sz E w (.slice A n c) xs) (hx : xs[i]? = some x) :
    ∃ b o, A = some ⟨b, o, none⟩ ∧ E w b (o + i * sz) x := by
  obtain ⟨A', c', h1, h2, h3, hn, h4⟩ := h
  cases h1
  exact h4 _ _ hx
theorem Sl.len (h : Sl sz E w v xs) : xs.length ≤ 281474976710656 := by
  obtain ⟨A, c, _, h2, h3, _⟩ := h; omega
theorem Sl.form (h : Sl sz E w v xs) : ∃ A c, v = .slice A xs.length c ∧ xs.length ≤ c ∧ xs.length ≤ 281474976710656 ∧ Sl sz E w (.slice A xs.length c) xs := by
  have h' := h
  obtain ⟨A, c, rfl, h2, h3, _⟩ := h
  exact ⟨A, c, rfl, h2.1, h3, h'⟩
theorem Sl.nil (w : World) : Sl sz E w (.slice none 0 0) [] := ⟨none, 0, rfl, by simp [maxLen], by simp, fun _ => rfl, fun i x h => by simp at h⟩
theorem Sl.empty {A : Option Addr} {c : Nat} (h : A = none → c = 0) (hc : c ≤ maxLen) : Sl sz E w (.slice A 0 c) [] := ⟨A, c, rfl, ⟨by simp, hc⟩, by simp, h, fun i x h => by simp at h⟩
theorem Sl.len_eq {A : Option Addr} {n c : Nat} (h : Sl sz E w (.slice A n c) xs) : xs.length = n ∧ n ≤ c ∧ n ≤ 281474976710656 := by
  obtain ⟨A', c', h1, h2, h3, _⟩ := h
  cases h1
  exact ⟨rfl, h2.1, h3⟩
theorem Sl.mono {E' : World → Nat → Nat → α → Prop} (h : Sl sz E w v xs) (he : ∀ b o x, x ∈ xs → E w b o x → E' w' b o x) : Sl sz E' w' v xs := by
  obtain ⟨A, c, h1, h2, h3, hn, h4⟩ := h
  refine ⟨A, c, h1, h2, h3, hn, fun i x hx => ?_⟩
  obtain ⟨b, o, hA, hE⟩ := h4 i x hx
  exact ⟨b, o, hA, he _ _ _ (List.mem_of_getElem? hx) hE⟩
/-- What stands of every element. -/
theorem Sl.all {p : α → Prop} (h : Sl sz E w v xs) (hp : ∀ b o x, E w b o x → p x) : ∀ x ∈ xs, p x := by
  intro x hx
  obtain ⟨i, hi, rfl⟩ := List.mem_iff_getElem.1 hx
  obtain ⟨A, c, h1, h2, h3, hn, h4⟩ := h
  obtain ⟨b, o, _, hE⟩ := h4 i _ (List.getElem?_eq_getElem hi)
  exact hp _ _ _ hE
/-- s[i:j] of a slice that is read, as the walk makes it. -/
theorem Sl.part {A : Option Addr} {n c : Nat} (h : Sl sz E w (.slice A n c) xs) (i j : Nat) (hij : i ≤ j) (hj : j ≤ n) (A' : Option Addr) (hA : ∀ b o, A = some ⟨b, o, none⟩ → i < n → A' = some ⟨b, o + i * sz, none⟩)
    (hnil : A' = none → c - i = 0) : Sl sz E w (.slice A' (j - i) (c - i)) ((xs.drop i).take (j - i)) := by
  obtain ⟨A0, c0, h1, h2, h3, hn, h4⟩ := h
  cases h1
  refine ⟨A', c - i, by simp; omega, by simp; omega, by simp; omega, fun e => hnil e, fun k x hx => ?_⟩
  rw [List.getElem?_take] at hx
  split at hx
  · rw [List.getElem?_drop] at hx
    obtain ⟨b, o, hA0, hE⟩ := h4 _ _ hx
    have := (List.getElem?_eq_some_iff.1 hx).1
    exact ⟨b, o + i * sz, hA b o hA0 (by omega), by rw [Nat.add_mul] at hE; rw [Nat.add_assoc]; exact hE⟩
  · cases hx
end

/-! ### what stands in a slice -/
def I64 (x : Int) : Prop := -9223372036854775808 ≤ x ∧ x ≤ 9223372036854775807
def EByte (w : World) (b o : Nat) (x : Int) : Prop := w.cell? ⟨b, o, none⟩ = some (.int .u8 x) ∧ 0 ≤ x ∧ x < 256
theorem EByte.ext {w w' : World} {b o : Nat} {x : Int} (h : EByte w b o x) (he : Ext w w') : EByte w' b o x := ⟨he.cell h.1, h.2⟩
abbrev IsB := Sl 1 EByte
theorem IsB.ext {w w' : World} {v : Value} {l : List Int} (h : IsB w v l) (he : Ext w w') : IsB w' v l := Sl.ext h fun _ _ _ k => k.ext he
def Byt (l : List Int) : Prop := ∀ x ∈ l, 0 ≤ x ∧ x < 256
theorem IsB.byt {w : World} {v : Value} {l : List Int} (h : IsB w v l) : Byt l := Sl.all h fun _ _ _ k => k.2

def EInt (w : World) (b o : Nat) (x : Int) : Prop := w.cell? ⟨b, o, none⟩ = some (.int .i64 x) ∧ I64 x
theorem EInt.ext {w w' : World} {b o : Nat} {x : Int} (h : EInt w b o x) (he : Ext w w') : EInt w' b o x := ⟨he.cell h.1, h.2⟩
abbrev IsInts := Sl 1 EInt
theorem IsInts.ext {w w' : World} {v : Value} {l : List Int} (h : IsInts w v l) (he : Ext w w') : IsInts w' v l := Sl.ext h fun _ _ _ k => k.ext he

def EStr (w : World) (b o : Nat) (x : ByteArray) : Prop := w.cell? ⟨b, o, none⟩ = some (.string x) ∧ x.size ≤ 140737488355328
theorem EStr.ext {w w' : World} {b o : Nat} {x : ByteArray} (h : EStr w b o x) (he : Ext w w') : EStr w' b o x := ⟨he.cell h.1, h.2⟩
abbrev IsStrs := Sl 1 EStr
theorem IsStrs.ext {w w' : World} {v : Value} {l : List ByteArray} (h : IsStrs w v l) (he : Ext w w') : IsStrs w' v l := Sl.ext h fun _ _ _ k => k.ext he

structure Def where
  name : ByteArray
  key : Int
  val : Int
  ents : Int
instance : Inhabited Def := ⟨⟨⟨#[]⟩, 0, 0, 0⟩⟩
def Def.enc (d : Def) : List Value := [.string d.name, .int .i64 d.key, .int .i64 d.val, .int .i64 d.ents]
structure Def.Ok (d : Def) : Prop where
  name : d.name.size ≤ 140737488355328
  key : I64 d.key
  val : I64 d.val
  ents : I64 d.ents
def EDef (w : World) (b o : Nat) (d : Def) : Prop :=
  (w.cell? ⟨b, o, none⟩ = some (.string d.name) ∧ w.cell? ⟨b, o + 1, none⟩ = some (.int .i64 d.key) ∧ w.cell? ⟨b, o + 2, none⟩ = some (.int .i64 d.val) ∧ w.cell? ⟨b, o + 3, none⟩ = some (.int .i64 d.ents)) ∧ d.Ok
theorem EDef.ext {w w' : World} {b o : Nat} {x : Def} (h : EDef w b o x) (he : Ext w w') : EDef w' b o x := ⟨⟨he.cell h.1.1, he.cell h.1.2.1, he.cell h.1.2.2.1, he.cell h.1.2.2.2⟩, h.2⟩
abbrev IsDefs := Sl 4 EDef
theorem IsDefs.ext {w w' : World} {v : Value} {l : List Def} (h : IsDefs w v l) (he : Ext w w') : IsDefs w' v l := Sl.ext h fun _ _ _ k => k.ext he

structure Rel where
  slot : Int
  sym : Int
instance : Inhabited Rel := ⟨⟨0, 0⟩⟩
def Rel.enc (d : Rel) : List Value := [.int .i64 d.slot, .int .i64 d.sym]
structure Rel.Ok (d : Rel) : Prop where
  slot : I64 d.slot
  sym : I64 d.sym
def ERel (w : World) (b o : Nat) (d : Rel) : Prop := (w.cell? ⟨b, o, none⟩ = some (.int .i64 d.slot) ∧ w.cell? ⟨b, o + 1, none⟩ = some (.int .i64 d.sym)) ∧ d.Ok
theorem ERel.ext {w w' : World} {b o : Nat} {x : Rel} (h : ERel w b o x) (he : Ext w w') : ERel w' b o x := ⟨⟨he.cell h.1.1, he.cell h.1.2⟩, h.2⟩
abbrev IsRels := Sl 2 ERel
theorem IsRels.ext {w w' : World} {v : Value} {l : List Rel} (h : IsRels w v l) (he : Ext w w') : IsRels w' v l := Sl.ext h fun _ _ _ k => k.ext he

structure Ins where
  op : Int
  reg : Bool
  dst : Int
  src : Int
  off : Int
  imm : Int
  deriving DecidableEq
instance : Inhabited Ins := ⟨⟨0, false, 0, 0, 0, 0⟩⟩
def Ins.enc (x : Ins) : List Value := [.int .i64 x.op, .bool x.reg, .int .i64 x.dst, .int .i64 x.src, .int .i64 x.off, .int .i64 x.imm]
structure Ins.Ok (x : Ins) : Prop where
  op : I64 x.op
  dst : I64 x.dst
  src : I64 x.src
  off : I64 x.off
  imm : I64 x.imm
def Ins.v (x : Ins) : Value := .agg #[.int .i64 x.op, .bool x.reg, .int .i64 x.dst, .int .i64 x.src, .int .i64 x.off, .int .i64 x.imm]
def CIns (w : World) (b o : Nat) (x : Ins) : Prop :=
  w.cell? ⟨b, o, none⟩ = some (.int .i64 x.op) ∧ w.cell? ⟨b, o + 1, none⟩ = some (.bool x.reg) ∧ w.cell? ⟨b, o + 2, none⟩ = some (.int .i64 x.dst) ∧
   w.cell? ⟨b, o + 3, none⟩ = some (.int .i64 x.src) ∧ w.cell? ⟨b, o + 4, none⟩ = some (.int .i64 x.off) ∧ w.cell? ⟨b, o + 5, none⟩ = some (.int .i64 x.imm)
theorem CIns.ext {w w' : World} {b o : Nat} {x : Ins} (h : CIns w b o x) (he : Ext w w') : CIns w' b o x := ⟨he.cell h.1, he.cell h.2.1, he.cell h.2.2.1, he.cell h.2.2.2.1, he.cell h.2.2.2.2.1, he.cell h.2.2.2.2.2⟩
def EIns (w : World) (b o : Nat) (x : Ins) : Prop := CIns w b o x ∧ x.Ok
theorem EIns.ext {w w' : World} {b o : Nat} {x : Ins} (h : EIns w b o x) (he : Ext w w') : EIns w' b o x := ⟨h.1.ext he, h.2⟩
abbrev IsIns := Sl 6 EIns
theorem IsIns.ext {w w' : World} {v : Value} {l : List Ins} (h : IsIns w v l) (he : Ext w w') : IsIns w' v l := Sl.ext h fun _ _ _ k => k.ext he

structure Stmt where
  labels : List ByteArray
  ins : Ins
  target : ByteArray
  map : ByteArray
instance : Inhabited Stmt := ⟨⟨[], default, ⟨#[]⟩, ⟨#[]⟩⟩⟩
def EStmt (w : World) (b o : Nat) (s : Stmt) : Prop :=
  ∃ v, w.cell? ⟨b, o, none⟩ = some v ∧ IsStrs w v s.labels ∧ (w.cell? ⟨b, o + 1, none⟩ = some (.int .i64 s.ins.op) ∧ w.cell? ⟨b, o + 2, none⟩ = some (.bool s.ins.reg) ∧ w.cell? ⟨b, o + 3, none⟩ = some (.int .i64 s.ins.dst) ∧
   w.cell? ⟨b, o + 4, none⟩ = some (.int .i64 s.ins.src) ∧ w.cell? ⟨b, o + 5, none⟩ = some (.int .i64 s.ins.off) ∧ w.cell? ⟨b, o + 6, none⟩ = some (.int .i64 s.ins.imm)) ∧ s.ins.Ok ∧
   (w.cell? ⟨b, o + 7, none⟩ = some (.string s.target) ∧ s.target.size ≤ 140737488355328) ∧ w.cell? ⟨b, o + 8, none⟩ = some (.string s.map) ∧ s.map.size ≤ 140737488355328
theorem EStmt.ext {w w' : World} {b o : Nat} {s : Stmt} (h : EStmt w b o s) (he : Ext w w') : EStmt w' b o s := by
  obtain ⟨v, h0, h1, h2, h3, h4, h5⟩ := h
  exact ⟨v, he.cell h0, IsStrs.ext h1 he, ⟨he.cell h2.1, he.cell h2.2.1, he.cell h2.2.2.1, he.cell h2.2.2.2.1, he.cell h2.2.2.2.2.1, he.cell h2.2.2.2.2.2⟩, h3, ⟨he.cell h4.1, h4.2⟩, he.cell h5.1, h5.2⟩
abbrev IsStmts := Sl 9 EStmt
theorem IsStmts.ext {w w' : World} {v : Value} {l : List Stmt} (h : IsStmts w v l) (he : Ext w w') : IsStmts w' v l := Sl.ext h fun _ _ _ k => k.ext he

structure Sec where
  kind : Int
  data : List Int
instance : Inhabited Sec := ⟨⟨0, []⟩⟩
def ESec (w : World) (b o : Nat) (x : Sec) : Prop := (w.cell? ⟨b, o, none⟩ = some (.int .i64 x.kind) ∧ I64 x.kind) ∧ ∃ v, w.cell? ⟨b, o + 1, none⟩ = some v ∧ IsB w v x.data
theorem ESec.ext {w w' : World} {b o : Nat} {x : Sec} (h : ESec w b o x) (he : Ext w w') : ESec w' b o x := by
  obtain ⟨h1, v, h2, h3⟩ := h
  exact ⟨⟨he.cell h1.1, h1.2⟩, v, he.cell h2, IsB.ext h3 he⟩
abbrev IsSecs := Sl 2 ESec
theorem IsSecs.ext {w w' : World} {v : Value} {l : List Sec} (h : IsSecs w v l) (he : Ext w w') : IsSecs w' v l := Sl.ext h fun _ _ _ k => k.ext he

structure Pr where
  maps : List Def
  stmts : List Stmt
structure Ob where
  maps : List Def
  code : List Int
  rels : List Rel
instance : Inhabited Ob := ⟨⟨[], [], []⟩⟩
/-- A program's value: two slices. -/
def IsPr (w : World) (v : Value) (p : Pr) : Prop := ∃ v1 v2, v = .agg #[v1, v2] ∧ IsDefs w v1 p.maps ∧ IsStmts w v2 p.stmts
theorem IsPr.ext {w w' : World} {v : Value} {p : Pr} (h : IsPr w v p) (he : Ext w w') : IsPr w' v p := by
  obtain ⟨v1, v2, rfl, h1, h2⟩ := h
  exact ⟨v1, v2, rfl, IsDefs.ext h1 he, IsStmts.ext h2 he⟩
def IsOb (w : World) (v : Value) (o : Ob) : Prop := ∃ v1 v2 v3, v = .agg #[v1, v2, v3] ∧ IsDefs w v1 o.maps ∧ IsB w v2 o.code ∧ IsRels w v3 o.rels
theorem IsOb.ext {w w' : World} {v : Value} {o : Ob} (h : IsOb w v o) (he : Ext w w') : IsOb w' v o := by
  obtain ⟨v1, v2, v3, rfl, h1, h2, h3⟩ := h
  exact ⟨v1, v2, v3, rfl, IsDefs.ext h1 he, IsB.ext h2 he, IsRels.ext h3 he⟩

theorem eqlNil {P : Program} {t e : TypeId} (h : P.underlying t = some (.slice e)) (a : Option Addr) (n c : Nat) (w : World) : (binOp .eql t (.slice a n c) (.slice none 0 0)).run P w = .ok (.bool a.isNone) w := by
  have hE : ∀ d : Nat, (Op.equalIn (d + 1) t (.slice a n c) (.slice none 0 0)).run P w = .ok a.isNone w := fun d => by
    cases a <;> simp [Op.equalIn, run_underlying h]
  simp only [binOp]
  simp [Op.equal, Op.maxDepth, hE 9999]
/-! ### slices that the call itself has built -/
/-- Every element is told by 'sz' plain cells. -/
structure EncOk {α : Type} (sz : Nat) (enc : α → List Value) : Prop where
  len : ∀ x, (enc x).length = sz
  one : ∀ x, ∀ u ∈ enc x, u.oneCell' = true
  pos : 0 < sz
structure TyOk (P : Program) (t e : TypeId) (sz bytes : Nat) (z : Value) : Prop where
  ht : P.underlying t = some (.slice e)
  hi : (P.info? e).map (fun i => (i.zero, i.size, i.bytes)) = some (some z, sz, bytes)
  hz : z.cells.size = sz
def Own {α : Type} (e : TypeId) (sz : Nat) (enc : α → List Value) (w : World) (base : Nat) (v : Value) (l : List α) : Prop := w.ownsRow base e sz v l.length (l.flatMap enc)

section
variable {α : Type} {e : TypeId} {sz : Nat} {enc : α → List Value} {w w' : World} {base : Nat} {v : Value} {l : List α}
theorem flat_length (C : EncOk sz enc) (l : List α) : (l.flatMap enc).length = l.length * sz := by
  induction l with
  | nil => simp
  | cons x l ih => simp only [List.flatMap_cons, List.length_append, C.len, ih, List.length_cons, Nat.add_mul]; omega
theorem flat_get (C : EncOk sz enc) (l : List α) (i j : Nat) (hj : j < sz) {x : α} (hx : l[i]? = some x) : (l.flatMap enc)[i * sz + j]? = (enc x)[j]? := by
  induction l generalizing i with
  | nil => simp at hx
  | cons y l ih =>
    cases i with
    | zero =>
      simp at hx; subst hx
      rw [List.flatMap_cons, List.getElem?_append_left (by rw [C.len]; omega)]; simp
    | succ i =>
      simp only [List.getElem?_cons_succ] at hx
      rw [List.flatMap_cons, List.getElem?_append_right (by rw [C.len, Nat.add_mul]; omega), C.len]
      rw [show (i + 1) * sz + j - sz = i * sz + j by rw [Nat.add_mul]; omega]
      exact ih i hx
theorem flat1 {β : Type} (f : α → β) (l : List α) : (l.flatMap fun x => [f x]) = l.map f := by induction l <;> simp_all
theorem Own.nil (e : TypeId) (sz : Nat) (enc : α → List Value) (w : World) (base : Nat) : Own e sz enc w base (.slice none 0 0) [] := World.ownsRow_nil _ _ _ _
theorem Own.kept {row : Option Nat} (h : Own e sz enc w base v l) (hg : w.grownBy w' row) (hne : v.ownBlock = none ∨ v.ownBlock ≠ row) : Own e sz enc w' base v l := World.ownsRow.kept h hg hne
theorem Own.ext (h : Own e sz enc w base v l) (hg : Ext w w') : Own e sz enc w' base v l := World.ownsRow.kept h (hg.toGrown none) (by cases v.ownBlock <;> simp)
theorem Own.alloc (h : Own e sz enc w base v l) (o : Obj) : Own e sz enc (w.alloc o) base v l := World.ownsRow.alloc h o
theorem Own.slice (h : Own e sz enc w base v l) : ∃ A c, v = .slice A l.length c := by
  rcases h.2 with ⟨rfl, h0⟩ | ⟨g, cap, cur, rfl, _⟩
  · exact ⟨none, 0, by rw [h0]⟩
  · exact ⟨_, cap, rfl⟩
theorem Own.base_le (h : Own e sz enc w base v l) : ∀ k, v.ownBlock = some k → base ≤ k := fun k hk => (World.ownsRow.lt h k hk).1
theorem Own.lt (h : Own e sz enc w base v l) : ∀ k, v.ownBlock = some k → k < w.heap.size := fun k hk => (World.ownsRow.lt h k hk).2
theorem Own.type_ne {β : Type} {e' : TypeId} {sz' : Nat} {enc' : β → List Value} {base' : Nat} {v' : Value} {l' : List β} (h : Own e sz enc w base v l) (h' : Own e' sz' enc' w base' v' l') (hne : e ≠ e') :
    v.ownBlock = none ∨ v.ownBlock ≠ v'.ownBlock := by
  rcases h.2 with ⟨rfl, _⟩ | ⟨g, cap, cur, rfl, _, hh, _⟩
  · exact .inl rfl
  · refine .inr fun hk => ?_
    rcases h'.2 with ⟨rfl, _⟩ | ⟨g', cap', cur', rfl, _, hh', _⟩
    · simp [Value.ownBlock] at hk
    · have : g = g' := by simpa [Value.ownBlock] using hk
      subst this
      rw [hh] at hh'
      injection hh' with hh'
      injection hh' with _ ht
      exact hne ht
/-- What was built is read. -/
theorem Own.read {E : World → Nat → Nat → α → Prop} (C : EncOk sz enc) (h : Own e sz enc w base v l) (hl : l.length ≤ 281474976710656)
    (hE : ∀ x, x ∈ l → ∀ b o, (∀ j u, (enc x)[j]? = some u → w.cell? ⟨b, o + j, none⟩ = some u) → E w b o x) : Sl sz E w v l := by
  have h' := h
  rcases h.2 with ⟨rfl, h0⟩ | ⟨g, cap, cur, rfl, _, hh, hc1, hc2, _⟩
  · obtain rfl : l = [] := List.eq_nil_of_length_eq_zero h0
    exact Sl.nil w
  · refine ⟨_, cap, rfl, ⟨hc1, hc2⟩, hl, (fun h => by cases h), fun i x hx => ⟨g, 0, rfl, hE x (List.mem_of_getElem? hx) g _ fun j u hu => ?_⟩⟩
    have hj : j < sz := by have := (List.getElem?_eq_some_iff.1 hu).1; rw [C.len] at this; exact this
    have hi := (List.getElem?_eq_some_iff.1 hx).1
    have hc := World.ownsRow.cellAt h' (i * sz + j) (by
      have : (i + 1) * sz ≤ l.length * sz := Nat.mul_le_mul_right _ hi
      rw [Nat.add_mul] at this; omega)
    rw [Nat.zero_add, hc, flat_get C l i j hj hx, hu]
end

/-- The cells that an append takes over. -/
def Src (w : World) (v : Value) (m : Nat) (cells : List Value) : Prop :=
  ∃ A c, v = .slice A m c ∧ (A = none → c = 0 ∧ m = 0) ∧ ∀ j u, cells[j]? = some u → ∃ b o, A = some ⟨b, o, none⟩ ∧ w.cell? ⟨b, o + j, none⟩ = some u

theorem add_plain (g o j : Nat) : (⟨g, o, none⟩ : Addr).add j = ⟨g, o + j, none⟩ := by unfold Addr.add; split <;> simp_all

section
variable {P : Program} {ops : Array Oper} {rest : List Oper} {o : Oper} {a : Act} {Q : Exit → Act → World → Prop} {α : Type} {e : TypeId} {sz bytes : Nat} {enc : α → List Value} {z : Value} {t : TypeId}

theorem run_appS {w : World} (T : TyOk P t e sz bytes z) (C : EncOk sz enc) (ty : TypeId) (base : Nat) (v : Value) (l : List α) (y : Value) (l2 : List α)
    (HO : Own e sz enc w base v l) (hS : Src w y l2.length (l2.flatMap enc)) (hbase : base ≤ w.heap.size) (hl : (l.length + l2.length) * bytes ≤ 140737488355328) (hl2 : l.length + l2.length ≤ 140737488355328) :
    ∃ v' w', (Builtin.append_ #[t, t] ty #[v, y]).run P w = .ok v' w' ∧ Own e sz enc w' base v' (l ++ l2) ∧ w.grownBy w' v.ownBlock ∧ (v'.ownBlock = v.ownBlock ∨ v'.ownBlock = some w.heap.size) := by
  obtain ⟨i0, hi, hzz⟩ := Option.map_eq_some_iff.1 T.hi
  simp only [Prod.mk.injEq] at hzz
  obtain ⟨hz0, hz1, hz2⟩ := hzz
  obtain ⟨A, c, rfl, hA, hcells⟩ := hS
  cases A with
  | none =>
    obtain ⟨rfl, h0⟩ := hA rfl
    obtain rfl : l2 = [] := List.eq_nil_of_length_eq_zero h0
    refine ⟨v, w, by simpa using run_append_owned_none (P := P) (w := w) base t ty e i0 sz T.ht hi v l.length (l.flatMap enc) HO, by simpa using HO, World.grownBy.refl _ _, .inl rfl⟩
  | some ad =>
    obtain ⟨v', w', h1, h2, h3, _, h5⟩ := run_append_own_at (P := P) (w := w) base t ty e i0 z sz bytes T.ht hi hz0 hz1 hz2 T.hz C.pos v l.length (l.flatMap enc) HO ad l2.length c (l2.flatMap enc)
      (flat_length C l2) (fun j u hu => by
        obtain ⟨b, o, hb, hc⟩ := hcells j u hu
        cases hb
        rw [add_plain]; exact hc)
      (fun u hu => by
        obtain ⟨x, _, hx⟩ := List.mem_flatMap.1 hu
        exact C.one x u hx)
      (by simp only [maxLen]; omega) hl hbase
    exact ⟨v', w', h1, by unfold Own; rw [List.length_append, List.flatMap_append]; exact h2, h3, h5⟩

/-- append(v, ys...): what is appended is read. -/
theorem wp_appS {w : World} (T : TyOk P t e sz bytes z) (C : EncOk sz enc) {base : Nat} {v : Value} {l : List α} {y : Value} {l2 : List α} (HO : Own e sz enc w base v l) (hS : Src w y l2.length (l2.flatMap enc)) (hgd : o.guard = none) {s x : Operand}
    (ho : o.op = .call { callee := .builtin .append, args := #[s, x], argTypes := #[t, t] }) (hs : a.eval s = v) (hx : a.eval x = y) (hbase : base ≤ w.heap.size) (hl : (l.length + l2.length) * bytes ≤ 140737488355328) (hl2 : l.length + l2.length ≤ 140737488355328)
    (h : ∀ v' w', Own e sz enc w' base v' (l ++ l2) → w.grownBy w' v.ownBlock → (v'.ownBlock = v.ownBlock ∨ v'.ownBlock = some w.heap.size) → wpList P ops Q rest (a.put o.dst v') w') :
    wpList P ops Q (o :: rest) a w := by
  refine wpList_plain hgd fun K hK => ?_
  obtain ⟨v', w', hr, h2, h3, h4⟩ := run_appS (P := P) T C o.type base v l y l2 HO hS hbase hl hl2
  unfold Oper.wp execOp
  simp only [ho, resolve, invoke, builtin, Sem.run_bind, Sem.run_pure, Result.andThen_ok, List.map_toArray, List.map_cons, List.map_nil, hs, hx, hr]
  exact hK _ _ (h v' w' h2 h3 h4)

/-- append(v, y): behind the box that holds y's cells. -/
theorem wp_app1 {W : World} (T : TyOk P t e sz bytes z) (C : EncOk sz enc) {base : Nat} {v : Value} {l : List α} (HO : Own e sz enc W base v l) (y : α) {cs : Array Value} (hcs : cs.toList = enc y) (hgd : o.guard = none) {s x : Operand}
    (ho : o.op = .call { callee := .builtin .append, args := #[s, x], argTypes := #[t, t] })
    (hs : a.eval s = v) (hx : a.eval x = .slice (some ⟨W.heap.size, 0, none⟩) 1 1) (hbase : base ≤ W.heap.size) (hb0 : 0 < bytes) (hl : (l.length + 1) * bytes ≤ 140737488355328)
    (h : ∀ g cap w1, Own e sz enc w1 base (.slice (some ⟨g, 0, none⟩) (l.length + 1) cap) (l ++ [y]) → W.grownBy w1 v.ownBlock → (v.ownBlock = some g ∨ W.heap.size < g) → base ≤ g →
      wpList P ops Q rest (a.put o.dst (.slice (some ⟨g, 0, none⟩) (l.length + 1) cap)) w1) :
    wpList P ops Q (o :: rest) a (W.alloc (.cells cs e)) := by
  have hlen : l.length + 1 ≤ 140737488355328 := Nat.le_trans (Nat.le_mul_of_pos_right _ hb0) hl
  have hw := wp_appS (P := P) (ops := ops) (rest := rest) (o := o) (a := a) (Q := Q) (w := W.alloc (.cells cs e)) (y := .slice (some ⟨W.heap.size, 0, none⟩) 1 1) (l2 := [y]) T C (HO.alloc _)
    ⟨_, 1, rfl, fun h => by simp at h, fun j u hu => ⟨W.heap.size, 0, rfl, by
      have := World.news_of_block (w := W.alloc (.cells cs e)) (B := W.heap.size) (cs := cs) (t := e) (fr := (0, 0)) (heap_alloc_new W _) j u (by simpa [hcs] using hu)
      rwa [add_plain] at this⟩⟩ hgd ho hs hx
    (by simp; omega) (by simpa using hl) (by simpa using hlen)
  refine hw fun v' w' h1 h2 h3 => ?_
  have hpos : 0 < (l ++ [y]).length := by simp
  obtain ⟨g, cap, hv, hbg, _⟩ := World.ownsRow.form h1 hpos
  simp only [List.length_append, List.length_cons, List.length_nil, Nat.zero_add] at hv
  subst hv
  refine h g cap w' h1 (World.grownBy.trans (World.grownBy_alloc W _ _) h2) ?_ hbg
  rcases h3 with h3 | h3
  · exact .inl (by rw [← h3]; rfl)
  · refine .inr ?_
    simp [Value.ownBlock] at h3
    omega
end

/-- A slice without spare room, whatever block it lies in: an append makes a new row. -/
def Full {α : Type} (enc : α → List Value) (w : World) (base : Nat) (v : Value) (l : List α) : Prop :=
  ∃ A, v = .slice A l.length l.length ∧ (A = none → l.length = 0) ∧ (∀ b, A = some b → ∀ j u, (l.flatMap enc)[j]? = some u → w.cell? (b.add j) = some u) ∧ ∀ k, v.ownBlock = some k → base ≤ k
/-- What an append of one element more takes: the call's own, or full. -/
def App {α : Type} (e : TypeId) (sz : Nat) (enc : α → List Value) (w : World) (base : Nat) (v : Value) (l : List α) : Prop := Own e sz enc w base v l ∨ Full enc w base v l
section
variable {P : Program} {ops : Array Oper} {rest : List Oper} {o : Oper} {a : Act} {Q : Exit → Act → World → Prop} {α : Type} {e : TypeId} {sz bytes : Nat} {enc : α → List Value} {z : Value} {t : TypeId}
theorem App.base_le {w : World} {base : Nat} {v : Value} {l : List α} (h : App e sz enc w base v l) : ∀ k, v.ownBlock = some k → base ≤ k := by
  rcases h with h | ⟨_, _, _, _, h⟩
  · exact h.base_le
  · exact h
theorem App.slice {w : World} {base : Nat} {v : Value} {l : List α} (h : App e sz enc w base v l) : ∃ A c, v = .slice A l.length c := by
  rcases h with h | ⟨A, rfl, _⟩
  · exact h.slice
  · exact ⟨_, _, rfl⟩
end

/-- A slice of the call's own has been appended to: v' lies where v lay, or in a new block; besides that row nothing old has turned. -/
def Grew (w w' : World) (v v' : Value) : Prop := w.grownBy w' v.ownBlock ∧ (v'.ownBlock = v.ownBlock ∨ ∃ b, v'.ownBlock = some b ∧ w.heap.size ≤ b)
theorem Grew.refl (w : World) (v : Value) : Grew w w v v := ⟨World.grownBy.refl _ _, .inl rfl⟩
theorem Grew.ofExt {w w' : World} (h : Ext w w') (v : Value) : Grew w w' v v := ⟨h.toGrown _, .inl rfl⟩
theorem Grew.trans {w w1 w2 : World} {v v1 v2 : Value} (h : Grew w w1 v v1) (k : Grew w1 w2 v1 v2) : Grew w w2 v v2 := by
  refine ⟨⟨k.1.os.trans h.1.os, k.1.tape.trans h.1.tape, k.1.output.trans h.1.output, Nat.le_trans h.1.size k.1.size, fun i hi hne => ?_⟩, ?_⟩
  · rw [k.1.block i (Nat.lt_of_lt_of_le hi h.1.size) ?_, h.1.block i hi hne]
    rcases h.2 with h2 | ⟨b, h2, h3⟩
    · rw [h2]; exact hne
    · rw [h2]; intro e; injection e with e; omega
  · rcases k.2 with k2 | ⟨b, k2, k3⟩
    · rw [k2]; exact h.2
    · exact .inr ⟨b, k2, Nat.le_trans h.1.size k3⟩
theorem Grew.size {w w' : World} {v v' : Value} (h : Grew w w' v v') : w.heap.size ≤ w'.heap.size := h.1.size
theorem Grew.alloc {w w' : World} {v v' : Value} (h : Grew w w' v v') (o : Obj) : Grew w (w'.alloc o) v v' := h.trans (Grew.ofExt (Ext.new _ _) _)
theorem Grew.base {w w' : World} {v v' : Value} {B : Nat} (h : Grew w w' v v') (hB : B ≤ w.heap.size) (hv : ∀ k, v.ownBlock = some k → B ≤ k) : ∀ k, v'.ownBlock = some k → B ≤ k := by
  intro k hk
  rcases h.2 with h2 | ⟨b, h2, h3⟩
  · exact hv k (by rw [← h2]; exact hk)
  · rw [h2] at hk; injection hk with hk; omega
theorem encB_ok : EncOk 1 (fun x : Int => [Value.int .u8 x]) := ⟨fun _ => rfl, fun x u hu => by simp at hu; subst hu; rfl, by decide⟩
theorem encI_ok : EncOk 1 (fun x : Int => [Value.int .i64 x]) := ⟨fun _ => rfl, fun x u hu => by simp at hu; subst hu; rfl, by decide⟩
theorem encS_ok : EncOk 1 (fun x : ByteArray => [Value.string x]) := ⟨fun _ => rfl, fun x u hu => by simp at hu; subst hu; rfl, by decide⟩
theorem encN_ok : EncOk 6 Ins.enc := ⟨fun _ => rfl, fun x u hu => by simp [Ins.enc] at hu; rcases hu with rfl | rfl | rfl | rfl | rfl | rfl <;> rfl, by decide⟩
abbrev OwnB := Own 5 1 (fun x : Int => [Value.int .u8 x])
abbrev OwnI := Own 3 1 (fun x : Int => [Value.int .i64 x])
abbrev OwnS := Own 9 1 (fun x : ByteArray => [Value.string x])
abbrev OwnN := Own 53 6 Ins.enc
theorem tyB : TyOk Tryz.prog 26 5 1 1 (.int .u8 0) := ⟨Tryz.underlying26, by kernel_rfl, rfl⟩
theorem tyI : TyOk Tryz.prog 43 3 1 8 (.int .i64 0) := ⟨Tryz.underlying43, by kernel_rfl, rfl⟩
theorem tyS : TyOk Tryz.prog 51 9 1 16 (.string ⟨#[]⟩) := ⟨Tryz.underlying51, by kernel_rfl, rfl⟩
theorem tyN : TyOk Tryz.prog 72 53 6 48 (.agg #[.int .i64 0, .bool false, .int .i64 0, .int .i64 0, .int .i64 0, .int .i64 0]) := ⟨Tryz.underlying72, by kernel_rfl, rfl⟩

end Go.Proofs.YtmnbalbiehlkpaaGreatDoor


set_option linter.unusedVariables false
set_option linter.unusedSimpArgs false
namespace Go.Proofs.YtmnbalbiehlkpaaGreatDoor
open Go.RowKit

/-- The n least significant bytes of x, the least one first. -/
def le : Nat → Int → List Int
 | 0, _ => []
 | n + 1, x => x % 256 :: le n (x / 256)
/-- A block of bytes, whole. -/
def RowB (w : World) (g : Nat) (l : List Int) : Prop := w.heap[g]? = some (.cells (l.map (Value.int .u8)).toArray 5 (0, 0))
theorem RowB.cell {w : World} {g : Nat} {l : List Int} (h : RowB w g l) {i : Nat} {y : Int} (hy : l[i]? = some y) : w.cell? ⟨g, i, none⟩ = some (.int .u8 y) := by
 simp [World.cell?, show w.heap[g]? = _ from h, hy]
theorem RowB.frozen {w : World} {g : Nat} {l : List Int} (h : RowB w g l) (i : Nat) : w.frozen? ⟨g, i, none⟩ = false := by
 simp [World.frozen?, show w.heap[g]? = _ from h]
theorem RowB.set {w : World} {g : Nat} {l : List Int} (h : RowB w g l) (i : Nat) (y : Int) : RowB (w.setCell ⟨g, i, none⟩ (.int .u8 y)) g (l.set i y) := by
 unfold RowB at *
 simp only [World.setCell, Array.getElem?_modify, h, if_true, Option.map_some]
 simp [List.map_set]
theorem RowB.lt {w : World} {g : Nat} {l : List Int} (h : RowB w g l) : g < w.heap.size := (Array.getElem?_eq_some_iff.1 h).1
theorem RowB.keep {w w' : World} {g : Nat} {l : List Int} {row : Option Nat} (h : RowB w g l) (hg : w.grownBy w' row) (hne : some g ≠ row) : RowB w' g l :=
 (hg.block g h.lt hne).trans h
theorem RowB.ext {w w' : World} {g : Nat} {l : List Int} (h : RowB w g l) (hg : Ext w w') : RowB w' g l := hg.obj h

def up (n : Int) : Int := (n + 7) / 8 * 8
def secSize (l : List Sec) : Int := up (16 + 12 * l.length) + (l.map fun s => up s.data.length).sum
def rowsOf : Int → List Sec → List Int
 | _, [] => []
 | at_, s :: l => le 4 s.kind ++ (le 4 at_ ++ (le 4 s.data.length ++ rowsOf (at_ + up s.data.length) l))
def pad8 (l : List Int) : List Int := l ++ List.replicate ((up l.length).toNat - l.length) 0
def headB (l : List Sec) : List Int := [83, 76, 67, 49] ++ (le 2 1 ++ (le 2 l.length ++ (le 4 (secSize l) ++ le 4 0)))
def boxOf (l : List Sec) : List Int := pad8 (headB l ++ rowsOf (up (16 + 12 * l.length)) l) ++ l.flatMap fun s => pad8 s.data
theorem Sl.src {w : World} {v : Value} {l : List Int} (h : IsB w v l) : Src w v l.length (l.flatMap fun x : Int => [Value.int .u8 x]) := by
 obtain ⟨A, c, rfl, h1, h2, hn, h4⟩ := h
 refine ⟨A, c, rfl, fun e => ⟨hn e, by have := hn e; omega⟩, fun j u hu => ?_⟩
 have e : (l.flatMap fun x : Int => [Value.int .u8 x]) = l.map (Value.int .u8) := flat1 _ _
 rw [e, List.getElem?_map, Option.map_eq_some_iff] at hu
 obtain ⟨x, hx, rfl⟩ := hu
 obtain ⟨b, o, hA, hE⟩ := h4 j x hx
 exact ⟨b, o, hA, by rw [Nat.mul_one] at hE; exact hE.1⟩
theorem OwnB.lit (W : World) (base : Nat) (cs : List Int) (hb : base ≤ W.heap.size) (hm : cs.length ≤ 1000000) :
  OwnB (W.alloc (.cells (cs.map (Value.int .u8)).toArray 5)) base (.slice (some ⟨W.heap.size, 0, none⟩) cs.length cs.length) cs := by
 have h := World.ownsRow_lit (base := base) (e := 5) (size := 1) W (cs.map (Value.int .u8)).toArray cs.length hb (by simp only [maxLen]; omega) (by simp)
 unfold OwnB Own
 have e : (cs.flatMap fun x : Int => [Value.int .u8 x]) = cs.map (Value.int .u8) := flat1 _ _
 rw [e]; simpa using h

end Go.Proofs.YtmnbalbiehlkpaaGreatDoor


set_option linter.unusedVariables false
set_option linter.unusedSimpArgs false
namespace Go.Proofs.YtmnbalbiehlkpaaGreatDoor
open Go.RowKit

end Go.Proofs.YtmnbalbiehlkpaaGreatDoor


set_option linter.unusedVariables false
set_option linter.unusedSimpArgs false
namespace Go.Proofs.YtmnbalbiehlkpaaGreatDoor
open Go.RowKit

def kindsOk : Int → List Sec → Bool
 | _, [] => true
 | last, s :: l => decide (last < s.kind ∧ s.kind ≤ 65535) && kindsOk s.kind l
def secErr (l : List Sec) : Int := if l.length > 16 ∨ secSize l > 1073741824 then 16 else if kindsOk 0 l then 0 else 4
end Go.Proofs.YtmnbalbiehlkpaaGreatDoor


set_option linter.unusedVariables false
set_option linter.unusedSimpArgs false
namespace Go.Proofs.YtmnbalbiehlkpaaGreatDoor
open Go.RowKit Go.Lib

/-- The bytes of a text. -/
def bytesOf (s : ByteArray) : List Int := s.data.toList.map fun b => (b.toNat : Int)
section
variable {P : Program} {ops : Array Oper} {rest : List Oper} {o : Oper} {a : Act} {Q : Exit → Act → World → Prop}
theorem RowB.setRow {w : World} {g : Nat} {L : List Int} (h : RowB w g L) (L' : List Int) : RowB (w.setRow g (L'.map (Value.int .u8)).toArray) g L' := by
 unfold RowB at *
 simp only [World.setRow, Array.getElem?_modify, h, if_true, Option.map_some]
end
/-- A row under work: what is laid so far, room, data, room. -/
def st (R : List Int) (r1 : Nat) (D : List Int) (r2 : Nat) : List Int := R ++ (List.replicate r1 0 ++ (D ++ List.replicate r2 0))
end Go.Proofs.YtmnbalbiehlkpaaGreatDoor


set_option linter.unusedVariables false
set_option linter.unusedSimpArgs false
namespace Go.Proofs.YtmnbalbiehlkpaaGreatDoor
open Go.RowKit Go.Lib

theorem RowB.read {w : World} {g N : Nat} {L : List Int} (h : RowB w g L) (hb : Byt L) (hN : L.length = N) (hL : L.length ≤ 1000000000000) : IsB w (.slice (some ⟨g, 0, none⟩) N N) L := by
 subst hN
 refine ⟨_, L.length, rfl, ⟨Nat.le_refl _, by simp only [maxLen]; omega⟩, by omega, (fun h => by cases h), fun i x hx => ⟨g, 0, rfl, ?_, hb x (List.mem_of_getElem? hx)⟩⟩
 rw [Nat.mul_one, Nat.zero_add]; exact h.cell hx

end Go.Proofs.YtmnbalbiehlkpaaGreatDoor


set_option linter.unusedVariables false
set_option linter.unusedSimpArgs false
namespace Go.Proofs.YtmnbalbiehlkpaaGreatDoor
open Go.RowKit Go.Lib

/-- A block of one cell. -/
def OneC (w : World) (g : Nat) (v : Value) (t : TypeId) : Prop := w.heap[g]? = some (.cells #[v] t (0, 0))
theorem OneC.cell {w : World} {g : Nat} {v : Value} {t : TypeId} (h : OneC w g v t) : w.cell? ⟨g, 0, none⟩ = some v := by simp [World.cell?, show w.heap[g]? = _ from h]
theorem OneC.frozen {w : World} {g : Nat} {v : Value} {t : TypeId} (h : OneC w g v t) : w.frozen? ⟨g, 0, none⟩ = false := by simp [World.frozen?, show w.heap[g]? = _ from h]
theorem OneC.set {w : World} {g : Nat} {v : Value} {t : TypeId} (h : OneC w g v t) (u : Value) : OneC (w.setCell ⟨g, 0, none⟩ u) g u t := by
 unfold OneC at *
 simp only [World.setCell, Array.getElem?_modify, h, if_true, Option.map_some]
 simp
theorem OneC.lt {w : World} {g : Nat} {v : Value} {t : TypeId} (h : OneC w g v t) : g < w.heap.size := (Array.getElem?_eq_some_iff.1 h).1
theorem OneC.keep {w w' : World} {g : Nat} {v : Value} {t : TypeId} {row : Option Nat} (h : OneC w g v t) (hg : w.grownBy w' row) (hne : some g ≠ row) : OneC w' g v t := (hg.block g h.lt hne).trans h
theorem OneC.ext {w w' : World} {g : Nat} {v : Value} {t : TypeId} (h : OneC w g v t) (hg : Ext w w') : OneC w' g v t := hg.obj h
theorem OneC.new (w : World) (v : Value) (t : TypeId) : OneC (w.alloc (.cells #[v] t)) w.heap.size v t := heap_alloc_new w _
theorem OneC.drew {w : World} {g : Nat} {v : Value} {t : TypeId} (h : OneC w g v t) : OneC w.drew g v t := h

theorem Own.lit0 {α : Type} {e : TypeId} {sz : Nat} {enc : α → List Value} (W : World) (base : Nat) (hb : base ≤ W.heap.size) : Own e sz enc (W.alloc (.cells #[] e)) base (.slice (some ⟨W.heap.size, 0, none⟩) 0 0) ([] : List α) := by
 have h := World.ownsRow_lit (base := base) (e := e) (size := sz) W #[] 0 hb (by simp [maxLen]) (by simp)
 simpa [Own] using h
theorem OwnB.read {w : World} {base : Nat} {v : Value} {l : List Int} (h : OwnB w base v l) (hb : Byt l) (hl : l.length ≤ 281474976710656) : IsB w v l :=
 Own.read encB_ok h hl fun x hx b o hc => ⟨by simpa using hc 0 (.int .u8 x) rfl, hb x hx⟩

set_option maxRecDepth 20000 in
set_option maxHeartbeats 400000 in
theorem cloneB_any (v : Value) (l : List Int) (w : World) (hv : IsB w v l) (hl : l.length ≤ 100000000000000) :
  Calls Tryz.prog 77 #[v] w fun e w' => ∃ v', e = .returned v' ∧ OwnB w' w.heap.size v' l ∧ Ext w w' := by
 have hv0 := hv
 obtain ⟨A, c, rfl, h1, h2, hn, h4⟩ := hv
 cases A with
 | none =>
  have hc := hn rfl
  have hl0 : l.length = 0 := by omega
  obtain rfl : l = [] := List.eq_nil_of_length_eq_zero hl0
  have he := eqlNil (P := Tryz.prog) Tryz.underlying26
  go_enter Tryz.func77, Tryz.ntmps77
  go_wp2
  go_ret
  exact ⟨_, rfl, Own.nil _ _ _ _ _, Ext.refl _⟩
 | some ad =>
  have he := eqlNil (P := Tryz.prog) Tryz.underlying26
  have ho := Own.lit0 (e := 5) (sz := 1) (enc := fun x : Int => [Value.int .u8 x]) w w.heap.size (Nat.le_refl _)
  have hs := Sl.src (IsB.ext hv0 (Ext.new w (.cells #[] 5)))
  go_enter Tryz.func77, Tryz.ntmps77
  go_wp2_with (at_builtin; refine wp_appS tyB encB_ok ho hs rfl rfl rfl rfl (by simp) (by simpa using Nat.le_trans hl (by decide)) (by simpa using Nat.le_trans hl (by decide)) ?_; intro v1 w1 o1 g1 a1)
  go_ret
  exact ⟨v1, rfl, by simpa using o1, (Ext.new w _).grown g1 (fun k hk => by simp [Value.ownBlock] at hk; omega)⟩

def inR (l : List Int) (a n : Int) : Bool := decide (a ≤ l.length ∧ n ≤ l.length - a)
def partOf (l : List Int) (a n : Int) : List Int := if inR l a n then (l.drop a.toNat).take n.toNat else []
def lval : List Int → Int
 | [] => 0
 | c :: l => c + 256 * lval l
def numOf (l : List Int) (a n : Int) : Int := lval (partOf l a n)

theorem IsB.part {w : World} {A : Option Addr} {c : Nat} {l : List Int} (h : IsB w (.slice A l.length c) l) (i n : Nat) (hi : i + n ≤ l.length) (A' : Option Addr)
  (hA : ∀ b o, A = some ⟨b, o, none⟩ → i < l.length → A' = some ⟨b, o + i, none⟩) (hn : A' = none → c - i = 0) : IsB w (.slice A' n (c - i)) ((l.drop i).take n) := by
 have h2 := Sl.part h i (i + n) (by omega) hi A' (fun b o hb hlt => by rw [Nat.mul_one]; exact hA b o hb hlt) hn
 rw [Nat.add_sub_cancel_left] at h2
 exact h2

end Go.Proofs.YtmnbalbiehlkpaaGreatDoor


set_option linter.unusedVariables false
set_option linter.unusedSimpArgs false
namespace Go.Proofs.YtmnbalbiehlkpaaGreatDoor
open Go.RowKit Go.Lib

theorem eq_split {α : Type} {a b pre suf1 suf2 : List α} (h1 : a = pre ++ suf1) (h2 : b = pre ++ suf2) (hl : a.length = b.length) : suf1.length = suf2.length := by
 subst h1 h2; simpa using hl

end Go.Proofs.YtmnbalbiehlkpaaGreatDoor


set_option linter.unusedVariables false
set_option linter.unusedSimpArgs false
namespace Go.Proofs.YtmnbalbiehlkpaaGreatDoor
open Go.RowKit Go.Lib

def secAt (b : List Int) (i : Nat) : Sec := ⟨numOf b (16 + 12 * i) 4, partOf b (numOf b (20 + 12 * i) 4) (numOf b (24 + 12 * i) 4)⟩
def secTab (b : List Int) (n : Nat) : List Sec := (List.range n).map (secAt b)
def secIn (b : List Int) (i : Nat) : Bool := inR b (20 + 12 * i) 4 && inR b (24 + 12 * i) 4 && inR b (numOf b (20 + 12 * i) 4) (numOf b (24 + 12 * i) 4) && inR b (16 + 12 * i) 4
def secsIn (b : List Int) (n : Nat) : Bool := (List.range n).all (secIn b)
def rdN (b : List Int) : Nat := (numOf b 6 2).toNat
def rdOk (b : List Int) : Prop := inR b 6 2 = true ∧ rdN b ≤ 16 ∧ secsIn b (rdN b) = true ∧ secErr (secTab b (rdN b)) = 0 ∧ boxOf (secTab b (rdN b)) = b
instance (b : List Int) : Decidable (rdOk b) := inferInstanceAs (Decidable (_ ∧ _))
def rdOut (b : List Int) : List Sec := if rdOk b then secTab b (rdN b) else []
/-- A section beside the value of its data. -/
structure SecV where
  kind : Int
  A : Option Addr
  n : Nat
  c : Nat
  data : List Int
def SecV.enc (s : SecV) : List Value := [.int .i64 s.kind, .slice s.A s.n s.c]
def SecV.sec (s : SecV) : Sec := ⟨s.kind, s.data⟩
theorem encV_ok : EncOk 2 SecV.enc := ⟨fun _ => rfl, fun x u hu => by simp [SecV.enc] at hu; rcases hu with rfl | rfl <;> rfl, by decide⟩
def OwnSecs (e : TypeId) (w : World) (base : Nat) (v : Value) (l : List SecV) : Prop := Own e 2 SecV.enc w base v l ∧ ∀ s ∈ l, OwnB w base (.slice s.A s.n s.c) s.data ∧ I64 s.kind ∧ Byt s.data ∧ s.data.length ≤ 1000000000000
theorem OwnSecs.nil (e : TypeId) (w : World) (base : Nat) : OwnSecs e w base (.slice none 0 0) [] := ⟨Own.nil _ _ _ _ _, fun s hs => by cases hs⟩
theorem OwnSecs.ext {e : TypeId} {w w' : World} {base : Nat} {v : Value} {l : List SecV} (h : OwnSecs e w base v l) (he : Ext w w') : OwnSecs e w' base v l :=
  ⟨h.1.ext he, fun s hs => ⟨(h.2 s hs).1.ext he, (h.2 s hs).2⟩⟩
theorem OwnSecs.keep {e : TypeId} {w w' : World} {base : Nat} {v : Value} {l : List SecV} {g : Nat} (h : OwnSecs e w base v l) (hg : w.grownBy w' (some g)) (hb : g < base) : OwnSecs e w' base v l :=
  ⟨h.1.kept hg (by
      cases hv : v.ownBlock with
      | none => exact .inl rfl
      | some k => exact .inr fun e => by injection e with e; have := h.1.base_le k hv; omega),
   fun s hs => ⟨(h.2 s hs).1.kept hg (by
      cases hv : (Value.slice s.A s.n s.c).ownBlock with
      | none => exact .inl rfl
      | some k => exact .inr fun e => by injection e with e; have := (h.2 s hs).1.base_le k hv; omega), (h.2 s hs).2⟩⟩
theorem OwnSecs.read {e : TypeId} {w : World} {base : Nat} {v : Value} {l : List SecV} (h : OwnSecs e w base v l) (hl : l.length ≤ 1000000) : IsSecs w v (l.map SecV.sec) := by
  have h1 : Sl 2 (fun w b o (s : SecV) => ESec w b o s.sec) w v l := Own.read encV_ok h.1 (by omega) fun s hs b o hc => by
    obtain ⟨h1, h2, h3, h4⟩ := h.2 s hs
    exact ⟨⟨by simpa [SecV.sec] using hc 0 (.int .i64 s.kind) rfl, h2⟩, _, hc 1 _ rfl, OwnB.read h1 h3 (by show s.data.length ≤ _; omega)⟩
  obtain ⟨A, c, rfl, h2, h3, h4, h5⟩ := h1
  refine ⟨A, c, by simp, by simpa using h2, by simpa using h3, h4, fun i x hx => ?_⟩
  rw [List.getElem?_map, Option.map_eq_some_iff] at hx
  obtain ⟨s, hs, rfl⟩ := hx
  exact h5 i s hs
end Go.Proofs.YtmnbalbiehlkpaaGreatDoor


set_option linter.unusedVariables false
set_option linter.unusedSimpArgs false
namespace Go.Proofs.YtmnbalbiehlkpaaGreatDoor
open Go.RowKit Go.Lib

end Go.Proofs.YtmnbalbiehlkpaaGreatDoor


set_option linter.unusedVariables false
set_option linter.unusedSimpArgs false
namespace Go.Proofs.YtmnbalbiehlkpaaGreatDoor
open Go.RowKit Go.Lib

/-- Where s[i:] begins. -/
def subA (A : Option Addr) (c i : Nat) : Option Addr := if c = i then A else A.map fun x => x.add i
theorem IsB.sub {w : World} {A : Option Addr} {n c : Nat} {l : List Int} (h : IsB w (.slice A n c) l) (i m : Nat) (hm : i + m ≤ l.length) : IsB w (.slice (subA A c i) m (c - i)) ((l.drop i).take m) := by
 obtain ⟨hln, hnc, _⟩ := h.len_eq
 subst hln
 unfold subA
 split
 ·rename_i e
  have hm0 : m = 0 := by omega
  subst hm0
  rw [List.take_zero]
  exact Sl.empty (fun _ => by omega) (by simp [e])
 ·refine IsB.part h i m hm _ (fun b o hA _ => by subst hA; simp [add_plain]) (fun h' => ?_)
  obtain ⟨_, _, e1, _, _, e2, _⟩ := h
  cases e1
  have := e2 (by cases A <;> simp_all)
  omega
end Go.Proofs.YtmnbalbiehlkpaaGreatDoor
