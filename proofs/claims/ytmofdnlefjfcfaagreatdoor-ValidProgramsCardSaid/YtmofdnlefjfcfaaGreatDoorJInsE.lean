/- The layer insn: the error of an instruction, as one plain function; Uses. -/
import Derived.Test.YtmofdnlefjfcfaaGreatDoorJSlot
import Derived.Deep.DeepCutAuto
import Derived.Test.YtmofdnlefjfcfaaGreatDoorJEq
import Derived.Test.YtmofdnlefjfcfaaGreatDoorJIdentR
import Derived.Laws.EntriesVeiled
set_option linter.unusedVariables false
set_option linter.unusedSimpArgs false
namespace Go.Proofs.YtmofdnlefjfcfaaGreatDoor
open Go.RowKit

/-- A block of plain cells. -/
def RowV (w : World) (g : Nat) (t : TypeId) (l : List Value) : Prop := w.heap[g]? = some (.cells l.toArray t (0, 0))
section
variable {w w' : World} {g : Nat} {t : TypeId} {l : List Value}
theorem RowV.cell (h : RowV w g t l) {i : Nat} {v : Value} (hv : l[i]? = some v) : w.cell? ⟨g, i, none⟩ = some v := by simp [World.cell?, show w.heap[g]? = _ from h, hv]
theorem RowV.frozen (h : RowV w g t l) (i : Nat) : w.frozen? ⟨g, i, none⟩ = false := by simp [World.frozen?, show w.heap[g]? = _ from h]
theorem RowV.lt (h : RowV w g t l) : g < w.heap.size := (Array.getElem?_eq_some_iff.1 h).1
theorem RowV.ext (h : RowV w g t l) (he : Ext w w') : RowV w' g t l := he.obj h
theorem RowV.keep {row : Option Nat} (h : RowV w g t l) (hg : w.grownBy w' row) (hne : some g ≠ row) : RowV w' g t l := (hg.block g h.lt hne).trans h
theorem RowV.new (w : World) (l : List Value) (t : TypeId) : RowV (w.alloc (.cells l.toArray t)) w.heap.size t l := heap_alloc_new w _
theorem RowV.set (h : RowV w g t l) (i : Nat) (u : Value) : RowV (w.setCell ⟨g, i, none⟩ u) g t (l.set i u) := by
 unfold RowV at *
 simp only [World.setCell, Array.getElem?_modify, h, if_true, Option.map_some]
 simp
end

theorem results_rowV {P : Program} {fn : Func} {p : Tmp} {ty : TypeId} (cs : Array Value) (h : fn.results = #[.cell p ty]) (tmps : Array Value) (w : World) (g : Nat) (t : TypeId) (d : TypeDesc)
  (hp : tmps.getD p undef = .pointer (some ⟨g, 0, none⟩)) (hg : ∃ l, RowV w g t l ∧ l.toArray = cs)
  (hu : P.underlying ty = some d) (hd : (match d with | .struct _ | .array _ _ => true | _ => false) = true) (hi : (P.info? ty).map (·.size) = some cs.size) :
  (results fn tmps).run P w = .ok (.agg cs) w := by
 obtain ⟨l, hg, rfl⟩ := hg
 exact results_cell_row h tmps w g t l.toArray (0, 0) d hp hg hu hd hi

def fBad (u : Bool) (n : Int) : Bool := !u && !(n == 0)
def fieldBad (x : Ins) : Bool := fBad (usesDst x.op) x.dst || fBad (usesSrc x.op x.reg) x.src || fBad (usesOff x.op) x.off || fBad (usesImm x.op x.reg) x.imm
def regBad (x : Ins) : Bool := x.reg && !(formN x.op == 0) && !(formN x.op == 4)
def immOk (x : Ins) : Bool := if formN x.op = 10 then true else if formN x.op = 5 then decide (1 ≤ x.imm ∧ x.imm ≤ 3) else if formN x.op = 11 then decide (0 ≤ x.imm ∧ x.imm < 255) else fits32 x.imm
def insE (x : Ins) : Int :=
 if formN x.op = -1 then 6 else if regBad x then 12 else if fieldBad x then 12 else if !(regOk x.dst && regOk x.src) then 5 else if !(fits16 x.off && immOk x) then 4 else 0

theorem uses_end {n : Int} {reg : Bool} {w W : World} {l : List Value} (a : Act) (g : Nat) (hp : a.tmps.getD 4 undef = .pointer (some ⟨g, 0, none⟩)) (hd : a.defers = []) (hr : RowV W g 185 l) (he : Ext w W)
  (hl : l = [.bool (usesDst n), .bool (usesSrc n reg), .bool (usesOff n), .bool (usesImm n reg)]) :
  bodyPost Tryz.prog Tryz.f118 (fun e w' => e = .returned (.agg #[.bool (usesDst n), .bool (usesSrc n reg), .bool (usesOff n), .bool (usesImm n reg)]) ∧ Ext w w') .ret a W := by
 subst hl
 exact bodyPost_ret (results_rowV #[.bool (usesDst n), .bool (usesSrc n reg), .bool (usesOff n), .bool (usesImm n reg)] (by rfl) _ _ g 185 _ hp ⟨_, hr, rfl⟩ Tryz.underlying185 rfl (by kernel_rfl)) hd ⟨rfl, he⟩
set_option maxRecDepth 40000 in
set_option maxHeartbeats 4000000 in
theorem insnUses_any (n : Int) (reg : Bool) (w : World) (hn : I64 n) (hO : OpsN w) :
  Calls Tryz.prog 118 #[.int .i64 n, .bool reg] w fun e w' => e = .returned (.agg #[.bool (usesDst n), .bool (usesSrc n reg), .bool (usesOff n), .bool (usesImm n reg)]) ∧ Ext w w' := by
 have e0 := Ext.new w (.cells #[.bool false, .bool false, .bool false, .bool false] 185)
 have r0 := RowV.new w [.bool false, .bool false, .bool false, .bool false] 185
 have hc := opForm_any n (w.alloc (.cells #[.bool false, .bool false, .bool false, .bool false] 185)) hn (hO.ext e0)
 have R0 := hx r0
 have E0 := hx e0
 clear e0 r0 hO hn
 rcases form_cases n with h | h | h | h | h | h | h | h | h | h | h | h | h
 all_goals
  rw [h] at hc
  have H := hx hc
  have HF := hx h
  clear hc h
  go_enter Tryz.func118, Tryz.ntmps118
  go_wp2_with fail
  refine H.out.mono ?_
  rintro e w1 ⟨rfl, e1⟩
  have r1 := R0.out.ext e1
  have f0 := r1.frozen 0
  have f1 := r1.frozen 1
  have f2 := r1.frozen 2
  have f3 := r1.frozen 3
  have c0 := r1.cell (i := 0) rfl
  have c1 := r1.cell (i := 1) rfl
  have c2 := r1.cell (i := 2) rfl
  have c3 := r1.cell (i := 3) rfl
  have R1 := hx r1
  have E1 := hx (E0.out.trans e1)
  clear r1 e1
  go_wp2
 ·exact uses_end _ _ (by rfl) rfl ((((R1.out.set 0 (.bool false)).set 1 (.bool false)).set 2 (.bool false)).set 3 (.bool false)) ((((E1.out.setCell (a := ⟨w.heap.size, 0, none⟩) (.bool false) (Nat.le_refl _)).setCell (a := ⟨w.heap.size, 1, none⟩) (.bool false) (Nat.le_refl _)).setCell (a := ⟨w.heap.size, 2, none⟩) (.bool false) (Nat.le_refl _)).setCell (a := ⟨w.heap.size, 3, none⟩) (.bool false) (Nat.le_refl _)) (by unfold usesDst usesSrc usesOff usesImm; rw [HF.out]; cases reg <;> rfl)
 ·exact uses_end _ _ (by rfl) rfl (((((((R1.out.set 0 (.bool true)).set 1 (.bool reg)).set 3 (.bool !reg)).set 0 (.bool true)).set 1 (.bool reg)).set 2 (.bool false)).set 3 (.bool !reg)) (((((((E1.out.setCell (a := ⟨w.heap.size, 0, none⟩) (.bool true) (Nat.le_refl _)).setCell (a := ⟨w.heap.size, 1, none⟩) (.bool reg) (Nat.le_refl _)).setCell (a := ⟨w.heap.size, 3, none⟩) (.bool !reg) (Nat.le_refl _)).setCell (a := ⟨w.heap.size, 0, none⟩) (.bool true) (Nat.le_refl _)).setCell (a := ⟨w.heap.size, 1, none⟩) (.bool reg) (Nat.le_refl _)).setCell (a := ⟨w.heap.size, 2, none⟩) (.bool false) (Nat.le_refl _)).setCell (a := ⟨w.heap.size, 3, none⟩) (.bool !reg) (Nat.le_refl _)) (by unfold usesDst usesSrc usesOff usesImm; rw [HF.out]; cases reg <;> rfl)
 ·exact uses_end _ _ (by rfl) rfl (((((R1.out.set 0 (.bool true)).set 0 (.bool true)).set 1 (.bool false)).set 2 (.bool false)).set 3 (.bool false)) (((((E1.out.setCell (a := ⟨w.heap.size, 0, none⟩) (.bool true) (Nat.le_refl _)).setCell (a := ⟨w.heap.size, 0, none⟩) (.bool true) (Nat.le_refl _)).setCell (a := ⟨w.heap.size, 1, none⟩) (.bool false) (Nat.le_refl _)).setCell (a := ⟨w.heap.size, 2, none⟩) (.bool false) (Nat.le_refl _)).setCell (a := ⟨w.heap.size, 3, none⟩) (.bool false) (Nat.le_refl _)) (by unfold usesDst usesSrc usesOff usesImm; rw [HF.out]; cases reg <;> rfl)
 ·exact uses_end _ _ (by rfl) rfl ((((((R1.out.set 1 (.bool true)).set 0 (.bool true)).set 0 (.bool true)).set 1 (.bool true)).set 2 (.bool false)).set 3 (.bool false)) ((((((E1.out.setCell (a := ⟨w.heap.size, 1, none⟩) (.bool true) (Nat.le_refl _)).setCell (a := ⟨w.heap.size, 0, none⟩) (.bool true) (Nat.le_refl _)).setCell (a := ⟨w.heap.size, 0, none⟩) (.bool true) (Nat.le_refl _)).setCell (a := ⟨w.heap.size, 1, none⟩) (.bool true) (Nat.le_refl _)).setCell (a := ⟨w.heap.size, 2, none⟩) (.bool false) (Nat.le_refl _)).setCell (a := ⟨w.heap.size, 3, none⟩) (.bool false) (Nat.le_refl _)) (by unfold usesDst usesSrc usesOff usesImm; rw [HF.out]; cases reg <;> rfl)
 ·exact uses_end _ _ (by rfl) rfl (((((R1.out.set 2 (.bool true)).set 0 (.bool false)).set 1 (.bool false)).set 2 (.bool true)).set 3 (.bool false)) (((((E1.out.setCell (a := ⟨w.heap.size, 2, none⟩) (.bool true) (Nat.le_refl _)).setCell (a := ⟨w.heap.size, 0, none⟩) (.bool false) (Nat.le_refl _)).setCell (a := ⟨w.heap.size, 1, none⟩) (.bool false) (Nat.le_refl _)).setCell (a := ⟨w.heap.size, 2, none⟩) (.bool true) (Nat.le_refl _)).setCell (a := ⟨w.heap.size, 3, none⟩) (.bool false) (Nat.le_refl _)) (by unfold usesDst usesSrc usesOff usesImm; rw [HF.out]; cases reg <;> rfl)
 ·exact uses_end _ _ (by rfl) rfl ((((((((R1.out.set 2 (.bool true)).set 0 (.bool true)).set 1 (.bool reg)).set 3 (.bool !reg)).set 0 (.bool true)).set 1 (.bool reg)).set 2 (.bool true)).set 3 (.bool !reg)) ((((((((E1.out.setCell (a := ⟨w.heap.size, 2, none⟩) (.bool true) (Nat.le_refl _)).setCell (a := ⟨w.heap.size, 0, none⟩) (.bool true) (Nat.le_refl _)).setCell (a := ⟨w.heap.size, 1, none⟩) (.bool reg) (Nat.le_refl _)).setCell (a := ⟨w.heap.size, 3, none⟩) (.bool !reg) (Nat.le_refl _)).setCell (a := ⟨w.heap.size, 0, none⟩) (.bool true) (Nat.le_refl _)).setCell (a := ⟨w.heap.size, 1, none⟩) (.bool reg) (Nat.le_refl _)).setCell (a := ⟨w.heap.size, 2, none⟩) (.bool true) (Nat.le_refl _)).setCell (a := ⟨w.heap.size, 3, none⟩) (.bool !reg) (Nat.le_refl _)) (by unfold usesDst usesSrc usesOff usesImm; rw [HF.out]; cases reg <;> rfl)
 ·exact uses_end _ _ (by rfl) rfl (((((R1.out.set 3 (.bool true)).set 0 (.bool false)).set 1 (.bool false)).set 2 (.bool false)).set 3 (.bool true)) (((((E1.out.setCell (a := ⟨w.heap.size, 3, none⟩) (.bool true) (Nat.le_refl _)).setCell (a := ⟨w.heap.size, 0, none⟩) (.bool false) (Nat.le_refl _)).setCell (a := ⟨w.heap.size, 1, none⟩) (.bool false) (Nat.le_refl _)).setCell (a := ⟨w.heap.size, 2, none⟩) (.bool false) (Nat.le_refl _)).setCell (a := ⟨w.heap.size, 3, none⟩) (.bool true) (Nat.le_refl _)) (by unfold usesDst usesSrc usesOff usesImm; rw [HF.out]; cases reg <;> rfl)
 ·exact uses_end _ _ (by rfl) rfl ((((R1.out.set 0 (.bool false)).set 1 (.bool false)).set 2 (.bool false)).set 3 (.bool false)) ((((E1.out.setCell (a := ⟨w.heap.size, 0, none⟩) (.bool false) (Nat.le_refl _)).setCell (a := ⟨w.heap.size, 1, none⟩) (.bool false) (Nat.le_refl _)).setCell (a := ⟨w.heap.size, 2, none⟩) (.bool false) (Nat.le_refl _)).setCell (a := ⟨w.heap.size, 3, none⟩) (.bool false) (Nat.le_refl _)) (by unfold usesDst usesSrc usesOff usesImm; rw [HF.out]; cases reg <;> rfl)
 ·exact uses_end _ _ (by rfl) rfl (((((((R1.out.set 2 (.bool true)).set 1 (.bool true)).set 0 (.bool true)).set 0 (.bool true)).set 1 (.bool true)).set 2 (.bool true)).set 3 (.bool false)) (((((((E1.out.setCell (a := ⟨w.heap.size, 2, none⟩) (.bool true) (Nat.le_refl _)).setCell (a := ⟨w.heap.size, 1, none⟩) (.bool true) (Nat.le_refl _)).setCell (a := ⟨w.heap.size, 0, none⟩) (.bool true) (Nat.le_refl _)).setCell (a := ⟨w.heap.size, 0, none⟩) (.bool true) (Nat.le_refl _)).setCell (a := ⟨w.heap.size, 1, none⟩) (.bool true) (Nat.le_refl _)).setCell (a := ⟨w.heap.size, 2, none⟩) (.bool true) (Nat.le_refl _)).setCell (a := ⟨w.heap.size, 3, none⟩) (.bool false) (Nat.le_refl _)) (by unfold usesDst usesSrc usesOff usesImm; rw [HF.out]; cases reg <;> rfl)
 ·exact uses_end _ _ (by rfl) rfl (((((((R1.out.set 2 (.bool true)).set 0 (.bool true)).set 3 (.bool true)).set 0 (.bool true)).set 1 (.bool false)).set 2 (.bool true)).set 3 (.bool true)) (((((((E1.out.setCell (a := ⟨w.heap.size, 2, none⟩) (.bool true) (Nat.le_refl _)).setCell (a := ⟨w.heap.size, 0, none⟩) (.bool true) (Nat.le_refl _)).setCell (a := ⟨w.heap.size, 3, none⟩) (.bool true) (Nat.le_refl _)).setCell (a := ⟨w.heap.size, 0, none⟩) (.bool true) (Nat.le_refl _)).setCell (a := ⟨w.heap.size, 1, none⟩) (.bool false) (Nat.le_refl _)).setCell (a := ⟨w.heap.size, 2, none⟩) (.bool true) (Nat.le_refl _)).setCell (a := ⟨w.heap.size, 3, none⟩) (.bool true) (Nat.le_refl _)) (by unfold usesDst usesSrc usesOff usesImm; rw [HF.out]; cases reg <;> rfl)
 ·exact uses_end _ _ (by rfl) rfl (((((((R1.out.set 2 (.bool true)).set 1 (.bool true)).set 0 (.bool true)).set 0 (.bool true)).set 1 (.bool true)).set 2 (.bool true)).set 3 (.bool false)) (((((((E1.out.setCell (a := ⟨w.heap.size, 2, none⟩) (.bool true) (Nat.le_refl _)).setCell (a := ⟨w.heap.size, 1, none⟩) (.bool true) (Nat.le_refl _)).setCell (a := ⟨w.heap.size, 0, none⟩) (.bool true) (Nat.le_refl _)).setCell (a := ⟨w.heap.size, 0, none⟩) (.bool true) (Nat.le_refl _)).setCell (a := ⟨w.heap.size, 1, none⟩) (.bool true) (Nat.le_refl _)).setCell (a := ⟨w.heap.size, 2, none⟩) (.bool true) (Nat.le_refl _)).setCell (a := ⟨w.heap.size, 3, none⟩) (.bool false) (Nat.le_refl _)) (by unfold usesDst usesSrc usesOff usesImm; rw [HF.out]; cases reg <;> rfl)
 ·exact uses_end _ _ (by rfl) rfl ((((((R1.out.set 0 (.bool true)).set 3 (.bool true)).set 0 (.bool true)).set 1 (.bool false)).set 2 (.bool false)).set 3 (.bool true)) ((((((E1.out.setCell (a := ⟨w.heap.size, 0, none⟩) (.bool true) (Nat.le_refl _)).setCell (a := ⟨w.heap.size, 3, none⟩) (.bool true) (Nat.le_refl _)).setCell (a := ⟨w.heap.size, 0, none⟩) (.bool true) (Nat.le_refl _)).setCell (a := ⟨w.heap.size, 1, none⟩) (.bool false) (Nat.le_refl _)).setCell (a := ⟨w.heap.size, 2, none⟩) (.bool false) (Nat.le_refl _)).setCell (a := ⟨w.heap.size, 3, none⟩) (.bool true) (Nat.le_refl _)) (by unfold usesDst usesSrc usesOff usesImm; rw [HF.out]; cases reg <;> rfl)
 ·exact uses_end _ _ (by rfl) rfl ((((((R1.out.set 0 (.bool true)).set 3 (.bool true)).set 0 (.bool true)).set 1 (.bool false)).set 2 (.bool false)).set 3 (.bool true)) ((((((E1.out.setCell (a := ⟨w.heap.size, 0, none⟩) (.bool true) (Nat.le_refl _)).setCell (a := ⟨w.heap.size, 3, none⟩) (.bool true) (Nat.le_refl _)).setCell (a := ⟨w.heap.size, 0, none⟩) (.bool true) (Nat.le_refl _)).setCell (a := ⟨w.heap.size, 1, none⟩) (.bool false) (Nat.le_refl _)).setCell (a := ⟨w.heap.size, 2, none⟩) (.bool false) (Nat.le_refl _)).setCell (a := ⟨w.heap.size, 3, none⟩) (.bool true) (Nat.le_refl _)) (by unfold usesDst usesSrc usesOff usesImm; rw [HF.out]; cases reg <;> rfl)
end Go.Proofs.YtmofdnlefjfcfaaGreatDoor


set_option linter.unusedVariables false
set_option linter.unusedSimpArgs false
namespace Go.Proofs.YtmofdnlefjfcfaaGreatDoor
open Go.RowKit

def subL (b : List Int) (i m : Nat) : List Int := (b.drop i).take m
theorem wrapU (z : Int) (h0 : 0 ≤ z) (h1 : z < 18446744073709551616) : IntKind.u64.wrap z = z := by
 simp [IntKind.wrap, IntKind.signed, IntKind.bits]
 omega
theorem wrapI (z : Int) (h : -100000 ≤ z) (h' : z ≤ 100000) : wrap64 z = z := by unfold wrap64; omega
theorem subL_byt {b : List Int} (h : Byt b) (i m : Nat) : Byt (subL b i m) := fun x hx => h x (List.mem_of_mem_drop (List.mem_of_mem_take hx))
theorem subL_bd {b : List Int} (h : Byt b) (i : Nat) {m : Nat} (hm : m ≤ 4) : 0 ≤ lval (subL b i m) ∧ lval (subL b i m) < 4294967296 := by
 have h1 := lval_nonneg (subL_byt h i m)
 have h2 : (subL b i m).length ≤ 4 := by unfold subL; rw [List.length_take]; omega
 have h3 : (256 : Int) ^ (subL b i m).length ≤ 4294967296 := by
  have : ∀ k : Nat, k ≤ 4 → (256 : Int) ^ k ≤ 4294967296 := by decide
  exact this _ h2
 exact ⟨h1.1, by omega⟩
end Go.Proofs.YtmofdnlefjfcfaaGreatDoor


set_option linter.unusedVariables false
set_option linter.unusedSimpArgs false
namespace Go.Proofs.YtmofdnlefjfcfaaGreatDoor
open Go.RowKit

def idOf (b : List Int) : Int × Bool × Bool := idR (b.getD 0 0) (b.getD 1 0 / 16) (sext 16 (lval (subL b 2 2))) (sext 32 (lval (subL b 4 4)))
/-- The instruction that bytes begin with, if they begin with one. -/
def decI (b : List Int) : Ins :=
 ⟨(idOf b).1, (idOf b).2.1, b.getD 1 0 % 16, b.getD 1 0 / 16 - (fixN (idOf b).1).1, sext 16 (lval (subL b 2 2)) - (fixN (idOf b).1).2.1,
  if slotsN (idOf b).1 = 2 then wrap64 (lval (subL b 12 4) * 4294967296 + lval (subL b 4 4)) else sext 32 (lval (subL b 4 4)) - (fixN (idOf b).1).2.2⟩
def decE (b : List Int) : Int :=
 if b.length < 8 then 17 else if (idOf b).2.2 = false then 6 else if slotsN (idOf b).1 = 2 ∧ b.length < 16 then 17 else if 10 < b.getD 1 0 % 16 ∨ 10 < b.getD 1 0 / 16 then 5
 else if slotsN (idOf b).1 = 2 ∧ lval (subL b 8 4) ≠ 0 then 12 else if insE (decI b) ≠ 0 then 12 else 0
def insZ : Ins := ⟨0, false, 0, 0, 0, 0⟩
def decX (b : List Int) : Ins := if decE b = 0 then decI b else insZ
def decN (b : List Int) : Int := if decE b = 0 then slotsN (idOf b).1 else 0
theorem slotsN_cases (n : Int) : slotsN n = 0 ∨ slotsN n = 1 ∨ slotsN n = 2 := by
 unfold slotsN
 split
 ·exact .inl rfl
 ·split
  ·exact .inr (.inr rfl)
  ·exact .inr (.inl rfl)
theorem idAt_op {c s o i : Int} {k : Nat} {r : Int × Bool} (h : idAt c s o i k = some r) : r.1 = k := by
 unfold idAt at h
 split at h
 ·split at h
  ·cases h; rfl
  ·split at h
   ·cases h; rfl
   ·cases h
 ·cases h
theorem idR_op (c s o i : Int) : 0 ≤ (idR c s o i).1 ∧ (idR c s o i).1 < 86 := by
 unfold idR
 split
 ·rename_i n reg h
  obtain ⟨k, hk, hr⟩ := List.exists_of_findSome?_eq_some h
  have := idAt_op hr
  have hk' : k < 86 := by simpa using hk
  dsimp only at this ⊢
  omega
 ·exact ⟨by decide, by decide⟩
theorem sext16_bd {x : Int} (h0 : 0 ≤ x) (h1 : x < 65536) : -32768 ≤ sext 16 x ∧ sext 16 x ≤ 32767 := by
 unfold sext; simp only [Nat.reduceSub, Int.reducePow]; split <;> omega
theorem sext32_bd {x : Int} (h0 : 0 ≤ x) (h1 : x < 4294967296) : -2147483648 ≤ sext 32 x ∧ sext 32 x ≤ 2147483647 := by
 unfold sext; simp only [Nat.reduceSub, Int.reducePow]; split <;> omega
theorem subL2_bd {b : List Int} (h : Byt b) (i : Nat) : 0 ≤ lval (subL b i 2) ∧ lval (subL b i 2) < 65536 := by
 have h1 := lval_nonneg (subL_byt h i 2)
 have h2 : (subL b i 2).length ≤ 2 := by unfold subL; rw [List.length_take]; omega
 have h3 : (256 : Int) ^ (subL b i 2).length ≤ 65536 := by
  have : ∀ k : Nat, k ≤ 2 → (256 : Int) ^ k ≤ 65536 := by decide
  exact this _ h2
 exact ⟨h1.1, Int.lt_of_lt_of_le h1.2 h3⟩
theorem fixN_bd (n : Int) : (0 ≤ (fixN n).1 ∧ (fixN n).1 ≤ 1) ∧ (0 ≤ (fixN n).2.1 ∧ (fixN n).2.1 ≤ 32) ∧ (0 ≤ (fixN n).2.2 ∧ (fixN n).2.2 ≤ 64) := ⟨(rowOf_ok n).src, (rowOf_ok n).off, (rowOf_ok n).imm⟩
end Go.Proofs.YtmofdnlefjfcfaaGreatDoor


set_option linter.unusedVariables false
namespace Go.Proofs.YtmofdnlefjfcfaaGreatDoor
open Go.RowKit
end Go.Proofs.YtmofdnlefjfcfaaGreatDoor


set_option linter.unusedVariables false
set_option linter.unusedSimpArgs false
namespace Go.Proofs.YtmofdnlefjfcfaaGreatDoor
open Go.RowKit

theorem fBad_key (u : Bool) (n : Int) : (u = false ∧ (n == 0) = false ∧ (n != 0) = true ∧ fBad u n = true) ∨ (u = true ∧ fBad u n = false) ∨ (u = false ∧ n = 0 ∧ fBad u n = false) := by
 cases u with
 | true => exact .inr (.inl ⟨rfl, rfl⟩)
 | false =>
  by_cases h : n = 0
  ·exact .inr (.inr ⟨rfl, h, by subst h; rfl⟩)
  ·exact .inl ⟨rfl, by simpa using h, by simpa using h, by simp [fBad, h]⟩
theorem rule1_any (n : Int) (w : World) : Calls Tryz.prog 149 #[.int .i64 n] w fun e w' => e = .returned (.bool (regOk n)) ∧ w' = w := by
 by_cases h0 : 0 ≤ n
 ·have d0 : decide (n ≥ 0) = true := decide_eq_true h0
  by_cases h1 : n < 11
  ·have d1 : decide (n < 11) = true := decide_eq_true h1
   have hr : regOk n = true := decide_eq_true ⟨h0, by omega⟩
   rw [hr]
   go_enter Tryz.func149, Tryz.ntmps149
   go_wp2
   go_ret
   exact ⟨rfl, rfl⟩
  ·have d1 : decide (n < 11) = false := decide_eq_false h1
   have hr : regOk n = false := decide_eq_false (by omega)
   rw [hr]
   go_enter Tryz.func149, Tryz.ntmps149
   go_wp2
   go_ret
   exact ⟨rfl, rfl⟩
 ·have d0 : decide (n ≥ 0) = false := decide_eq_false h0
  have hr : regOk n = false := decide_eq_false (by omega)
  rw [hr]
  go_enter Tryz.func149, Tryz.ntmps149
  go_wp2
  go_ret
  exact ⟨rfl, rfl⟩
abbrev xCells (x : Ins) : Obj := .cells #[.int .i64 x.op, .bool x.reg, .int .i64 x.dst, .int .i64 x.src, .int .i64 x.off, .int .i64 x.imm] 53
abbrev fCells (u1 u2 u3 u4 : Bool) : Obj := .cells #[.bool u1, .bool u2, .bool u3, .bool u4] 185
abbrev fV (u1 u2 u3 u4 : Bool) : Value := .agg #[.bool u1, .bool u2, .bool u3, .bool u4]
set_option maxRecDepth 40000 in
set_option maxHeartbeats 4000000 in
theorem rule2_any (x : Ins) (u1 u2 u3 u4 : Bool) (w : World) (hx0 : x.Ok) (hO : OpsN w) :
  Calls Tryz.prog 150 #[x.v, fV u1 u2 u3 u4] w fun e w' => e = .returned (.bool (decide (formN x.op < 0))) ∧ Ext w w' := by
 have e0 := (Ext.new w (xCells x)).alloc (fCells u1 u2 u3 u4)
 have hc := opForm_any x.op _ hx0.op (hO.ext e0)
 unfold Ins.v
 have E0 := hx e0
 have H := hx hc
 generalize formN x.op = F at *
 clear hc hO hx0 e0
 go_enter Tryz.func150, Tryz.ntmps150
 go_wp2_with (go_at_call 61; refine H.out.mono ?_; rintro e w1 ⟨rfl, e1⟩)
 go_ret
 exact ⟨rfl, E0.out.trans e1⟩
set_option maxRecDepth 40000 in
set_option maxHeartbeats 4000000 in
theorem rule3_any (x : Ins) (u1 u2 u3 u4 : Bool) (w : World) (hx0 : x.Ok) (hO : OpsN w) :
  Calls Tryz.prog 151 #[x.v, fV u1 u2 u3 u4] w fun e w' => e = .returned (.bool (regBad x)) ∧ Ext w w' := by
 obtain ⟨op, reg, n1, n2, n3, n4⟩ := x
 have e0 := (Ext.new w (.cells #[.int .i64 op, .bool reg, .int .i64 n1, .int .i64 n2, .int .i64 n3, .int .i64 n4] 53)).alloc (fCells u1 u2 u3 u4)
 have HC := hx fun (W : World) (hW : Ext w W) => opForm_any op W hx0.op (hO.ext hW)
 unfold Ins.v
 have HB : Hx (regBad ⟨op, reg, n1, n2, n3, n4⟩ = (reg && !(formN op == 0) && !(formN op == 4))) := hx rfl
 have r0 := (RowV.new w [.int .i64 op, .bool reg, .int .i64 n1, .int .i64 n2, .int .i64 n3, .int .i64 n4] 53).ext (Ext.new _ (fCells u1 u2 u3 u4))
 have K0 := hx (r0.cell (i := 0) rfl)
 generalize formN op = F at *
 have E0 := hx e0
 clear hO hx0 e0 r0
 cases reg with
 | false =>
  go_enter Tryz.func151, Tryz.ntmps151
  go_wp2
  go_ret
  exact ⟨ret_bool (by rw [HB.out]; rfl), E0.out⟩
 | true =>
  by_cases h0 : F = 0
  ·subst h0
   go_enter Tryz.func151, Tryz.ntmps151
   go_wp2_with fail
   refine (HC.out _ E0.out).mono ?_
   rintro e w1 ⟨rfl, e1⟩
   go_wp2
   go_ret
   exact ⟨ret_bool (by rw [HB.out]; rfl), E0.out.trans e1⟩
  ·have d0 : (F == 0) = false := by simpa using h0
   have d0' : (F != 0) = true := by simpa using h0
   have D0 := hx d0
   clear h0
   go_enter Tryz.func151, Tryz.ntmps151
   go_wp2_with fail
   refine (HC.out _ E0.out).mono ?_
   rintro e w1 ⟨rfl, e1⟩
   have k1 := e1.cell K0.out
   go_wp2_with fail
   refine (HC.out _ (E0.out.trans e1)).mono ?_
   rintro e w2 ⟨rfl, e2⟩
   go_wp2
   go_ret
   exact ⟨ret_bool (by rw [HB.out, D0.out]; rfl), (E0.out.trans e1).trans e2⟩
set_option maxRecDepth 40000 in
set_option maxHeartbeats 8000000 in
theorem rule4_any (x : Ins) (u1 u2 u3 u4 : Bool) (w : World) :
  Calls Tryz.prog 152 #[x.v, fV u1 u2 u3 u4] w fun e w' => e = .returned (.bool (fBad u1 x.dst || fBad u2 x.src || fBad u3 x.off || fBad u4 x.imm)) ∧ Ext w w' := by
 have E0 := hx ((Ext.new w (xCells x)).alloc (fCells u1 u2 u3 u4))
 obtain ⟨op, reg, n1, n2, n3, n4⟩ := x
 unfold Ins.v
 dsimp only at *
 rcases fBad_key u1 n1 with ⟨rfl, z1, y1, b1⟩ | ⟨rfl, b1⟩ | ⟨rfl, rfl, b1⟩
 ·have B1 := hx b1
  clear b1
  go_enter Tryz.func152, Tryz.ntmps152
  go_wp2
  go_ret
  exact ⟨ret_bool (by rw [B1.out]; rfl), E0.out⟩
 all_goals
  rcases fBad_key u2 n2 with ⟨rfl, z2, y2, b2⟩ | ⟨rfl, b2⟩ | ⟨rfl, rfl, b2⟩
  ·have B1 := hx b1
   have B2 := hx b2
   clear b1 b2
   go_enter Tryz.func152, Tryz.ntmps152
   go_wp2
   go_ret
   exact ⟨ret_bool (by simp [B1.out, B2.out]), E0.out⟩
  all_goals
   rcases fBad_key u3 n3 with ⟨rfl, z3, y3, b3⟩ | ⟨rfl, b3⟩ | ⟨rfl, rfl, b3⟩
   ·have B1 := hx b1
    have B2 := hx b2
    have B3 := hx b3
    clear b1 b2 b3
    go_enter Tryz.func152, Tryz.ntmps152
    go_wp2
    go_ret
    exact ⟨ret_bool (by simp [B1.out, B2.out, B3.out]), E0.out⟩
   all_goals
    rcases fBad_key u4 n4 with ⟨rfl, z4, y4, b4⟩ | ⟨rfl, b4⟩ | ⟨rfl, rfl, b4⟩
    all_goals
     have B1 := hx b1
     have B2 := hx b2
     have B3 := hx b3
     have B4 := hx b4
     clear b1 b2 b3 b4
     go_enter Tryz.func152, Tryz.ntmps152
     go_wp2
     go_ret
     exact ⟨ret_bool (by simp [B1.out, B2.out, B3.out, B4.out]), E0.out⟩
set_option maxRecDepth 40000 in
set_option maxHeartbeats 4000000 in
theorem rule5_any (x : Ins) (u1 u2 u3 u4 : Bool) (g : Nat) (w : World) (hg : OneC w g (.func (.func 149) #[] #[]) 147) :
  Calls Tryz.prog 153 #[x.v, fV u1 u2 u3 u4, .pointer (some ⟨g, 0, none⟩)] w fun e w' => e = .returned (.bool (!(regOk x.dst && regOk x.src))) ∧ Ext w w' := by
 have e0 := (Ext.new w (xCells x)).alloc (fCells u1 u2 u3 u4)
 have kg := (hg.ext e0).cell
 have H1 := hx (fun W => rule1_any x.dst W)
 have H2 := hx (fun W => rule1_any x.src W)
 have E0 := hx e0
 unfold Ins.v
 generalize regOk x.dst = b1 at *
 generalize regOk x.src = b2 at *
 clear e0 hg
 cases b1 with
 | false =>
  go_enter Tryz.func153, Tryz.ntmps153
  go_wp2_with fail
  refine (H1.out _).mono ?_
  rintro e w1 ⟨rfl, rfl⟩
  go_wp2
  go_ret
  exact ⟨ret_bool rfl, E0.out⟩
 | true =>
  go_enter Tryz.func153, Tryz.ntmps153
  go_wp2_with fail
  refine (H1.out _).mono ?_
  rintro e w1 ⟨rfl, rfl⟩
  go_wp2_with fail
  refine (H2.out _).mono ?_
  rintro e w1 ⟨rfl, rfl⟩
  go_wp2
  go_ret
  exact ⟨ret_bool (by simp), E0.out⟩
end Go.Proofs.YtmofdnlefjfcfaaGreatDoor


set_option linter.unusedVariables false
set_option linter.unusedSimpArgs false
namespace Go.Proofs.YtmofdnlefjfcfaaGreatDoor
open Go.RowKit

set_option maxRecDepth 40000 in
set_option maxHeartbeats 4000000 in
theorem insnFits_any (x : Ins) (w : World) (hx0 : x.Ok) (hO : OpsN w) (hW : WidN w) :
    Calls Tryz.prog 155 #[x.v] w fun e w' => e = .returned (.bool (immOk x)) ∧ Ext w w' := by
  have e0 := Ext.new w (xCells x)
  have hc := opForm_any x.op _ hx0.op (hO.ext e0)
  have HN := hx fun (W : World) (h : Ext w W) => numFits32 x.imm W (hW.ext h) hx0.imm
  have hi : immOk x = if formN x.op = 10 then true else if formN x.op = 5 then decide (1 ≤ x.imm ∧ x.imm ≤ 3) else if formN x.op = 11 then decide (0 ≤ x.imm ∧ x.imm < 255) else fits32 x.imm := rfl
  have k5 : ((w.alloc (xCells x)).cell? ⟨w.heap.size, 5, none⟩ = some (.int .i64 x.imm)) := by simp
  unfold Ins.v
  generalize fits32 x.imm = FB at *
  have K5 := hx k5
  have E0 := hx e0
  clear hO hx0 e0 hW k5
  rcases form_cases x.op with h | h | h | h | h | h | h | h | h | h | h | h | h
  all_goals
    rw [h] at hc hi
    have H := hx hc
    have HI := hx hi
    clear hc hi h
  case inr.inr.inr.inr.inr.inr.inl =>
    by_cases h1 : x.imm ≥ 1
    · have d1 : decide (x.imm ≥ 1) = true := decide_eq_true h1
      by_cases h2 : x.imm ≤ 3
      · have d2 : decide (x.imm ≤ 3) = true := decide_eq_true h2
        have HR := hx (HI.out.trans (by simp; omega : _ = true))
        clear HI
        go_enter Tryz.func155, Tryz.ntmps155
        go_wp2_with (go_at_call 61; refine H.out.mono ?_; rintro e w1 ⟨rfl, e1⟩; have k5 := e1.cell K5.out)
        go_ret
        exact ⟨ret_bool HR.out.symm, E0.out.trans e1⟩
      · have d2 : decide (x.imm ≤ 3) = false := decide_eq_false h2
        have HR := hx (HI.out.trans (by simp; omega : _ = false))
        clear HI
        go_enter Tryz.func155, Tryz.ntmps155
        go_wp2_with (go_at_call 61; refine H.out.mono ?_; rintro e w1 ⟨rfl, e1⟩; have k5 := e1.cell K5.out)
        go_ret
        exact ⟨ret_bool HR.out.symm, E0.out.trans e1⟩
    · have d1 : decide (x.imm ≥ 1) = false := decide_eq_false h1
      have HR := hx (HI.out.trans (by simp; omega : _ = false))
      clear HI
      go_enter Tryz.func155, Tryz.ntmps155
      go_wp2_with (go_at_call 61; refine H.out.mono ?_; rintro e w1 ⟨rfl, e1⟩; have k5 := e1.cell K5.out)
      go_ret
      exact ⟨ret_bool HR.out.symm, E0.out.trans e1⟩
  case inr.inr.inr.inr.inr.inr.inr.inr.inr.inr.inr.inr =>
    by_cases h1 : x.imm ≥ 0
    · have d1 : decide (x.imm ≥ 0) = true := decide_eq_true h1
      by_cases h2 : x.imm < 255
      · have d2 : decide (x.imm < 255) = true := decide_eq_true h2
        have HR := hx (HI.out.trans (by simp; omega : _ = true))
        clear HI
        go_enter Tryz.func155, Tryz.ntmps155
        go_wp2_with (go_at_call 61; refine H.out.mono ?_; rintro e w1 ⟨rfl, e1⟩; have k5 := e1.cell K5.out)
        go_ret
        exact ⟨ret_bool HR.out.symm, E0.out.trans e1⟩
      · have d2 : decide (x.imm < 255) = false := decide_eq_false h2
        have HR := hx (HI.out.trans (by simp; omega : _ = false))
        clear HI
        go_enter Tryz.func155, Tryz.ntmps155
        go_wp2_with (go_at_call 61; refine H.out.mono ?_; rintro e w1 ⟨rfl, e1⟩; have k5 := e1.cell K5.out)
        go_ret
        exact ⟨ret_bool HR.out.symm, E0.out.trans e1⟩
    · have d1 : decide (x.imm ≥ 0) = false := decide_eq_false h1
      have HR := hx (HI.out.trans (by simp; omega : _ = false))
      clear HI
      go_enter Tryz.func155, Tryz.ntmps155
      go_wp2_with (go_at_call 61; refine H.out.mono ?_; rintro e w1 ⟨rfl, e1⟩; have k5 := e1.cell K5.out)
      go_ret
      exact ⟨ret_bool HR.out.symm, E0.out.trans e1⟩
  case inr.inr.inr.inr.inr.inr.inr.inr.inr.inr.inr.inl =>
    have HR := hx (HI.out.trans (by simp : _ = true))
    clear HI
    go_enter Tryz.func155, Tryz.ntmps155
    go_wp2_with (go_at_call 61; refine H.out.mono ?_; rintro e w1 ⟨rfl, e1⟩; have k5 := e1.cell K5.out)
    go_ret
    exact ⟨ret_bool HR.out.symm, E0.out.trans e1⟩
  all_goals
    have HR := hx (HI.out.trans (by simp : _ = FB))
    clear HI
    go_enter Tryz.func155, Tryz.ntmps155
    go_wp2_with fail
    refine H.out.mono ?_
    rintro e w1 ⟨rfl, e1⟩
    have k5 := e1.cell K5.out
    go_wp2_with fail
    refine (HN.out _ (E0.out.trans e1)).mono ?_
    rintro e w2 ⟨rfl, rfl⟩
    go_wp2
    go_ret
    exact ⟨ret_bool HR.out.symm, E0.out.trans e1⟩
set_option maxRecDepth 40000 in
set_option maxHeartbeats 4000000 in
theorem rule6_any (x : Ins) (u1 u2 u3 u4 : Bool) (w : World) (hx0 : x.Ok) (hO : OpsN w) (hW : WidN w) :
    Calls Tryz.prog 154 #[x.v, fV u1 u2 u3 u4] w fun e w' => e = .returned (.bool (!(fits16 x.off && immOk x))) ∧ Ext w w' := by
  have e0 := (Ext.new w (xCells x)).alloc (fCells u1 u2 u3 u4)
  have hn := numFits16 x.off _ (hW.ext e0) hx0.off
  have hf := insnFits_any x _ hx0 (hO.ext e0) (hW.ext e0)
  unfold Ins.v at *
  have E0 := hx e0
  generalize fits16 x.off = b1 at *
  generalize immOk x = b2 at *
  have HN := hx hn
  have HF := hx hf
  clear e0 hO hW hx0 hn hf
  cases b1 with
  | false =>
    go_enter Tryz.func154, Tryz.ntmps154
    go_wp2_with (go_at_call 57; refine HN.out.mono ?_; rintro e w1 ⟨rfl, rfl⟩)
    go_ret
    exact ⟨ret_bool rfl, E0.out⟩
  | true =>
    go_enter Tryz.func154, Tryz.ntmps154
    go_wp2_with fail
    refine HN.out.mono ?_
    rintro e w1 ⟨rfl, rfl⟩
    go_wp2_with fail
    refine HF.out.mono ?_
    rintro e w2 ⟨rfl, e2⟩
    go_wp2
    go_ret
    exact ⟨ret_bool (by simp), E0.out.trans e2⟩
/-- The list of the rules as it lies in memory. -/
def ruleCells (g : Nat) : List Value :=
  [.func (.func 150) #[] #[], .int .i64 6, .func (.func 151) #[] #[], .int .i64 12, .func (.func 152) #[] #[], .int .i64 12,
   .func (.func 153) #[] #[.pointer (some ⟨g, 0, none⟩)], .int .i64 5, .func (.func 154) #[] #[], .int .i64 4]
set_option maxRecDepth 40000 in
set_option maxHeartbeats 4000000 in
theorem insRules_any (w : World) :
    Calls Tryz.prog 119 #[] w fun e w' => ∃ b, e = .returned (.slice (some ⟨b, 0, none⟩) 5 5) ∧ OneC w' w.heap.size (.func (.func 149) #[] #[]) 147 ∧ RowV w' b 191 (ruleCells w.heap.size) ∧ Ext w w' := by
  go_enter Tryz.func119, Tryz.ntmps119
  go_wp2
  go_ret
  have hs : ∀ o, (w.alloc o).heap.size = w.heap.size + 1 := fun o => by simp
  refine ⟨w.heap.size + 1, rfl, (OneC.new w _ _).ext (Ext.new _ _), ?_, (Ext.new w _).alloc _⟩
  have h := RowV.new (w.alloc (.cells #[.func (.func 149) #[] #[]] 147)) (ruleCells w.heap.size) 191
  rw [hs] at h
  exact h
end Go.Proofs.YtmofdnlefjfcfaaGreatDoor


set_option linter.unusedVariables false
set_option linter.unusedSimpArgs false
namespace Go.Proofs.YtmofdnlefjfcfaaGreatDoor
open Go.RowKit

/-- What is left of an instruction's error behind so many rules. -/
def restE (x : Ins) : Nat → Int
 | 0 => if decide (formN x.op < 0) then 6 else if regBad x then 12 else if fieldBad x then 12 else if !(regOk x.dst && regOk x.src) then 5 else if !(fits16 x.off && immOk x) then 4 else 0
 | 1 => if regBad x then 12 else if fieldBad x then 12 else if !(regOk x.dst && regOk x.src) then 5 else if !(fits16 x.off && immOk x) then 4 else 0
 | 2 => if fieldBad x then 12 else if !(regOk x.dst && regOk x.src) then 5 else if !(fits16 x.off && immOk x) then 4 else 0
 | 3 => if !(regOk x.dst && regOk x.src) then 5 else if !(fits16 x.off && immOk x) then 4 else 0
 | 4 => if !(fits16 x.off && immOk x) then 4 else 0
 | _ => 0
theorem insE_rest (x : Ins) : insE x = restE x 0 := by
 have h0 : restE x 0 = if decide (formN x.op < 0) = true then 6 else if regBad x = true then 12 else if fieldBad x = true then 12 else if (!(regOk x.dst && regOk x.src)) = true then 5 else if (!(fits16 x.off && immOk x)) = true then 4 else 0 := rfl
 rw [h0]
 unfold insE
 by_cases h : formN x.op = -1
 ·rw [if_pos h, if_pos (decide_eq_true (by omega))]
 ·have := form_cases x.op
  rw [if_neg h, if_neg (c := decide (formN x.op < 0) = true) (by rw [decide_eq_true_eq]; omega)]
set_option maxRecDepth 40000 in
set_option maxHeartbeats 8000000 in
theorem insnCheck_any (x : Ins) (w : World) (hx0 : x.Ok) (hO : OpsN w) (hW : WidN w) :
  Calls Tryz.prog 93 #[x.v] w fun e w' => e = .returned (.int .i64 (insE x)) ∧ Ext w w' := by
 have e0 := Ext.new w (xCells x)
 have HU := hx (insnUses_any x.op x.reg _ hx0.op (hO.ext e0))
 have H2 := hx fun (W : World) (h : Ext w W) => rule2_any x (usesDst x.op) (usesSrc x.op x.reg) (usesOff x.op) (usesImm x.op x.reg) W hx0 (hO.ext h)
 have H3 := hx fun (W : World) (h : Ext w W) => rule3_any x (usesDst x.op) (usesSrc x.op x.reg) (usesOff x.op) (usesImm x.op x.reg) W hx0 (hO.ext h)
 have H4 := hx fun (W : World) => rule4_any x (usesDst x.op) (usesSrc x.op x.reg) (usesOff x.op) (usesImm x.op x.reg) W
 have H5 := hx fun (g : Nat) (W : World) h => rule5_any x (usesDst x.op) (usesSrc x.op x.reg) (usesOff x.op) (usesImm x.op x.reg) g W h
 have H6 := hx fun (W : World) (h : Ext w W) => rule6_any x (usesDst x.op) (usesSrc x.op x.reg) (usesOff x.op) (usesImm x.op x.reg) W hx0 (hO.ext h) (hW.ext h)
 have HE := hx (insE_rest x)
 have hB4 : (fBad (usesDst x.op) x.dst || fBad (usesSrc x.op x.reg) x.src || fBad (usesOff x.op) x.off || fBad (usesImm x.op x.reg) x.imm) = fieldBad x := rfl
 rw [hB4] at H4
 have HR0 := hx (show restE x 0 = if decide (formN x.op < 0) then 6 else restE x 1 from rfl)
 have HR1 := hx (show restE x 1 = if regBad x then 12 else restE x 2 from rfl)
 have HR2 := hx (show restE x 2 = if fieldBad x then 12 else restE x 3 from rfl)
 have HR3 := hx (show restE x 3 = if !(regOk x.dst && regOk x.src) then 5 else restE x 4 from rfl)
 have HR4 := hx (show restE x 4 = if !(fits16 x.off && immOk x) then 4 else restE x 5 from rfl)
 have HR5 := hx (show restE x 5 = 0 from rfl)
 generalize insE x = E at *
 generalize restE x = rE at *
 generalize decide (formN x.op < 0) = b2 at *
 generalize regBad x = b3 at *
 generalize fieldBad x = b4 at *
 generalize (!(regOk x.dst && regOk x.src)) = b5 at *
 generalize (!(fits16 x.off && immOk x)) = b6 at *
 generalize usesDst x.op = u1 at *
 generalize usesSrc x.op x.reg = u2 at *
 generalize usesOff x.op = u3 at *
 generalize usesImm x.op x.reg = u4 at *
 have RX := hx (RowV.new w [.int .i64 x.op, .bool x.reg, .int .i64 x.dst, .int .i64 x.src, .int .i64 x.off, .int .i64 x.imm] 53)
 obtain ⟨op, reg, n1, n2, n3, n4⟩ := x
 unfold Ins.v xCells fV at *
 dsimp only at *
 have E0 := hx e0
 clear hO hW hx0 hB4 e0
 go_enter Tryz.func93, Tryz.ntmps93
 go_wp2_with fail
 refine HU.out.mono ?_
 rintro e w1 ⟨rfl, e1⟩
 go_wp2_with fail
 obtain ⟨W2, hW2⟩ : ∃ W2, W2 = w1.alloc (.cells #[.bool u1, .bool u2, .bool u3, .bool u4] 185) := ⟨_, rfl⟩
 have e2 : Ext w1 W2 := by rw [hW2]; exact Ext.new _ _
 have rf : RowV W2 w1.heap.size 185 [.bool u1, .bool u2, .bool u3, .bool u4] := by rw [hW2]; exact RowV.new _ _ _
 rw [← hW2]
 clear hW2
 refine (insRules_any W2).mono ?_
 rintro e w3 ⟨b, rfl, o3, r3, e3⟩
 have x3 := RX.out.ext ((e1.trans e2).trans e3)
 have f3 := rf.ext e3
 have E3 := E0.out.trans ((e1.trans e2).trans e3)
 clear e1 e2 e3 rf
 go_wp2
 go_loopw [13] (fun i wr => ∃ k : Nat, i = .int .i64 (k : Nat) ∧ k ≤ 5 ∧ E = rE k ∧ Ext w3 wr) (fun i _ => 5 - (RowKit.intOf i).toNat)
 case atStart => exact ⟨0, rfl, by omega, HE.out, Ext.refl _⟩
 case round =>
  obtain ⟨k, rfl, hk, hE, he⟩ := hrel
  have x4 := x3.ext he
  have f4 := f3.ext he
  have r4 := r3.ext he
  have o4 := o3.ext he
  have E4 := E3.trans he
  have HE4 := hx E4
  have hE' := hx hE
  have he' := hx he
  have R4 := hx r4
  have O4 := hx o4
  have X4 := hx x4
  have F4 := hx f4
  clear x4 f4 hE he E4 r4 o4 x3 f3 r3 o3 E3
  rcases k with _ | _ | _ | _ | _ | _ | k
  ·have q0 := R4.out.cell (i := 0) rfl
   have q1 := R4.out.cell (i := 1) rfl
   have e5 := Ext.new wr (.cells #[.func (.func 150) #[] #[], .int .i64 6] 191)
   have x5 := X4.out.ext e5
   have f5 := F4.out.ext e5
   have c0 := x5.cell (i := 0) rfl
   have c1 := x5.cell (i := 1) rfl
   have c2 := x5.cell (i := 2) rfl
   have c3 := x5.cell (i := 3) rfl
   have c4 := x5.cell (i := 4) rfl
   have c5 := x5.cell (i := 5) rfl
   have g0 := f5.cell (i := 0) rfl
   have g1 := f5.cell (i := 1) rfl
   have g2 := f5.cell (i := 2) rfl
   have g3 := f5.cell (i := 3) rfl
   clear x5 f5 e5
   cases b2 with
   | true =>
    go_wp2_with fail
    refine (H2.out _ (HE4.out.trans (Ext.new _ _))).mono ?_
    rintro e v ⟨rfl, ev⟩
    have z1 := ev.cell (a := ⟨wr.heap.size, 1, none⟩) (v := .int .i64 6) (by simp)
    go_wp2
    go_ret
    exact ⟨ret_int (by rw [hE'.out, HR0.out]; rfl), (HE4.out.trans (Ext.new _ _)).trans ev⟩
   | false =>
    go_wp2_with fail
    refine (H2.out _ (HE4.out.trans (Ext.new _ _))).mono ?_
    rintro e v ⟨rfl, ev⟩
    have z1 := ev.cell (a := ⟨wr.heap.size, 1, none⟩) (v := .int .i64 6) (by simp)
    have y := (he'.out.trans (Ext.new _ _)).trans ev
    clear z1 ev
    go_wp2
    go_roundw
    case rel => exact ⟨1, rfl, by omega, by rw [hE'.out, HR0.out]; rfl, y⟩
    case measure => simp [RowKit.intOf]
  ·have q0 := R4.out.cell (i := 2) rfl
   have q1 := R4.out.cell (i := 3) rfl
   have e5 := Ext.new wr (.cells #[.func (.func 151) #[] #[], .int .i64 12] 191)
   have x5 := X4.out.ext e5
   have f5 := F4.out.ext e5
   have c0 := x5.cell (i := 0) rfl
   have c1 := x5.cell (i := 1) rfl
   have c2 := x5.cell (i := 2) rfl
   have c3 := x5.cell (i := 3) rfl
   have c4 := x5.cell (i := 4) rfl
   have c5 := x5.cell (i := 5) rfl
   have g0 := f5.cell (i := 0) rfl
   have g1 := f5.cell (i := 1) rfl
   have g2 := f5.cell (i := 2) rfl
   have g3 := f5.cell (i := 3) rfl
   clear x5 f5 e5
   cases b3 with
   | true =>
    go_wp2_with fail
    refine (H3.out _ (HE4.out.trans (Ext.new _ _))).mono ?_
    rintro e v ⟨rfl, ev⟩
    have z1 := ev.cell (a := ⟨wr.heap.size, 1, none⟩) (v := .int .i64 12) (by simp)
    go_wp2
    go_ret
    exact ⟨ret_int (by rw [hE'.out, HR1.out]; rfl), (HE4.out.trans (Ext.new _ _)).trans ev⟩
   | false =>
    go_wp2_with fail
    refine (H3.out _ (HE4.out.trans (Ext.new _ _))).mono ?_
    rintro e v ⟨rfl, ev⟩
    have z1 := ev.cell (a := ⟨wr.heap.size, 1, none⟩) (v := .int .i64 12) (by simp)
    have y := (he'.out.trans (Ext.new _ _)).trans ev
    clear z1 ev
    go_wp2
    go_roundw
    case rel => exact ⟨2, rfl, by omega, by rw [hE'.out, HR1.out]; rfl, y⟩
    case measure => simp [RowKit.intOf]
  ·have q0 := R4.out.cell (i := 4) rfl
   have q1 := R4.out.cell (i := 5) rfl
   have e5 := Ext.new wr (.cells #[.func (.func 152) #[] #[], .int .i64 12] 191)
   have x5 := X4.out.ext e5
   have f5 := F4.out.ext e5
   have c0 := x5.cell (i := 0) rfl
   have c1 := x5.cell (i := 1) rfl
   have c2 := x5.cell (i := 2) rfl
   have c3 := x5.cell (i := 3) rfl
   have c4 := x5.cell (i := 4) rfl
   have c5 := x5.cell (i := 5) rfl
   have g0 := f5.cell (i := 0) rfl
   have g1 := f5.cell (i := 1) rfl
   have g2 := f5.cell (i := 2) rfl
   have g3 := f5.cell (i := 3) rfl
   clear x5 f5 e5
   cases b4 with
   | true =>
    go_wp2_with fail
    refine (H4.out _).mono ?_
    rintro e v ⟨rfl, ev⟩
    have z1 := ev.cell (a := ⟨wr.heap.size, 1, none⟩) (v := .int .i64 12) (by simp)
    go_wp2
    go_ret
    exact ⟨ret_int (by rw [hE'.out, HR2.out]; rfl), (HE4.out.trans (Ext.new _ _)).trans ev⟩
   | false =>
    go_wp2_with fail
    refine (H4.out _).mono ?_
    rintro e v ⟨rfl, ev⟩
    have z1 := ev.cell (a := ⟨wr.heap.size, 1, none⟩) (v := .int .i64 12) (by simp)
    have y := (he'.out.trans (Ext.new _ _)).trans ev
    clear z1 ev
    go_wp2
    go_roundw
    case rel => exact ⟨3, rfl, by omega, by rw [hE'.out, HR2.out]; rfl, y⟩
    case measure => simp [RowKit.intOf]
  ·have q0 := R4.out.cell (i := 6) rfl
   have q1 := R4.out.cell (i := 7) rfl
   have e5 := Ext.new wr (.cells #[.func (.func 153) #[] #[.pointer (some ⟨W2.heap.size, 0, none⟩)], .int .i64 5] 191)
   have x5 := X4.out.ext e5
   have f5 := F4.out.ext e5
   have c0 := x5.cell (i := 0) rfl
   have c1 := x5.cell (i := 1) rfl
   have c2 := x5.cell (i := 2) rfl
   have c3 := x5.cell (i := 3) rfl
   have c4 := x5.cell (i := 4) rfl
   have c5 := x5.cell (i := 5) rfl
   have g0 := f5.cell (i := 0) rfl
   have g1 := f5.cell (i := 1) rfl
   have g2 := f5.cell (i := 2) rfl
   have g3 := f5.cell (i := 3) rfl
   clear x5 f5 e5
   cases b5 with
   | true =>
    go_wp2_with fail
    refine (H5.out _ _ (O4.out.ext (Ext.new _ _))).mono ?_
    rintro e v ⟨rfl, ev⟩
    have z1 := ev.cell (a := ⟨wr.heap.size, 1, none⟩) (v := .int .i64 5) (by simp)
    go_wp2
    go_ret
    exact ⟨ret_int (by rw [hE'.out, HR3.out]; rfl), (HE4.out.trans (Ext.new _ _)).trans ev⟩
   | false =>
    go_wp2_with fail
    refine (H5.out _ _ (O4.out.ext (Ext.new _ _))).mono ?_
    rintro e v ⟨rfl, ev⟩
    have z1 := ev.cell (a := ⟨wr.heap.size, 1, none⟩) (v := .int .i64 5) (by simp)
    have y := (he'.out.trans (Ext.new _ _)).trans ev
    clear z1 ev
    go_wp2
    go_roundw
    case rel => exact ⟨4, rfl, by omega, by rw [hE'.out, HR3.out]; rfl, y⟩
    case measure => simp [RowKit.intOf]
  ·have q0 := R4.out.cell (i := 8) rfl
   have q1 := R4.out.cell (i := 9) rfl
   have e5 := Ext.new wr (.cells #[.func (.func 154) #[] #[], .int .i64 4] 191)
   have x5 := X4.out.ext e5
   have f5 := F4.out.ext e5
   have c0 := x5.cell (i := 0) rfl
   have c1 := x5.cell (i := 1) rfl
   have c2 := x5.cell (i := 2) rfl
   have c3 := x5.cell (i := 3) rfl
   have c4 := x5.cell (i := 4) rfl
   have c5 := x5.cell (i := 5) rfl
   have g0 := f5.cell (i := 0) rfl
   have g1 := f5.cell (i := 1) rfl
   have g2 := f5.cell (i := 2) rfl
   have g3 := f5.cell (i := 3) rfl
   clear x5 f5 e5
   cases b6 with
   | true =>
    go_wp2_with fail
    refine (H6.out _ (HE4.out.trans (Ext.new _ _))).mono ?_
    rintro e v ⟨rfl, ev⟩
    have z1 := ev.cell (a := ⟨wr.heap.size, 1, none⟩) (v := .int .i64 4) (by simp)
    go_wp2
    go_ret
    exact ⟨ret_int (by rw [hE'.out, HR4.out]; rfl), (HE4.out.trans (Ext.new _ _)).trans ev⟩
   | false =>
    go_wp2_with fail
    refine (H6.out _ (HE4.out.trans (Ext.new _ _))).mono ?_
    rintro e v ⟨rfl, ev⟩
    have z1 := ev.cell (a := ⟨wr.heap.size, 1, none⟩) (v := .int .i64 4) (by simp)
    have y := (he'.out.trans (Ext.new _ _)).trans ev
    clear z1 ev
    go_wp2
    go_roundw
    case rel => exact ⟨5, rfl, by omega, by rw [hE'.out, HR4.out]; rfl, y⟩
    case measure => simp [RowKit.intOf]
  ·go_wp2
   go_ret
   exact ⟨ret_int (by rw [hE'.out, ← HR5.out]), HE4.out⟩
  ·exact absurd hk (by omega)
end Go.Proofs.YtmofdnlefjfcfaaGreatDoor
