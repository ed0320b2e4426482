/- The layer insn: the error of an instruction, as one plain function; Uses. -/
import Derived.Test.YtiaddncjghkajaaGreatDoorJSlot
import Derived.Deep.DeepCutAuto
import Derived.Test.YtiaddncjghkajaaGreatDoorJEq
import Derived.Test.YtiaddncjghkajaaGreatDoorJIdentR
import Derived.Laws.EntriesVeiled
set_option linter.unusedVariables false
set_option linter.unusedSimpArgs false
namespace Go.Proofs.YtiaddncjghkajaaGreatDoor
open Go.RowKit

/-- A block of plain cells. -/
def RowV (w : World) (g : Nat) (t : TypeId) (l : List Value) : Prop := w.heap[g]? = some (.cells l.toArray t (0, 0))
section
variable {w w' : World} {g : Nat} {t : TypeId} {l : List Value}
theorem RowV.cell (h : RowV w g t l) {i : Nat} {v : Value} (hv : l[i]? = some v) : w.cell? ⟨g, i, none⟩ = some v := by simp [World.cell?, show w.heap[g]? = _ from h, hv]
theorem RowV.frozen (h : RowV w g t l) (i : Nat) : w.frozen? ⟨g, i, none⟩ = false := by simp [World.frozen?, show w.heap[g]? = _ from h]
theorem RowV.lt (h : RowV w g t l) : g < w.heap.size := (Array.getElem?_eq_some_iff.1 h).1
theorem RowV.ext (h : RowV w g t l) (he : Ext w w') : RowV w' g t l := he.obj h
theorem RowV.keep {row : Option Nat} (h : RowV w g t l) (hg : w.grownBy w' row) (hne : some g ≠ row) : RowV w' g t l := (hg.block g h.lt hne).trans h
theorem RowV.new (w : World) (l : List Value) (t : TypeId) : RowV (w.alloc (.cells l.toArray t)) w.heap.size t l := heap_alloc_new w _
theorem RowV.set (h : RowV w g t l) (i : Nat) (u : Value) : RowV (w.setCell ⟨g, i, none⟩ u) g t (l.set i u) := by
 unfold RowV at *
 simp only [World.setCell, Array.getElem?_modify, h, if_true, Option.map_some]
 simp
end

theorem results_rowV {P : Program} {fn : Func} {p : Tmp} {ty : TypeId} (cs : Array Value) (h : fn.results = #[.cell p ty]) (tmps : Array Value) (w : World) (g : Nat) (t : TypeId) (d : TypeDesc)
  (hp : tmps.getD p undef = .pointer (some ⟨g, 0, none⟩)) (hg : ∃ l, RowV w g t l ∧ l.toArray = cs)
  (hu : P.underlying ty = some d) (hd : (match d with | .struct _ | .array _ _ => true | _ => false) = true) (hi : (P.info? ty).map (·.size) = some cs.size) :
  (results fn tmps).run P w = .ok (.agg cs) w := by
 obtain ⟨l, hg, rfl⟩ := hg
 exact results_cell_row h tmps w g t l.toArray (0, 0) d hp hg hu hd hi

def fBad (u : Bool) (n : Int) : Bool := !u && !(n == 0)
def fieldBad (x : Ins) : Bool := fBad (usesDst x.op) x.dst || fBad (usesSrc x.op x.reg) x.src || fBad (usesOff x.op) x.off || fBad (usesImm x.op x.reg) x.imm
def regBad (x : Ins) : Bool := x.reg && !(formN x.op == 0) && !(formN x.op == 4)
def immOk (x : Ins) : Bool := if formN x.op = 10 then true else if formN x.op = 5 then decide (1 ≤ x.imm ∧ x.imm ≤ 3) else if formN x.op = 11 then decide (0 ≤ x.imm ∧ x.imm < 255) else fits32 x.imm
def insE (x : Ins) : Int :=
 if formN x.op = -1 then 6 else if regBad x then 12 else if fieldBad x then 12 else if !(regOk x.dst && regOk x.src) then 5 else if !(fits16 x.off && immOk x) then 4 else 0

def Ins.uses (x : Ins) : List Value := [.bool (usesDst x.op), .bool (usesSrc x.op x.reg), .bool (usesOff x.op), .bool (usesImm x.op x.reg)]
theorem uses_end {n : Int} {reg : Bool} {w W : World} {l : List Value} (a : Act) (g : Nat) (hp : a.tmps.getD 4 undef = .pointer (some ⟨g, 0, none⟩)) (hd : a.defers = []) (hr : RowV W g 229 l) (he : Ext w W)
  (hl : l = [.bool (usesDst n), .bool (usesSrc n reg), .bool (usesOff n), .bool (usesImm n reg)]) :
  bodyPost Tryz.prog Tryz.f182 (fun e w' => e = .returned (.agg #[.bool (usesDst n), .bool (usesSrc n reg), .bool (usesOff n), .bool (usesImm n reg)]) ∧ Ext w w') .ret a W := by
 subst hl
 exact bodyPost_ret (results_rowV #[.bool (usesDst n), .bool (usesSrc n reg), .bool (usesOff n), .bool (usesImm n reg)] (by rfl) _ _ g 229 _ hp ⟨_, hr, rfl⟩ Tryz.underlying229 rfl (by kernel_rfl)) hd ⟨rfl, he⟩
set_option maxRecDepth 40000 in
set_option maxHeartbeats 4000000 in
theorem insnUses_any (n : Int) (reg : Bool) (w : World) (hn : I64 n) (hO : OpsN w) :
  Calls Tryz.prog 182 #[.int .i64 n, .bool reg] w fun e w' => e = .returned (.agg #[.bool (usesDst n), .bool (usesSrc n reg), .bool (usesOff n), .bool (usesImm n reg)]) ∧ Ext w w' := by
 have e0 := Ext.new w (.cells #[.bool false, .bool false, .bool false, .bool false] 229)
 have r0 := RowV.new w [.bool false, .bool false, .bool false, .bool false] 229
 have hc := opForm_any n (w.alloc (.cells #[.bool false, .bool false, .bool false, .bool false] 229)) hn (hO.ext e0)
 have R0 := hx r0
 have E0 := hx e0
 clear e0 r0 hO hn
 rcases form_cases n with h | h | h | h | h | h | h | h | h | h | h | h | h
 all_goals
  rw [h] at hc
  have H := hx hc
  have HF := hx h
  clear hc h
  go_enter Tryz.func182, Tryz.ntmps182
  go_wp2_with fail
  refine H.out.mono ?_
  rintro e w1 ⟨rfl, e1⟩
  have r1 := R0.out.ext e1
  have f0 := r1.frozen 0
  have f1 := r1.frozen 1
  have f2 := r1.frozen 2
  have f3 := r1.frozen 3
  have c0 := r1.cell (i := 0) rfl
  have c1 := r1.cell (i := 1) rfl
  have c2 := r1.cell (i := 2) rfl
  have c3 := r1.cell (i := 3) rfl
  have R1 := hx r1
  have E1 := hx (E0.out.trans e1)
  clear r1 e1
  go_wp2
 ·exact uses_end _ _ (by rfl) rfl ((((R1.out.set 0 (.bool false)).set 1 (.bool false)).set 2 (.bool false)).set 3 (.bool false)) ((((E1.out.setCell (a := ⟨w.heap.size, 0, none⟩) (.bool false) (Nat.le_refl _)).setCell (a := ⟨w.heap.size, 1, none⟩) (.bool false) (Nat.le_refl _)).setCell (a := ⟨w.heap.size, 2, none⟩) (.bool false) (Nat.le_refl _)).setCell (a := ⟨w.heap.size, 3, none⟩) (.bool false) (Nat.le_refl _)) (by unfold usesDst usesSrc usesOff usesImm; rw [HF.out]; cases reg <;> rfl)
 ·exact uses_end _ _ (by rfl) rfl (((((((R1.out.set 0 (.bool true)).set 1 (.bool reg)).set 3 (.bool !reg)).set 0 (.bool true)).set 1 (.bool reg)).set 2 (.bool false)).set 3 (.bool !reg)) (((((((E1.out.setCell (a := ⟨w.heap.size, 0, none⟩) (.bool true) (Nat.le_refl _)).setCell (a := ⟨w.heap.size, 1, none⟩) (.bool reg) (Nat.le_refl _)).setCell (a := ⟨w.heap.size, 3, none⟩) (.bool !reg) (Nat.le_refl _)).setCell (a := ⟨w.heap.size, 0, none⟩) (.bool true) (Nat.le_refl _)).setCell (a := ⟨w.heap.size, 1, none⟩) (.bool reg) (Nat.le_refl _)).setCell (a := ⟨w.heap.size, 2, none⟩) (.bool false) (Nat.le_refl _)).setCell (a := ⟨w.heap.size, 3, none⟩) (.bool !reg) (Nat.le_refl _)) (by unfold usesDst usesSrc usesOff usesImm; rw [HF.out]; cases reg <;> rfl)
 ·exact uses_end _ _ (by rfl) rfl (((((R1.out.set 0 (.bool true)).set 0 (.bool true)).set 1 (.bool false)).set 2 (.bool false)).set 3 (.bool false)) (((((E1.out.setCell (a := ⟨w.heap.size, 0, none⟩) (.bool true) (Nat.le_refl _)).setCell (a := ⟨w.heap.size, 0, none⟩) (.bool true) (Nat.le_refl _)).setCell (a := ⟨w.heap.size, 1, none⟩) (.bool false) (Nat.le_refl _)).setCell (a := ⟨w.heap.size, 2, none⟩) (.bool false) (Nat.le_refl _)).setCell (a := ⟨w.heap.size, 3, none⟩) (.bool false) (Nat.le_refl _)) (by unfold usesDst usesSrc usesOff usesImm; rw [HF.out]; cases reg <;> rfl)
 ·exact uses_end _ _ (by rfl) rfl ((((((R1.out.set 1 (.bool true)).set 0 (.bool true)).set 0 (.bool true)).set 1 (.bool true)).set 2 (.bool false)).set 3 (.bool false)) ((((((E1.out.setCell (a := ⟨w.heap.size, 1, none⟩) (.bool true) (Nat.le_refl _)).setCell (a := ⟨w.heap.size, 0, none⟩) (.bool true) (Nat.le_refl _)).setCell (a := ⟨w.heap.size, 0, none⟩) (.bool true) (Nat.le_refl _)).setCell (a := ⟨w.heap.size, 1, none⟩) (.bool true) (Nat.le_refl _)).setCell (a := ⟨w.heap.size, 2, none⟩) (.bool false) (Nat.le_refl _)).setCell (a := ⟨w.heap.size, 3, none⟩) (.bool false) (Nat.le_refl _)) (by unfold usesDst usesSrc usesOff usesImm; rw [HF.out]; cases reg <;> rfl)
 ·exact uses_end _ _ (by rfl) rfl (((((R1.out.set 2 (.bool true)).set 0 (.bool false)).set 1 (.bool false)).set 2 (.bool true)).set 3 (.bool false)) (((((E1.out.setCell (a := ⟨w.heap.size, 2, none⟩) (.bool true) (Nat.le_refl _)).setCell (a := ⟨w.heap.size, 0, none⟩) (.bool false) (Nat.le_refl _)).setCell (a := ⟨w.heap.size, 1, none⟩) (.bool false) (Nat.le_refl _)).setCell (a := ⟨w.heap.size, 2, none⟩) (.bool true) (Nat.le_refl _)).setCell (a := ⟨w.heap.size, 3, none⟩) (.bool false) (Nat.le_refl _)) (by unfold usesDst usesSrc usesOff usesImm; rw [HF.out]; cases reg <;> rfl)
 ·exact uses_end _ _ (by rfl) rfl ((((((((R1.out.set 2 (.bool true)).set 0 (.bool true)).set 1 (.bool reg)).set 3 (.bool !reg)).set 0 (.bool true)).set 1 (.bool reg)).set 2 (.bool true)).set 3 (.bool !reg)) ((((((((E1.out.setCell (a := ⟨w.heap.size, 2, none⟩) (.bool true) (Nat.le_refl _)).setCell (a := ⟨w.heap.size, 0, none⟩) (.bool true) (Nat.le_refl _)).setCell (a := ⟨w.heap.size, 1, none⟩) (.bool reg) (Nat.le_refl _)).setCell (a := ⟨w.heap.size, 3, none⟩) (.bool !reg) (Nat.le_refl _)).setCell (a := ⟨w.heap.size, 0, none⟩) (.bool true) (Nat.le_refl _)).setCell (a := ⟨w.heap.size, 1, none⟩) (.bool reg) (Nat.le_refl _)).setCell (a := ⟨w.heap.size, 2, none⟩) (.bool true) (Nat.le_refl _)).setCell (a := ⟨w.heap.size, 3, none⟩) (.bool !reg) (Nat.le_refl _)) (by unfold usesDst usesSrc usesOff usesImm; rw [HF.out]; cases reg <;> rfl)
 ·exact uses_end _ _ (by rfl) rfl (((((R1.out.set 3 (.bool true)).set 0 (.bool false)).set 1 (.bool false)).set 2 (.bool false)).set 3 (.bool true)) (((((E1.out.setCell (a := ⟨w.heap.size, 3, none⟩) (.bool true) (Nat.le_refl _)).setCell (a := ⟨w.heap.size, 0, none⟩) (.bool false) (Nat.le_refl _)).setCell (a := ⟨w.heap.size, 1, none⟩) (.bool false) (Nat.le_refl _)).setCell (a := ⟨w.heap.size, 2, none⟩) (.bool false) (Nat.le_refl _)).setCell (a := ⟨w.heap.size, 3, none⟩) (.bool true) (Nat.le_refl _)) (by unfold usesDst usesSrc usesOff usesImm; rw [HF.out]; cases reg <;> rfl)
 ·exact uses_end _ _ (by rfl) rfl ((((R1.out.set 0 (.bool false)).set 1 (.bool false)).set 2 (.bool false)).set 3 (.bool false)) ((((E1.out.setCell (a := ⟨w.heap.size, 0, none⟩) (.bool false) (Nat.le_refl _)).setCell (a := ⟨w.heap.size, 1, none⟩) (.bool false) (Nat.le_refl _)).setCell (a := ⟨w.heap.size, 2, none⟩) (.bool false) (Nat.le_refl _)).setCell (a := ⟨w.heap.size, 3, none⟩) (.bool false) (Nat.le_refl _)) (by unfold usesDst usesSrc usesOff usesImm; rw [HF.out]; cases reg <;> rfl)
 ·exact uses_end _ _ (by rfl) rfl (((((((R1.out.set 2 (.bool true)).set 1 (.bool true)).set 0 (.bool true)).set 0 (.bool true)).set 1 (.bool true)).set 2 (.bool true)).set 3 (.bool false)) (((((((E1.out.setCell (a := ⟨w.heap.size, 2, none⟩) (.bool true) (Nat.le_refl _)).setCell (a := ⟨w.heap.size, 1, none⟩) (.bool true) (Nat.le_refl _)).setCell (a := ⟨w.heap.size, 0, none⟩) (.bool true) (Nat.le_refl _)).setCell (a := ⟨w.heap.size, 0, none⟩) (.bool true) (Nat.le_refl _)).setCell (a := ⟨w.heap.size, 1, none⟩) (.bool true) (Nat.le_refl _)).setCell (a := ⟨w.heap.size, 2, none⟩) (.bool true) (Nat.le_refl _)).setCell (a := ⟨w.heap.size, 3, none⟩) (.bool false) (Nat.le_refl _)) (by unfold usesDst usesSrc usesOff usesImm; rw [HF.out]; cases reg <;> rfl)
 ·exact uses_end _ _ (by rfl) rfl (((((((R1.out.set 2 (.bool true)).set 0 (.bool true)).set 3 (.bool true)).set 0 (.bool true)).set 1 (.bool false)).set 2 (.bool true)).set 3 (.bool true)) (((((((E1.out.setCell (a := ⟨w.heap.size, 2, none⟩) (.bool true) (Nat.le_refl _)).setCell (a := ⟨w.heap.size, 0, none⟩) (.bool true) (Nat.le_refl _)).setCell (a := ⟨w.heap.size, 3, none⟩) (.bool true) (Nat.le_refl _)).setCell (a := ⟨w.heap.size, 0, none⟩) (.bool true) (Nat.le_refl _)).setCell (a := ⟨w.heap.size, 1, none⟩) (.bool false) (Nat.le_refl _)).setCell (a := ⟨w.heap.size, 2, none⟩) (.bool true) (Nat.le_refl _)).setCell (a := ⟨w.heap.size, 3, none⟩) (.bool true) (Nat.le_refl _)) (by unfold usesDst usesSrc usesOff usesImm; rw [HF.out]; cases reg <;> rfl)
 ·exact uses_end _ _ (by rfl) rfl (((((((R1.out.set 2 (.bool true)).set 1 (.bool true)).set 0 (.bool true)).set 0 (.bool true)).set 1 (.bool true)).set 2 (.bool true)).set 3 (.bool false)) (((((((E1.out.setCell (a := ⟨w.heap.size, 2, none⟩) (.bool true) (Nat.le_refl _)).setCell (a := ⟨w.heap.size, 1, none⟩) (.bool true) (Nat.le_refl _)).setCell (a := ⟨w.heap.size, 0, none⟩) (.bool true) (Nat.le_refl _)).setCell (a := ⟨w.heap.size, 0, none⟩) (.bool true) (Nat.le_refl _)).setCell (a := ⟨w.heap.size, 1, none⟩) (.bool true) (Nat.le_refl _)).setCell (a := ⟨w.heap.size, 2, none⟩) (.bool true) (Nat.le_refl _)).setCell (a := ⟨w.heap.size, 3, none⟩) (.bool false) (Nat.le_refl _)) (by unfold usesDst usesSrc usesOff usesImm; rw [HF.out]; cases reg <;> rfl)
 ·exact uses_end _ _ (by rfl) rfl ((((((R1.out.set 0 (.bool true)).set 3 (.bool true)).set 0 (.bool true)).set 1 (.bool false)).set 2 (.bool false)).set 3 (.bool true)) ((((((E1.out.setCell (a := ⟨w.heap.size, 0, none⟩) (.bool true) (Nat.le_refl _)).setCell (a := ⟨w.heap.size, 3, none⟩) (.bool true) (Nat.le_refl _)).setCell (a := ⟨w.heap.size, 0, none⟩) (.bool true) (Nat.le_refl _)).setCell (a := ⟨w.heap.size, 1, none⟩) (.bool false) (Nat.le_refl _)).setCell (a := ⟨w.heap.size, 2, none⟩) (.bool false) (Nat.le_refl _)).setCell (a := ⟨w.heap.size, 3, none⟩) (.bool true) (Nat.le_refl _)) (by unfold usesDst usesSrc usesOff usesImm; rw [HF.out]; cases reg <;> rfl)
 ·exact uses_end _ _ (by rfl) rfl ((((((R1.out.set 0 (.bool true)).set 3 (.bool true)).set 0 (.bool true)).set 1 (.bool false)).set 2 (.bool false)).set 3 (.bool true)) ((((((E1.out.setCell (a := ⟨w.heap.size, 0, none⟩) (.bool true) (Nat.le_refl _)).setCell (a := ⟨w.heap.size, 3, none⟩) (.bool true) (Nat.le_refl _)).setCell (a := ⟨w.heap.size, 0, none⟩) (.bool true) (Nat.le_refl _)).setCell (a := ⟨w.heap.size, 1, none⟩) (.bool false) (Nat.le_refl _)).setCell (a := ⟨w.heap.size, 2, none⟩) (.bool false) (Nat.le_refl _)).setCell (a := ⟨w.heap.size, 3, none⟩) (.bool true) (Nat.le_refl _)) (by unfold usesDst usesSrc usesOff usesImm; rw [HF.out]; cases reg <;> rfl)
end Go.Proofs.YtiaddncjghkajaaGreatDoor


set_option linter.unusedVariables false
set_option linter.unusedSimpArgs false
namespace Go.Proofs.YtiaddncjghkajaaGreatDoor
open Go.RowKit

def subL (b : List Int) (i m : Nat) : List Int := (b.drop i).take m
theorem wrapU (z : Int) (h0 : 0 ≤ z) (h1 : z < 18446744073709551616) : IntKind.u64.wrap z = z := by
 simp [IntKind.wrap, IntKind.signed, IntKind.bits]
 omega
theorem wrapI (z : Int) (h : -100000 ≤ z) (h' : z ≤ 100000) : wrap64 z = z := by unfold wrap64; omega
theorem get_wraps (L y : Int) (h0 : 0 ≤ L) (h1 : L < 16777216) (h2 : 0 ≤ y) (h3 : y < 256) : IntKind.u64.wrap (L * 256) = L * 256 ∧ IntKind.u64.wrap (L * 256 + y) = L * 256 + y ∧ IntKind.u64.wrap y = y :=
 ⟨wrapU _ (by omega) (by omega), wrapU _ (by omega) (by omega), wrapU _ (by omega) (by omega)⟩
theorem subL_nil (b : List Int) (i : Nat) : subL b i 0 = [] := by simp [subL]
theorem subL_cons (b : List Int) (i m : Nat) (y : Int) (h : b[i]? = some y) : subL b i (m + 1) = y :: subL b (i + 1) m := by
 unfold subL
 obtain ⟨hi, rfl⟩ := List.getElem?_eq_some_iff.1 h
 rw [List.drop_eq_getElem_cons hi, List.take_succ_cons]
theorem subL_length (b : List Int) (i m : Nat) (h : i + m ≤ b.length) : (subL b i m).length = m := by unfold subL; rw [List.length_take, List.length_drop]; omega
theorem subL_byt {b : List Int} (h : Byt b) (i m : Nat) : Byt (subL b i m) := fun x hx => h x (List.mem_of_mem_drop (List.mem_of_mem_take hx))
theorem subL_bd {b : List Int} (h : Byt b) (i : Nat) {m : Nat} (hm : m ≤ 4) : 0 ≤ lval (subL b i m) ∧ lval (subL b i m) < 4294967296 := by
 have h1 := lval_nonneg (subL_byt h i m)
 have h2 : (subL b i m).length ≤ 4 := by unfold subL; rw [List.length_take]; omega
 have h3 : (256 : Int) ^ (subL b i m).length ≤ 4294967296 := by
  have : ∀ k : Nat, k ≤ 4 → (256 : Int) ^ k ≤ 4294967296 := by decide
  exact this _ h2
 exact ⟨h1.1, by omega⟩
set_option maxRecDepth 20000 in
set_option maxHeartbeats 1000000 in
theorem refGet_any (v : Value) (b : List Int) (i0 n : Nat) (w : World) (hv : IsB w v b) (hb : i0 + n ≤ b.length) (hn : n ≤ 4) (hi0 : i0 ≤ 100) :
  Calls Tryz.prog 62 #[v, .int .i64 (i0 : Nat), .int .i64 (n : Nat)] w fun e w' => e = .returned (.int .u64 (lval (subL b i0 n))) ∧ w' = w := by
 obtain ⟨A, c, rfl, hc, -, hv1⟩ := hv.form
 have hB := hx (IsB.byt hv1)
 clear hv
 go_enter Tryz.func62, Tryz.ntmps62
 go_wp2
 go_loop [7, 8] (fun x i => ∃ k : Nat, k ≤ n ∧ i = .int .i64 ((k : Int) - 1) ∧ x = .int .u64 (lval (subL b (i0 + k) (n - k))))
  (fun _ i => (RowKit.intOf i + 1).toNat)
 case atStart =>
  refine ⟨n, Nat.le_refl _, ?_, ?_⟩
  ·simp
  ·rw [Nat.sub_self, subL_nil]; rfl
 case round =>
  obtain ⟨k, hk, rfl, rfl⟩ := hrel
  cases k with
  | zero =>
   go_wp2
   go_ret
   exact ⟨by simp, rfl⟩
  | succ k =>
   obtain ⟨y, hy⟩ : ∃ y, b[i0 + k]? = some y := ⟨_, List.getElem?_eq_getElem (by omega)⟩
   obtain ⟨b0, o, rfl, d1, hy0, hy1⟩ := hv1.get hy
   rw [Nat.mul_one] at d1
   have hs : subL b (i0 + k) (n - k) = y :: subL b (i0 + (k + 1)) (n - (k + 1)) := by
    have e : n - k = (n - (k + 1)) + 1 := by omega
    rw [e, subL_cons b _ _ y hy]; rfl
   have hbd := lval_nonneg (subL_byt hB.out (i0 + (k + 1)) (n - (k + 1)))
   have hlen := subL_length b (i0 + (k + 1)) (n - (k + 1)) (by omega)
   have h3 : (256 : Int) ^ (n - (k + 1)) ≤ 16777216 := by
    have : ∀ k : Nat, k ≤ 3 → (256 : Int) ^ k ≤ 16777216 := by decide
    exact this _ (by omega)
   rw [hlen] at hbd
   have HS := hx hs
   have hL : lval (subL b (i0 + k) (n - k)) = y + 256 * lval (subL b (i0 + (k + 1)) (n - (k + 1))) := by rw [hs]; rfl
   obtain ⟨hb0, hb1⟩ := hbd
   generalize lval (subL b (i0 + (k + 1)) (n - (k + 1))) = L at *
   have hb2 : L < 16777216 := Int.lt_of_lt_of_le hb1 h3
   obtain ⟨w1, w2, w3⟩ := get_wraps L y hb0 hb2 hy0 hy1
   clear hb1 h3 hlen hs hB
   have HL := hx hL
   have hk1 : (((k + 1 : Nat) : Int) - 1) = (k : Int) := by omega
   rw [hk1]
   obtain ⟨m, hm⟩ : ∃ m, m = i0 + k := ⟨_, rfl⟩
   rw [← hm] at d1 hy
   have hmb : m < b.length := by rw [hm]; clear hm hb2 hb0 w1 w2 w3; omega
   have hmz : (i0 : Int) + (k : Int) = (m : Int) := by omega
   have hmw : wrap64 (m : Int) = (m : Int) := wrapI _ (by clear hb2 hb0; omega) (by clear hb2 hb0; omega)
   have hmv : wrap64 ((k : Int) - 1) = (k : Int) - 1 := wrapI _ (by omega) (by omega)
   have HK := hx hk
   clear hL hm hk hy hk1
   go_wp2
   go_round
   case rel => exact ⟨k, by have := HK.out; omega, by go_num, by rw [HL.out]; congr 1; omega⟩
   case measure => simp [RowKit.intOf]; omega
end Go.Proofs.YtiaddncjghkajaaGreatDoor


set_option linter.unusedVariables false
set_option linter.unusedSimpArgs false
namespace Go.Proofs.YtiaddncjghkajaaGreatDoor
open Go.RowKit

def idOf (b : List Int) : Int × Bool × Bool := idR (b.getD 0 0) (b.getD 1 0 / 16) (sext 16 (lval (subL b 2 2))) (sext 32 (lval (subL b 4 4)))
/-- The instruction that bytes begin with, if they begin with one. -/
def decI (b : List Int) : Ins :=
 ⟨(idOf b).1, (idOf b).2.1, b.getD 1 0 % 16, b.getD 1 0 / 16 - (fixN (idOf b).1).1, sext 16 (lval (subL b 2 2)) - (fixN (idOf b).1).2.1,
  if slotsN (idOf b).1 = 2 then wrap64 (lval (subL b 12 4) * 4294967296 + lval (subL b 4 4)) else sext 32 (lval (subL b 4 4)) - (fixN (idOf b).1).2.2⟩
def decE (b : List Int) : Int :=
 if b.length < 8 then 17 else if (idOf b).2.2 = false then 6 else if slotsN (idOf b).1 = 2 ∧ b.length < 16 then 17 else if 10 < b.getD 1 0 % 16 ∨ 10 < b.getD 1 0 / 16 then 5
 else if slotsN (idOf b).1 = 2 ∧ lval (subL b 8 4) ≠ 0 then 12 else if insE (decI b) ≠ 0 then 12 else 0
def insZ : Ins := ⟨0, false, 0, 0, 0, 0⟩
def decX (b : List Int) : Ins := if decE b = 0 then decI b else insZ
def decN (b : List Int) : Int := if decE b = 0 then slotsN (idOf b).1 else 0
theorem slotsN_cases (n : Int) : slotsN n = 0 ∨ slotsN n = 1 ∨ slotsN n = 2 := by
 unfold slotsN
 split
 ·exact .inl rfl
 ·split
  ·exact .inr (.inr rfl)
  ·exact .inr (.inl rfl)
theorem idAt_op {c s o i : Int} {k : Nat} {r : Int × Bool} (h : idAt c s o i k = some r) : r.1 = k := by
 unfold idAt at h
 split at h
 ·split at h
  ·cases h; rfl
  ·split at h
   ·cases h; rfl
   ·cases h
 ·cases h
theorem idR_op (c s o i : Int) : 0 ≤ (idR c s o i).1 ∧ (idR c s o i).1 < 86 := by
 unfold idR
 split
 ·rename_i n reg h
  obtain ⟨k, hk, hr⟩ := List.exists_of_findSome?_eq_some h
  have := idAt_op hr
  have hk' : k < 86 := by simpa using hk
  dsimp only at this ⊢
  omega
 ·exact ⟨by decide, by decide⟩
theorem sext16_bd {x : Int} (h0 : 0 ≤ x) (h1 : x < 65536) : -32768 ≤ sext 16 x ∧ sext 16 x ≤ 32767 := by
 unfold sext; simp only [Nat.reduceSub, Int.reducePow]; split <;> omega
theorem sext32_bd {x : Int} (h0 : 0 ≤ x) (h1 : x < 4294967296) : -2147483648 ≤ sext 32 x ∧ sext 32 x ≤ 2147483647 := by
 unfold sext; simp only [Nat.reduceSub, Int.reducePow]; split <;> omega
theorem subL2_bd {b : List Int} (h : Byt b) (i : Nat) : 0 ≤ lval (subL b i 2) ∧ lval (subL b i 2) < 65536 := by
 have h1 := lval_nonneg (subL_byt h i 2)
 have h2 : (subL b i 2).length ≤ 2 := by unfold subL; rw [List.length_take]; omega
 have h3 : (256 : Int) ^ (subL b i 2).length ≤ 65536 := by
  have : ∀ k : Nat, k ≤ 2 → (256 : Int) ^ k ≤ 65536 := by decide
  exact this _ h2
 exact ⟨h1.1, Int.lt_of_lt_of_le h1.2 h3⟩
theorem fixN_bd (n : Int) : (0 ≤ (fixN n).1 ∧ (fixN n).1 ≤ 1) ∧ (0 ≤ (fixN n).2.1 ∧ (fixN n).2.1 ≤ 32) ∧ (0 ≤ (fixN n).2.2 ∧ (fixN n).2.2 ≤ 64) := ⟨(rowOf_ok n).src, (rowOf_ok n).off, (rowOf_ok n).imm⟩
end Go.Proofs.YtiaddncjghkajaaGreatDoor


set_option linter.unusedVariables false
namespace Go.Proofs.YtiaddncjghkajaaGreatDoor
open Go.RowKit
theorem refGet22 (v : Value) (b : List Int) (w : World) (hv : IsB w v b) (hb : 8 ≤ b.length) : Calls Tryz.prog 62 #[v, .int .i64 2, .int .i64 2] w fun e w' => e = .returned (.int .u64 (lval (subL b 2 2))) ∧ w' = w := refGet_any v b 2 2 w hv (by omega) (by omega) (by omega)
theorem refGet44 (v : Value) (b : List Int) (w : World) (hv : IsB w v b) (hb : 8 ≤ b.length) : Calls Tryz.prog 62 #[v, .int .i64 4, .int .i64 4] w fun e w' => e = .returned (.int .u64 (lval (subL b 4 4))) ∧ w' = w := refGet_any v b 4 4 w hv (by omega) (by omega) (by omega)
theorem refGet84 (v : Value) (b : List Int) (w : World) (hv : IsB w v b) (hb : 16 ≤ b.length) : Calls Tryz.prog 62 #[v, .int .i64 8, .int .i64 4] w fun e w' => e = .returned (.int .u64 (lval (subL b 8 4))) ∧ w' = w := refGet_any v b 8 4 w hv (by omega) (by omega) (by omega)
theorem refGet124 (v : Value) (b : List Int) (w : World) (hv : IsB w v b) (hb : 16 ≤ b.length) : Calls Tryz.prog 62 #[v, .int .i64 12, .int .i64 4] w fun e w' => e = .returned (.int .u64 (lval (subL b 12 4))) ∧ w' = w := refGet_any v b 12 4 w hv (by omega) (by omega) (by omega)
end Go.Proofs.YtiaddncjghkajaaGreatDoor


set_option linter.unusedVariables false
set_option linter.unusedSimpArgs false
namespace Go.Proofs.YtiaddncjghkajaaGreatDoor
open Go.RowKit

theorem fBad_key (u : Bool) (n : Int) : (u = false ∧ (n == 0) = false ∧ (n != 0) = true ∧ fBad u n = true) ∨ (u = true ∧ fBad u n = false) ∨ (u = false ∧ n = 0 ∧ fBad u n = false) := by
 cases u with
 | true => exact .inr (.inl ⟨rfl, rfl⟩)
 | false =>
  by_cases h : n = 0
  ·exact .inr (.inr ⟨rfl, h, by subst h; rfl⟩)
  ·exact .inl ⟨rfl, by simpa using h, by simpa using h, by simp [fBad, h]⟩
theorem rule1_any (n : Int) (w : World) : Calls Tryz.prog 194 #[.int .i64 n] w fun e w' => e = .returned (.bool (regOk n)) ∧ w' = w := by
 by_cases h0 : 0 ≤ n
 ·have d0 : decide (n ≥ 0) = true := decide_eq_true h0
  by_cases h1 : n < 11
  ·have d1 : decide (n < 11) = true := decide_eq_true h1
   have hr : regOk n = true := decide_eq_true ⟨h0, by omega⟩
   rw [hr]
   go_enter Tryz.func194, Tryz.ntmps194
   go_wp2
   go_ret
   exact ⟨rfl, rfl⟩
  ·have d1 : decide (n < 11) = false := decide_eq_false h1
   have hr : regOk n = false := decide_eq_false (by omega)
   rw [hr]
   go_enter Tryz.func194, Tryz.ntmps194
   go_wp2
   go_ret
   exact ⟨rfl, rfl⟩
 ·have d0 : decide (n ≥ 0) = false := decide_eq_false h0
  have hr : regOk n = false := decide_eq_false (by omega)
  rw [hr]
  go_enter Tryz.func194, Tryz.ntmps194
  go_wp2
  go_ret
  exact ⟨rfl, rfl⟩
abbrev xCells (x : Ins) : Obj := .cells #[.int .i64 x.op, .bool x.reg, .int .i64 x.dst, .int .i64 x.src, .int .i64 x.off, .int .i64 x.imm] 69
abbrev fCells (u1 u2 u3 u4 : Bool) : Obj := .cells #[.bool u1, .bool u2, .bool u3, .bool u4] 229
abbrev fV (u1 u2 u3 u4 : Bool) : Value := .agg #[.bool u1, .bool u2, .bool u3, .bool u4]
set_option maxRecDepth 40000 in
set_option maxHeartbeats 4000000 in
theorem rule2_any (x : Ins) (u1 u2 u3 u4 : Bool) (w : World) (hx0 : x.Ok) (hO : OpsN w) :
  Calls Tryz.prog 195 #[x.v, fV u1 u2 u3 u4] w fun e w' => e = .returned (.bool (decide (formN x.op < 0))) ∧ Ext w w' := by
 have e0 := (Ext.new w (xCells x)).alloc (fCells u1 u2 u3 u4)
 have hc := opForm_any x.op _ hx0.op (hO.ext e0)
 unfold Ins.v
 have E0 := hx e0
 have H := hx hc
 generalize formN x.op = F at *
 clear hc hO hx0 e0
 go_enter Tryz.func195, Tryz.ntmps195
 go_wp2_with (go_at_call 114; refine H.out.mono ?_; rintro e w1 ⟨rfl, e1⟩)
 go_ret
 exact ⟨rfl, E0.out.trans e1⟩
set_option maxRecDepth 40000 in
set_option maxHeartbeats 4000000 in
theorem rule3_any (x : Ins) (u1 u2 u3 u4 : Bool) (w : World) (hx0 : x.Ok) (hO : OpsN w) :
  Calls Tryz.prog 196 #[x.v, fV u1 u2 u3 u4] w fun e w' => e = .returned (.bool (regBad x)) ∧ Ext w w' := by
 obtain ⟨op, reg, n1, n2, n3, n4⟩ := x
 have e0 := (Ext.new w (.cells #[.int .i64 op, .bool reg, .int .i64 n1, .int .i64 n2, .int .i64 n3, .int .i64 n4] 69)).alloc (fCells u1 u2 u3 u4)
 have HC := hx fun (W : World) (hW : Ext w W) => opForm_any op W hx0.op (hO.ext hW)
 unfold Ins.v
 have HB : Hx (regBad ⟨op, reg, n1, n2, n3, n4⟩ = (reg && !(formN op == 0) && !(formN op == 4))) := hx rfl
 have r0 := (RowV.new w [.int .i64 op, .bool reg, .int .i64 n1, .int .i64 n2, .int .i64 n3, .int .i64 n4] 69).ext (Ext.new _ (fCells u1 u2 u3 u4))
 have K0 := hx (r0.cell (i := 0) rfl)
 generalize formN op = F at *
 have E0 := hx e0
 clear hO hx0 e0 r0
 cases reg with
 | false =>
  go_enter Tryz.func196, Tryz.ntmps196
  go_wp2
  go_ret
  exact ⟨ret_bool (by rw [HB.out]; rfl), E0.out⟩
 | true =>
  by_cases h0 : F = 0
  ·subst h0
   go_enter Tryz.func196, Tryz.ntmps196
   go_wp2_with fail
   refine (HC.out _ E0.out).mono ?_
   rintro e w1 ⟨rfl, e1⟩
   go_wp2
   go_ret
   exact ⟨ret_bool (by rw [HB.out]; rfl), E0.out.trans e1⟩
  ·have d0 : (F == 0) = false := by simpa using h0
   have d0' : (F != 0) = true := by simpa using h0
   have D0 := hx d0
   clear h0
   go_enter Tryz.func196, Tryz.ntmps196
   go_wp2_with fail
   refine (HC.out _ E0.out).mono ?_
   rintro e w1 ⟨rfl, e1⟩
   have k1 := e1.cell K0.out
   go_wp2_with fail
   refine (HC.out _ (E0.out.trans e1)).mono ?_
   rintro e w2 ⟨rfl, e2⟩
   go_wp2
   go_ret
   exact ⟨ret_bool (by rw [HB.out, D0.out]; rfl), (E0.out.trans e1).trans e2⟩
set_option maxRecDepth 40000 in
set_option maxHeartbeats 8000000 in
theorem rule4_any (x : Ins) (u1 u2 u3 u4 : Bool) (w : World) :
  Calls Tryz.prog 197 #[x.v, fV u1 u2 u3 u4] w fun e w' => e = .returned (.bool (fBad u1 x.dst || fBad u2 x.src || fBad u3 x.off || fBad u4 x.imm)) ∧ Ext w w' := by
 have E0 := hx ((Ext.new w (xCells x)).alloc (fCells u1 u2 u3 u4))
 obtain ⟨op, reg, n1, n2, n3, n4⟩ := x
 unfold Ins.v
 dsimp only at *
 rcases fBad_key u1 n1 with ⟨rfl, z1, y1, b1⟩ | ⟨rfl, b1⟩ | ⟨rfl, rfl, b1⟩
 ·have B1 := hx b1
  clear b1
  go_enter Tryz.func197, Tryz.ntmps197
  go_wp2
  go_ret
  exact ⟨ret_bool (by rw [B1.out]; rfl), E0.out⟩
 all_goals
  rcases fBad_key u2 n2 with ⟨rfl, z2, y2, b2⟩ | ⟨rfl, b2⟩ | ⟨rfl, rfl, b2⟩
  ·have B1 := hx b1
   have B2 := hx b2
   clear b1 b2
   go_enter Tryz.func197, Tryz.ntmps197
   go_wp2
   go_ret
   exact ⟨ret_bool (by simp [B1.out, B2.out]), E0.out⟩
  all_goals
   rcases fBad_key u3 n3 with ⟨rfl, z3, y3, b3⟩ | ⟨rfl, b3⟩ | ⟨rfl, rfl, b3⟩
   ·have B1 := hx b1
    have B2 := hx b2
    have B3 := hx b3
    clear b1 b2 b3
    go_enter Tryz.func197, Tryz.ntmps197
    go_wp2
    go_ret
    exact ⟨ret_bool (by simp [B1.out, B2.out, B3.out]), E0.out⟩
   all_goals
    rcases fBad_key u4 n4 with ⟨rfl, z4, y4, b4⟩ | ⟨rfl, b4⟩ | ⟨rfl, rfl, b4⟩
    all_goals
     have B1 := hx b1
     have B2 := hx b2
     have B3 := hx b3
     have B4 := hx b4
     clear b1 b2 b3 b4
     go_enter Tryz.func197, Tryz.ntmps197
     go_wp2
     go_ret
     exact ⟨ret_bool (by simp [B1.out, B2.out, B3.out, B4.out]), E0.out⟩
set_option maxRecDepth 40000 in
set_option maxHeartbeats 4000000 in
theorem rule5_any (x : Ins) (u1 u2 u3 u4 : Bool) (g : Nat) (w : World) (hg : OneC w g (.func (.func 194) #[] #[]) 170) :
  Calls Tryz.prog 198 #[x.v, fV u1 u2 u3 u4, .pointer (some ⟨g, 0, none⟩)] w fun e w' => e = .returned (.bool (!(regOk x.dst && regOk x.src))) ∧ Ext w w' := by
 have e0 := (Ext.new w (xCells x)).alloc (fCells u1 u2 u3 u4)
 have kg := (hg.ext e0).cell
 have H1 := hx (fun W => rule1_any x.dst W)
 have H2 := hx (fun W => rule1_any x.src W)
 have E0 := hx e0
 unfold Ins.v
 generalize regOk x.dst = b1 at *
 generalize regOk x.src = b2 at *
 clear e0 hg
 cases b1 with
 | false =>
  go_enter Tryz.func198, Tryz.ntmps198
  go_wp2_with fail
  refine (H1.out _).mono ?_
  rintro e w1 ⟨rfl, rfl⟩
  go_wp2
  go_ret
  exact ⟨ret_bool rfl, E0.out⟩
 | true =>
  go_enter Tryz.func198, Tryz.ntmps198
  go_wp2_with fail
  refine (H1.out _).mono ?_
  rintro e w1 ⟨rfl, rfl⟩
  go_wp2_with fail
  refine (H2.out _).mono ?_
  rintro e w1 ⟨rfl, rfl⟩
  go_wp2
  go_ret
  exact ⟨ret_bool (by simp), E0.out⟩
end Go.Proofs.YtiaddncjghkajaaGreatDoor


set_option linter.unusedVariables false
set_option linter.unusedSimpArgs false
namespace Go.Proofs.YtiaddncjghkajaaGreatDoor
open Go.RowKit

set_option maxRecDepth 40000 in
set_option maxHeartbeats 4000000 in
theorem insnFits_any (x : Ins) (w : World) (hx0 : x.Ok) (hO : OpsN w) (hW : WidN w) :
    Calls Tryz.prog 200 #[x.v] w fun e w' => e = .returned (.bool (immOk x)) ∧ Ext w w' := by
  have e0 := Ext.new w (xCells x)
  have hc := opForm_any x.op _ hx0.op (hO.ext e0)
  have HN := hx fun (W : World) (h : Ext w W) => numFits32 x.imm W (hW.ext h) hx0.imm
  have hi : immOk x = if formN x.op = 10 then true else if formN x.op = 5 then decide (1 ≤ x.imm ∧ x.imm ≤ 3) else if formN x.op = 11 then decide (0 ≤ x.imm ∧ x.imm < 255) else fits32 x.imm := rfl
  have k5 : ((w.alloc (xCells x)).cell? ⟨w.heap.size, 5, none⟩ = some (.int .i64 x.imm)) := by simp
  unfold Ins.v
  generalize fits32 x.imm = FB at *
  have K5 := hx k5
  have E0 := hx e0
  clear hO hx0 e0 hW k5
  rcases form_cases x.op with h | h | h | h | h | h | h | h | h | h | h | h | h
  all_goals
    rw [h] at hc hi
    have H := hx hc
    have HI := hx hi
    clear hc hi h
  case inr.inr.inr.inr.inr.inr.inl =>
    by_cases h1 : x.imm ≥ 1
    · have d1 : decide (x.imm ≥ 1) = true := decide_eq_true h1
      by_cases h2 : x.imm ≤ 3
      · have d2 : decide (x.imm ≤ 3) = true := decide_eq_true h2
        have HR := hx (HI.out.trans (by simp; omega : _ = true))
        clear HI
        go_enter Tryz.func200, Tryz.ntmps200
        go_wp2_with (go_at_call 114; refine H.out.mono ?_; rintro e w1 ⟨rfl, e1⟩; have k5 := e1.cell K5.out)
        go_ret
        exact ⟨ret_bool HR.out.symm, E0.out.trans e1⟩
      · have d2 : decide (x.imm ≤ 3) = false := decide_eq_false h2
        have HR := hx (HI.out.trans (by simp; omega : _ = false))
        clear HI
        go_enter Tryz.func200, Tryz.ntmps200
        go_wp2_with (go_at_call 114; refine H.out.mono ?_; rintro e w1 ⟨rfl, e1⟩; have k5 := e1.cell K5.out)
        go_ret
        exact ⟨ret_bool HR.out.symm, E0.out.trans e1⟩
    · have d1 : decide (x.imm ≥ 1) = false := decide_eq_false h1
      have HR := hx (HI.out.trans (by simp; omega : _ = false))
      clear HI
      go_enter Tryz.func200, Tryz.ntmps200
      go_wp2_with (go_at_call 114; refine H.out.mono ?_; rintro e w1 ⟨rfl, e1⟩; have k5 := e1.cell K5.out)
      go_ret
      exact ⟨ret_bool HR.out.symm, E0.out.trans e1⟩
  case inr.inr.inr.inr.inr.inr.inr.inr.inr.inr.inr.inr =>
    by_cases h1 : x.imm ≥ 0
    · have d1 : decide (x.imm ≥ 0) = true := decide_eq_true h1
      by_cases h2 : x.imm < 255
      · have d2 : decide (x.imm < 255) = true := decide_eq_true h2
        have HR := hx (HI.out.trans (by simp; omega : _ = true))
        clear HI
        go_enter Tryz.func200, Tryz.ntmps200
        go_wp2_with (go_at_call 114; refine H.out.mono ?_; rintro e w1 ⟨rfl, e1⟩; have k5 := e1.cell K5.out)
        go_ret
        exact ⟨ret_bool HR.out.symm, E0.out.trans e1⟩
      · have d2 : decide (x.imm < 255) = false := decide_eq_false h2
        have HR := hx (HI.out.trans (by simp; omega : _ = false))
        clear HI
        go_enter Tryz.func200, Tryz.ntmps200
        go_wp2_with (go_at_call 114; refine H.out.mono ?_; rintro e w1 ⟨rfl, e1⟩; have k5 := e1.cell K5.out)
        go_ret
        exact ⟨ret_bool HR.out.symm, E0.out.trans e1⟩
    · have d1 : decide (x.imm ≥ 0) = false := decide_eq_false h1
      have HR := hx (HI.out.trans (by simp; omega : _ = false))
      clear HI
      go_enter Tryz.func200, Tryz.ntmps200
      go_wp2_with (go_at_call 114; refine H.out.mono ?_; rintro e w1 ⟨rfl, e1⟩; have k5 := e1.cell K5.out)
      go_ret
      exact ⟨ret_bool HR.out.symm, E0.out.trans e1⟩
  case inr.inr.inr.inr.inr.inr.inr.inr.inr.inr.inr.inl =>
    have HR := hx (HI.out.trans (by simp : _ = true))
    clear HI
    go_enter Tryz.func200, Tryz.ntmps200
    go_wp2_with (go_at_call 114; refine H.out.mono ?_; rintro e w1 ⟨rfl, e1⟩; have k5 := e1.cell K5.out)
    go_ret
    exact ⟨ret_bool HR.out.symm, E0.out.trans e1⟩
  all_goals
    have HR := hx (HI.out.trans (by simp : _ = FB))
    clear HI
    go_enter Tryz.func200, Tryz.ntmps200
    go_wp2_with fail
    refine H.out.mono ?_
    rintro e w1 ⟨rfl, e1⟩
    have k5 := e1.cell K5.out
    go_wp2_with fail
    refine (HN.out _ (E0.out.trans e1)).mono ?_
    rintro e w2 ⟨rfl, rfl⟩
    go_wp2
    go_ret
    exact ⟨ret_bool HR.out.symm, E0.out.trans e1⟩
set_option maxRecDepth 40000 in
set_option maxHeartbeats 4000000 in
theorem rule6_any (x : Ins) (u1 u2 u3 u4 : Bool) (w : World) (hx0 : x.Ok) (hO : OpsN w) (hW : WidN w) :
    Calls Tryz.prog 199 #[x.v, fV u1 u2 u3 u4] w fun e w' => e = .returned (.bool (!(fits16 x.off && immOk x))) ∧ Ext w w' := by
  have e0 := (Ext.new w (xCells x)).alloc (fCells u1 u2 u3 u4)
  have hn := numFits16 x.off _ (hW.ext e0) hx0.off
  have hf := insnFits_any x _ hx0 (hO.ext e0) (hW.ext e0)
  unfold Ins.v at *
  have E0 := hx e0
  generalize fits16 x.off = b1 at *
  generalize immOk x = b2 at *
  have HN := hx hn
  have HF := hx hf
  clear e0 hO hW hx0 hn hf
  cases b1 with
  | false =>
    go_enter Tryz.func199, Tryz.ntmps199
    go_wp2_with (go_at_call 110; refine HN.out.mono ?_; rintro e w1 ⟨rfl, rfl⟩)
    go_ret
    exact ⟨ret_bool rfl, E0.out⟩
  | true =>
    go_enter Tryz.func199, Tryz.ntmps199
    go_wp2_with fail
    refine HN.out.mono ?_
    rintro e w1 ⟨rfl, rfl⟩
    go_wp2_with fail
    refine HF.out.mono ?_
    rintro e w2 ⟨rfl, e2⟩
    go_wp2
    go_ret
    exact ⟨ret_bool (by simp), E0.out.trans e2⟩
/-- The list of the rules as it lies in memory. -/
def ruleCells (g : Nat) : List Value :=
  [.func (.func 195) #[] #[], .int .i64 6, .func (.func 196) #[] #[], .int .i64 12, .func (.func 197) #[] #[], .int .i64 12,
   .func (.func 198) #[] #[.pointer (some ⟨g, 0, none⟩)], .int .i64 5, .func (.func 199) #[] #[], .int .i64 4]
set_option maxRecDepth 40000 in
set_option maxHeartbeats 4000000 in
theorem insRules_any (w : World) :
    Calls Tryz.prog 183 #[] w fun e w' => ∃ b, e = .returned (.slice (some ⟨b, 0, none⟩) 5 5) ∧ OneC w' w.heap.size (.func (.func 194) #[] #[]) 170 ∧ RowV w' b 235 (ruleCells w.heap.size) ∧ Ext w w' := by
  go_enter Tryz.func183, Tryz.ntmps183
  go_wp2
  go_ret
  have hs : ∀ o, (w.alloc o).heap.size = w.heap.size + 1 := fun o => by simp
  refine ⟨w.heap.size + 1, rfl, (OneC.new w _ _).ext (Ext.new _ _), ?_, (Ext.new w _).alloc _⟩
  have h := RowV.new (w.alloc (.cells #[.func (.func 194) #[] #[]] 170)) (ruleCells w.heap.size) 235
  rw [hs] at h
  exact h
end Go.Proofs.YtiaddncjghkajaaGreatDoor
