/- The layer prog: the list of the rules. -/
import Derived.Test.YtmnbalbiehlkpaaGreatDoorJRepP
import Derived.Laws.ResultCell
set_option linter.unusedVariables false
set_option linter.unusedSimpArgs false
namespace Go.Proofs.YtmnbalbiehlkpaaGreatDoor
open Go.RowKit Go.Lib

/-- The first six rules, as they lie in memory. -/
structure RulesAt (w : World) (R : Nat) : Prop where
 r1 : ∃ a b, w.cell? ⟨R, 0, none⟩ = some (.func (.func 195) #[] #[.pointer (some ⟨a, 0, none⟩), .pointer (some ⟨b, 0, none⟩)]) ∧ w.cell? ⟨a, 0, none⟩ = some (.func (.func 153) #[] #[]) ∧ w.cell? ⟨b, 0, none⟩ = some (.func (.func 154) #[] #[])
 r2 : ∃ a b, w.cell? ⟨R, 1, none⟩ = some (.func (.func 198) #[] #[.pointer (some ⟨a, 0, none⟩), .pointer (some ⟨b, 0, none⟩)]) ∧ w.cell? ⟨a, 0, none⟩ = some (.func (.func 156) #[] #[]) ∧ w.cell? ⟨b, 0, none⟩ = some (.func (.func 157) #[] #[])
 r3 : ∃ a b, w.cell? ⟨R, 2, none⟩ = some (.func (.func 195) #[] #[.pointer (some ⟨a, 0, none⟩), .pointer (some ⟨b, 0, none⟩)]) ∧ w.cell? ⟨a, 0, none⟩ = some (.func (.func 153) #[] #[]) ∧ w.cell? ⟨b, 0, none⟩ = some (.func (.func 158) #[] #[])
 r4 : ∃ a b, w.cell? ⟨R, 3, none⟩ = some (.func (.func 195) #[] #[.pointer (some ⟨a, 0, none⟩), .pointer (some ⟨b, 0, none⟩)]) ∧ w.cell? ⟨a, 0, none⟩ = some (.func (.func 153) #[] #[]) ∧ w.cell? ⟨b, 0, none⟩ = some (.func (.func 160) #[] #[])
 r5 : w.cell? ⟨R, 4, none⟩ = some (.func (.func 162) #[] #[])
 r6 : w.cell? ⟨R, 5, none⟩ = some (.func (.func 163) #[] #[])
 r7 : w.cell? ⟨R, 6, none⟩ = some (.func (.func 164) #[] #[])
 r8 : ∃ a b, w.cell? ⟨R, 7, none⟩ = some (.func (.func 198) #[] #[.pointer (some ⟨a, 0, none⟩), .pointer (some ⟨b, 0, none⟩)]) ∧ w.cell? ⟨a, 0, none⟩ = some (.func (.func 156) #[] #[]) ∧ w.cell? ⟨b, 0, none⟩ = some (.func (.func 165) #[] #[])
 r9 : ∃ a b, w.cell? ⟨R, 8, none⟩ = some (.func (.func 198) #[] #[.pointer (some ⟨a, 0, none⟩), .pointer (some ⟨b, 0, none⟩)]) ∧ w.cell? ⟨a, 0, none⟩ = some (.func (.func 156) #[] #[]) ∧ w.cell? ⟨b, 0, none⟩ = some (.func (.func 167) #[] #[])

set_option maxRecDepth 20000 in
set_option maxHeartbeats 2000000 in
theorem rules_any (w : World) : Calls Tryz.prog 99 #[] w fun e w' => ∃ R, e = .returned (.slice (some ⟨R, 0, none⟩) 9 9) ∧ RulesAt w' R ∧ Ext w w' := by
 have q1 := fun W => eachDef_any 153 154 W
 have q2 := fun W => eachStmt_any 156 157 W
 have q3 := fun W => eachDef_any 153 158 W
 have q4 := fun W => eachDef_any 153 160 W
 have q8 := fun W => eachStmt_any 156 165 W
 have q9 := fun W => eachStmt_any 156 167 W
 go_enter Tryz.func99, Tryz.ntmps99
 go_wp2_with fail
 refine (q1 _).mono ?_; rintro e w1 ⟨rfl, e1, x1, y1⟩; clear q1
 go_wp2_with fail
 refine (q2 _).mono ?_; rintro e w2 ⟨rfl, e2, x2, y2⟩; clear q2
 go_wp2_with fail
 refine (q3 _).mono ?_; rintro e w3 ⟨rfl, e3, x3, y3⟩; clear q3
 go_wp2_with fail
 refine (q4 _).mono ?_; rintro e w4 ⟨rfl, e4, x4, y4⟩; clear q4
 go_wp2_with fail
 refine (q8 _).mono ?_; rintro e w5 ⟨rfl, e5, x5, y5⟩; clear q8
 go_wp2_with fail
 refine (q9 _).mono ?_; rintro e w6 ⟨rfl, e6, x6, y6⟩; clear q9
 go_wp2
 go_ret
 have f6 := fun o => Ext.new w6 o
 refine ⟨w6.heap.size, rfl, ⟨⟨w.heap.size, w.heap.size + 1, by simp, ?_, ?_⟩, ⟨w1.heap.size, w1.heap.size + 1, by simp, ?_, ?_⟩, ⟨w2.heap.size, w2.heap.size + 1, by simp, ?_, ?_⟩, ⟨w3.heap.size, w3.heap.size + 1, by simp, ?_, ?_⟩, by simp, by simp, by simp, ⟨w4.heap.size, w4.heap.size + 1, by simp, ?_, ?_⟩, ⟨w5.heap.size, w5.heap.size + 1, by simp, ?_, ?_⟩⟩, (((((e1.trans e2).trans e3).trans e4).trans e5).trans e6).alloc _⟩
 ·exact (((((e2.trans e3).trans e4).trans e5).trans e6).alloc _).cell x1
 ·exact (((((e2.trans e3).trans e4).trans e5).trans e6).alloc _).cell y1
 ·exact ((((e3.trans e4).trans e5).trans e6).alloc _).cell x2
 ·exact ((((e3.trans e4).trans e5).trans e6).alloc _).cell y2
 ·exact (((e4.trans e5).trans e6).alloc _).cell x3
 ·exact (((e4.trans e5).trans e6).alloc _).cell y3
 ·exact ((e5.trans e6).alloc _).cell x4
 ·exact ((e5.trans e6).alloc _).cell y4
 ·exact (e6.alloc _).cell x5
 ·exact (e6.alloc _).cell y5
 ·exact (Ext.new _ _).cell x6
 ·exact (Ext.new _ _).cell y6
end Go.Proofs.YtmnbalbiehlkpaaGreatDoor


set_option linter.unusedVariables false
set_option linter.unusedSimpArgs false
namespace Go.Proofs.YtmnbalbiehlkpaaGreatDoor
open Go.RowKit Go.Lib

/-- The first finding, and the index of its rule. -/
def firstF : Int → List (Int × Int) → (Int × Int) × Int
 | _, [] => ((0, 0), -1)
 | i, r :: l => if r.2 = 0 then firstF (i + 1) l else (r, i)
/-- A rule that lies in memory and returns r. -/
def RuleOk (w : World) (a : Addr) (v : Value) (r : Int × Int) : Prop :=
 ∃ F caps, w.cell? a = some (.func (.func F) #[] caps) ∧ (∀ args W, (callFunc F args).run Tryz.prog W = .ok (.enter F args) W) ∧ ∀ W, Ext w W → Calls Tryz.prog F (#[v] ++ caps) W fun e w' => e = .returned (findV r) ∧ Ext W w'
theorem RuleOk.ext {w w' : World} {a : Addr} {v : Value} {r : Int × Int} (h : RuleOk w a v r) (he : Ext w w') : RuleOk w' a v r := by
 obtain ⟨F, caps, h1, h2, h3⟩ := h
 exact ⟨F, caps, he.cell h1, h2, fun W hW => h3 W (he.trans hW)⟩

theorem zero_snoc {pre : List (Int × Int)} {x : Int} (h : ∀ r ∈ pre, r.2 = 0) : ∀ r ∈ pre ++ [(x, 0)], r.2 = 0 := by
 intro r hr
 rcases List.mem_append.1 hr with hr | hr
 ·exact h r hr
 ·simp at hr; rw [hr]
theorem results_row_tmp {P : Program} {fn : Func} {p u : Tmp} {ty : TypeId} (h : fn.results = #[.cell p ty, .tmp u]) (tmps : Array Value) (w : World) (g : Nat) (t : TypeId) (cs : Array Value) (fr : Nat × Nat) (d : TypeDesc)
  (hp : tmps.getD p undef = .pointer (some ⟨g, 0, none⟩)) (hg : w.heap[g]? = some (.cells cs t fr))
  (hu : P.underlying ty = some d) (hd : (match d with | .struct _ | .array _ _ => true | _ => false) = true) (hi : (P.info? ty).map (·.size) = some cs.size) :
  (results fn tmps).run P w = .ok (.tuple #[.agg cs, tmps.getD u undef]) w := by
 rw [results_cell_tmp h, hp]
 simp [asAddr, run_loadVar_row w g t ty cs fr d hg hu hd hi]
theorem frz {W : World} {g : Nat} {cs : Array Value} {t : TypeId} (h : W.heap[g]? = some (.cells cs t (0, 0))) (i : Nat) : W.frozen? ⟨g, i, none⟩ = false := by simp [World.frozen?, h]
set_option maxRecDepth 20000 in
set_option maxHeartbeats 1000000 in
theorem check_nine (A1 A2 : Option Addr) (n1 c1 n2 c2 : Nat) (rs : List (Int × Int)) (w : World) (hrs : rs.length = 9)
  (hn1 : w.cell? ⟨0, 0, none⟩ = some (.int .i64 0)) (hn2 : w.cell? ⟨0, 1, none⟩ = some (.int .i64 0))
  (hr : ∀ W R, Ext w W → RulesAt W R → ∀ (k : Nat) r, rs[k]? = some r → (∀ (j : Nat) r', j < k → rs[j]? = some r' → r'.2 = 0) → RuleOk W ⟨R, k, none⟩ (.agg #[.slice A1 n1 c1, .slice A2 n2 c2]) r) :
  Calls Tryz.prog 64 #[.agg #[.slice A1 n1 c1, .slice A2 n2 c2]] w fun e w' => e = .returned (.tuple #[findV (firstF 0 rs).1, .int .i64 (firstF 0 rs).2]) ∧ Ext w w' := by
 have HR := hx hr
 clear hr
 obtain ⟨W0, hW0⟩ : ∃ W0, W0 = ((w.alloc (.cells #[.slice A1 n1 c1, .slice A2 n2 c2] 25)).alloc (.cells #[.int .i64 0, .int .i64 0] 146)) := ⟨_, rfl⟩
 have e0 : Ext w W0 := by rw [hW0]; exact (Ext.new w _).alloc _
 have p1 : W0.cell? ⟨w.heap.size, 0, none⟩ = some (.slice A1 n1 c1) := by rw [hW0]; simp
 have p2 : W0.cell? ⟨w.heap.size, 1, none⟩ = some (.slice A2 n2 c2) := by rw [hW0]; simp
 have p3 : W0.heap[w.heap.size + 1]? = some (.cells #[.int .i64 0, .int .i64 0] 146 (0, 0)) := by
  rw [hW0]
  have := heap_alloc_new (w.alloc (.cells #[.slice A1 n1 c1, .slice A2 n2 c2] 25)) (.cells #[.int .i64 0, .int .i64 0] 146)
  rwa [World.size_alloc] at this
 have hrl := rules_any W0
 rw [hW0] at hrl
 have HW0 := hx hW0
 clear hW0
 go_enter Tryz.func64, Tryz.ntmps64
 go_wp2_with (first | (go_at_call 99; refine hrl.mono ?_; rintro e w1 ⟨R, rfl, ra, e1⟩))
 rw [← HW0.out] at e1
 have e1' := e1
 clear hrl
 go_loopw [9] (fun i wr => ∃ pre suf : List (Int × Int), rs = pre ++ suf ∧ (∀ r ∈ pre, r.2 = 0) ∧ i = .int .i64 (pre.length : Nat) ∧ firstF 0 rs = firstF pre.length suf ∧ Ext w1 wr) (fun i _ => 9 - (RowKit.intOf i).toNat)
 case atStart => exact ⟨[], rs, rfl, fun r h => by simp at h, rfl, rfl, Ext.refl _⟩
 case round =>
  clear e1
  obtain ⟨pre, suf, hl', hz, rfl, hf, he⟩ := hrel
  have HF := hx hf
  have HZ := hx hz
  clear hf hz
  have eW := (e0.trans e1').trans he
  have q3 := (e1'.trans he).obj p3
  have q1 := (e1'.trans he).cell p1
  have q2 := (e1'.trans he).cell p2
  have g1 := eW.cell hn1
  have g2 := eW.cell hn2
  have z1 : wr.cell? ⟨w.heap.size + 1, 0, none⟩ = some (.int .i64 0) := by simp [World.cell?, q3]
  have z2 : wr.cell? ⟨w.heap.size + 1, 1, none⟩ = some (.int .i64 0) := by simp [World.cell?, q3]
  have y1 : wr.frozen? ⟨w.heap.size + 1, 0, none⟩ = false := by simp [World.frozen?, q3]
  have y2 : wr.frozen? ⟨w.heap.size + 1, 1, none⟩ = false := by simp [World.frozen?, q3]
  cases suf with
  | cons r suf =>
   have hpl : pre.length < 9 := by have := congrArg List.length hl'; simp at this; omega
   have hk : rs[pre.length]? = some r := by rw [hl']; simp
   obtain ⟨F, caps, k1, kf, k2⟩ := (HR.out w1 R (e0.trans e1') ra pre.length r hk (fun j r' hj hr' => HZ.out r' (by
    rw [hl', List.getElem?_append_left hj] at hr'
    exact List.mem_of_getElem? hr'))).ext he
   have HL := hx hl'
   clear hl' hk
   have hlt : pre.length < 9 := hpl
   have kc := k2 _ (Ext.new wr (.cells #[.func (.func F) #[] caps] 188))
   clear k2
   have q1' := (Ext.new wr (.cells #[.func (.func F) #[] caps] 188)).cell q1
   have q2' := (Ext.new wr (.cells #[.func (.func F) #[] caps] 188)).cell q2
   obtain ⟨x, y⟩ := r
   simp only [findV] at kc
   by_cases h0 : y = 0
   ·subst h0
    go_wp2_with ((with_reducible refine kc.mono ?_); rintro e w2 ⟨rfl, e2⟩; replace e2 := (Ext.new wr _).trans e2)
    go_roundw
    case rel => exact ⟨pre ++ [(x, 0)], suf, by simp [HL.out], zero_snoc HZ.out, by simp, by rw [HF.out, firstF, if_pos rfl]; simp, (he.trans e2).alloc _⟩
    case measure => simp [RowKit.intOf]; omega
   ·have hne : (y != 0) = true := by simpa using h0
    go_wp2_with ((with_reducible refine kc.mono ?_); rintro e w2 ⟨rfl, e2⟩; replace e2 := (Ext.new wr _).trans e2; have e3 := e2.alloc (.cells #[.int .i64 x, .int .i64 y] 146); have q4 := e3.obj q3; have z1' := e3.cell z1; have z2' := e3.cell z2; have y1' := frz q4 0; have y2' := frz q4 1)
    refine bodyPost_ret (results_row_tmp rfl _ _ (w.heap.size + 1) 146 _ _ _ rfl (two_set _ _ q4) Tryz.underlying146 rfl (by kernel_rfl)) rfl ?_
    exact ⟨by rw [HF.out, firstF, if_neg h0]; rfl, ((eW.trans e3).setCell (a := ⟨w.heap.size + 1, 0, none⟩) _ (by simp)).setCell (a := ⟨w.heap.size + 1, 1, none⟩) _ (by simp)⟩
  | nil =>
   obtain rfl : rs = pre := by simpa using hl'
   clear hl'
   have hlt : ¬ rs.length < 9 := by omega
   go_wp2
   refine bodyPost_ret (results_row_tmp rfl _ _ (w.heap.size + 1) 146 _ _ _ rfl (two_set _ _ q3) Tryz.underlying146 rfl (by kernel_rfl)) rfl ?_
   exact ⟨by rw [HF.out]; rfl, (eW.setCell (a := ⟨w.heap.size + 1, 0, none⟩) _ (by simp)).setCell (a := ⟨w.heap.size + 1, 1, none⟩) _ (by simp)⟩
end Go.Proofs.YtmnbalbiehlkpaaGreatDoor
