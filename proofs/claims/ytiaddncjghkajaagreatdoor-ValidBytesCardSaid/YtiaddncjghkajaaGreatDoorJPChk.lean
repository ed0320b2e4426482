/- The layer prog: check, over what its nine rules return. -/
import Derived.Test.YtiaddncjghkajaaGreatDoorJSizes
import Derived.Laws.ResultCell
set_option linter.unusedVariables false
set_option linter.unusedSimpArgs false
namespace Go.Proofs.YtiaddncjghkajaaGreatDoor
open Go.RowKit Go.Lib

/-- The first finding, and the index of its rule. -/
def firstF : Int → List (Int × Int) → (Int × Int) × Int
 | _, [] => ((0, 0), -1)
 | i, r :: l => if r.2 = 0 then firstF (i + 1) l else (r, i)
/-- A rule that lies in memory and returns r. -/
def RuleOk (w : World) (a : Addr) (v : Value) (r : Int × Int) : Prop :=
 ∃ F caps, w.cell? a = some (.func (.func F) #[] caps) ∧ (∀ args W, (callFunc F args).run Tryz.prog W = .ok (.enter F args) W) ∧ ∀ W, Ext w W → Calls Tryz.prog F (#[v] ++ caps) W fun e w' => e = .returned (findV r) ∧ Ext W w'
theorem RuleOk.ext {w w' : World} {a : Addr} {v : Value} {r : Int × Int} (h : RuleOk w a v r) (he : Ext w w') : RuleOk w' a v r := by
 obtain ⟨F, caps, h1, h2, h3⟩ := h
 exact ⟨F, caps, he.cell h1, h2, fun W hW => h3 W (he.trans hW)⟩

theorem zero_snoc {pre : List (Int × Int)} {x : Int} (h : ∀ r ∈ pre, r.2 = 0) : ∀ r ∈ pre ++ [(x, 0)], r.2 = 0 := by
 intro r hr
 rcases List.mem_append.1 hr with hr | hr
 ·exact h r hr
 ·simp at hr; rw [hr]
theorem results_row_tmp {P : Program} {fn : Func} {p u : Tmp} {ty : TypeId} (h : fn.results = #[.cell p ty, .tmp u]) (tmps : Array Value) (w : World) (g : Nat) (t : TypeId) (cs : Array Value) (fr : Nat × Nat) (d : TypeDesc)
  (hp : tmps.getD p undef = .pointer (some ⟨g, 0, none⟩)) (hg : w.heap[g]? = some (.cells cs t fr))
  (hu : P.underlying ty = some d) (hd : (match d with | .struct _ | .array _ _ => true | _ => false) = true) (hi : (P.info? ty).map (·.size) = some cs.size) :
  (results fn tmps).run P w = .ok (.tuple #[.agg cs, tmps.getD u undef]) w := by
 rw [results_cell_tmp h, hp]
 simp [asAddr, run_loadVar_row w g t ty cs fr d hg hu hd hi]
theorem frz {W : World} {g : Nat} {cs : Array Value} {t : TypeId} (h : W.heap[g]? = some (.cells cs t (0, 0))) (i : Nat) : W.frozen? ⟨g, i, none⟩ = false := by simp [World.frozen?, h]
set_option maxRecDepth 20000 in
set_option maxHeartbeats 1000000 in
theorem check_nine (A1 A2 : Option Addr) (n1 c1 n2 c2 : Nat) (rs : List (Int × Int)) (w : World) (hrs : rs.length = 9)
  (hn1 : w.cell? ⟨0, 0, none⟩ = some (.int .i64 0)) (hn2 : w.cell? ⟨0, 1, none⟩ = some (.int .i64 0))
  (hr : ∀ W R, Ext w W → RulesAt W R → ∀ (k : Nat) r, rs[k]? = some r → (∀ (j : Nat) r', j < k → rs[j]? = some r' → r'.2 = 0) → RuleOk W ⟨R, k, none⟩ (.agg #[.slice A1 n1 c1, .slice A2 n2 c2]) r) :
  Calls Tryz.prog 85 #[.agg #[.slice A1 n1 c1, .slice A2 n2 c2]] w fun e w' => e = .returned (.tuple #[findV (firstF 0 rs).1, .int .i64 (firstF 0 rs).2]) ∧ Ext w w' := by
 have HR := hx hr
 clear hr
 obtain ⟨W0, hW0⟩ : ∃ W0, W0 = ((w.alloc (.cells #[.slice A1 n1 c1, .slice A2 n2 c2] 50)).alloc (.cells #[.int .i64 0, .int .i64 0] 139)) := ⟨_, rfl⟩
 have e0 : Ext w W0 := by rw [hW0]; exact (Ext.new w _).alloc _
 have p1 : W0.cell? ⟨w.heap.size, 0, none⟩ = some (.slice A1 n1 c1) := by rw [hW0]; simp
 have p2 : W0.cell? ⟨w.heap.size, 1, none⟩ = some (.slice A2 n2 c2) := by rw [hW0]; simp
 have p3 : W0.heap[w.heap.size + 1]? = some (.cells #[.int .i64 0, .int .i64 0] 139 (0, 0)) := by
  rw [hW0]
  have := heap_alloc_new (w.alloc (.cells #[.slice A1 n1 c1, .slice A2 n2 c2] 50)) (.cells #[.int .i64 0, .int .i64 0] 139)
  rwa [World.size_alloc] at this
 have hrl := rules_any W0
 rw [hW0] at hrl
 have HW0 := hx hW0
 clear hW0
 go_enter Tryz.func85, Tryz.ntmps85
 go_wp2_with (first | (go_at_call 128; refine hrl.mono ?_; rintro e w1 ⟨R, rfl, ra, e1⟩))
 rw [← HW0.out] at e1
 have e1' := e1
 clear hrl
 go_loopw [9] (fun i wr => ∃ pre suf : List (Int × Int), rs = pre ++ suf ∧ (∀ r ∈ pre, r.2 = 0) ∧ i = .int .i64 (pre.length : Nat) ∧ firstF 0 rs = firstF pre.length suf ∧ Ext w1 wr) (fun i _ => 9 - (RowKit.intOf i).toNat)
 case atStart => exact ⟨[], rs, rfl, fun r h => by simp at h, rfl, rfl, Ext.refl _⟩
 case round =>
  clear e1
  obtain ⟨pre, suf, hl', hz, rfl, hf, he⟩ := hrel
  have HF := hx hf
  have HZ := hx hz
  clear hf hz
  have eW := (e0.trans e1').trans he
  have q3 := (e1'.trans he).obj p3
  have q1 := (e1'.trans he).cell p1
  have q2 := (e1'.trans he).cell p2
  have g1 := eW.cell hn1
  have g2 := eW.cell hn2
  have z1 : wr.cell? ⟨w.heap.size + 1, 0, none⟩ = some (.int .i64 0) := by simp [World.cell?, q3]
  have z2 : wr.cell? ⟨w.heap.size + 1, 1, none⟩ = some (.int .i64 0) := by simp [World.cell?, q3]
  have y1 : wr.frozen? ⟨w.heap.size + 1, 0, none⟩ = false := by simp [World.frozen?, q3]
  have y2 : wr.frozen? ⟨w.heap.size + 1, 1, none⟩ = false := by simp [World.frozen?, q3]
  cases suf with
  | cons r suf =>
   have hpl : pre.length < 9 := by have := congrArg List.length hl'; simp at this; omega
   have hk : rs[pre.length]? = some r := by rw [hl']; simp
   obtain ⟨F, caps, k1, kf, k2⟩ := (HR.out w1 R (e0.trans e1') ra pre.length r hk (fun j r' hj hr' => HZ.out r' (by
    rw [hl', List.getElem?_append_left hj] at hr'
    exact List.mem_of_getElem? hr'))).ext he
   have HL := hx hl'
   clear hl' hk
   have hlt : pre.length < 9 := hpl
   have kc := k2 _ (Ext.new wr (.cells #[.func (.func F) #[] caps] 184))
   clear k2
   have q1' := (Ext.new wr (.cells #[.func (.func F) #[] caps] 184)).cell q1
   have q2' := (Ext.new wr (.cells #[.func (.func F) #[] caps] 184)).cell q2
   obtain ⟨x, y⟩ := r
   simp only [findV] at kc
   by_cases h0 : y = 0
   ·subst h0
    go_wp2_with ((with_reducible refine kc.mono ?_); rintro e w2 ⟨rfl, e2⟩; replace e2 := (Ext.new wr _).trans e2)
    go_roundw
    case rel => exact ⟨pre ++ [(x, 0)], suf, by simp [HL.out], zero_snoc HZ.out, by simp, by rw [HF.out, firstF, if_pos rfl]; simp, (he.trans e2).alloc _⟩
    case measure => simp [RowKit.intOf]; omega
   ·have hne : (y != 0) = true := by simpa using h0
    go_wp2_with ((with_reducible refine kc.mono ?_); rintro e w2 ⟨rfl, e2⟩; replace e2 := (Ext.new wr _).trans e2; have e3 := e2.alloc (.cells #[.int .i64 x, .int .i64 y] 139); have q4 := e3.obj q3; have z1' := e3.cell z1; have z2' := e3.cell z2; have y1' := frz q4 0; have y2' := frz q4 1)
    refine bodyPost_ret (results_row_tmp rfl _ _ (w.heap.size + 1) 139 _ _ _ rfl (two_set _ _ q4) Tryz.underlying139 rfl (by kernel_rfl)) rfl ?_
    exact ⟨by rw [HF.out, firstF, if_neg h0]; rfl, ((eW.trans e3).setCell (a := ⟨w.heap.size + 1, 0, none⟩) _ (by simp)).setCell (a := ⟨w.heap.size + 1, 1, none⟩) _ (by simp)⟩
  | nil =>
   obtain rfl : rs = pre := by simpa using hl'
   clear hl'
   have hlt : ¬ rs.length < 9 := by omega
   go_wp2
   refine bodyPost_ret (results_row_tmp rfl _ _ (w.heap.size + 1) 139 _ _ _ rfl (two_set _ _ q3) Tryz.underlying139 rfl (by kernel_rfl)) rfl ?_
   exact ⟨by rw [HF.out]; rfl, (eW.setCell (a := ⟨w.heap.size + 1, 0, none⟩) _ (by simp)).setCell (a := ⟨w.heap.size + 1, 1, none⟩) _ (by simp)⟩
end Go.Proofs.YtiaddncjghkajaaGreatDoor
