/- The layer insn, the reference: Check, its cases joined. -/
import Derived.Test.YtmofdnlefjfcfaaGreatDoorJRefChkB
import Derived.Test.YtmofdnlefjfcfaaGreatDoorJRefChkC
import Derived.Test.YtmofdnlefjfcfaaGreatDoorJRefChkD
import Derived.Test.YtmofdnlefjfcfaaGreatDoorJInsE
import Derived.Test.YtmofdnlefjfcfaaGreatDoorJDec
import Derived.Test.YtmofdnlefjfcfaaGreatDoorJTab
import Derived.RangeFuncNested
import Derived.RangeFuncBound
import Derived.RangeFuncCalls
import Derived.RangeFuncLeaves
import Derived.RangeFuncBox
import Derived.Shelf.Abstract
import Derived.Shelf.RegionOpen
import Derived.OwnWalkIn
import Derived.TacticsInMore
import Derived.LoopNIn
import Derived.LoopIn
import Derived.OrdersHeld
namespace Go.Proofs.YtmofdnlefjfcfaaGreatDoor
open Go.RowKit
theorem ref04Check_any (x : Ins) (w : World) (hx0 : x.Ok) : Calls Tryz.prog 112 #[x.v] w fun e w' => e = .returned (.int .i64 (insE x)) ∧ Ext w w' := by
 by_cases h : x.reg = true
 ·by_cases h0 : formN x.op = 0
  ·exact ref04Check_B x w hx0 ⟨h, h0⟩
  ·by_cases h4 : formN x.op = 4
   ·exact ref04Check_C x w hx0 ⟨h, h4⟩
   ·exact ref04Check_D x w hx0 ⟨h, h0, h4⟩
 ·exact ref04Check_A x w hx0 (by simpa using h)
end Go.Proofs.YtmofdnlefjfcfaaGreatDoor


set_option linter.unusedVariables false
set_option linter.unusedSimpArgs false
namespace Go.Proofs.YtmofdnlefjfcfaaGreatDoor
open Go.RowKit

end Go.Proofs.YtmofdnlefjfcfaaGreatDoor


set_option linter.unusedVariables false
set_option linter.unusedSimpArgs false
namespace Go.Proofs.YtmofdnlefjfcfaaGreatDoor
open Go.RowKit Go.Lib Go.Shelf Go.Proofs
attribute [local go_sem] Oper.semAt_some

def itemsA : Nat → List Int → List Int → List (Nat × List Int)
 | k, cur, [] => if cur = [] then [] else [(k, [])]
 | k, cur, x :: l => if x = 0 then (if cur = [] then [(k, [])] else (k, cur) :: itemsA (k + cur.length + 1) [] l) else itemsA k (cur ++ [x]) l
theorem itemsA_some {l t : List Int} (h : nulAt l = some t) (k : Nat) (cur : List Int) :
  itemsA k cur l = if cur ++ t = [] then [(k, [])] else (k, cur ++ t) :: itemsA (k + (cur ++ t).length + 1) [] (l.drop (t.length + 1)) := by
 induction l generalizing t cur with
 | nil => cases h
 | cons x l ih =>
  unfold nulAt at h
  split at h
  ·rename_i hx
   cases h
   rw [itemsA, if_pos hx]; simp
  ·rename_i hx
   obtain ⟨u, hu, rfl⟩ := Option.map_eq_some_iff.1 h
   rw [itemsA, if_neg hx, ih hu]
   simp
theorem itemsA_none {l : List Int} (h : nulAt l = none) (k : Nat) (cur : List Int) (hne : cur ++ l ≠ []) : itemsA k cur l = [(k, [])] := by
 induction l generalizing cur with
 | nil => rw [itemsA, if_neg (by simpa using hne)]
 | cons x l ih =>
  unfold nulAt at h
  split at h
  ·cases h
  ·rename_i hx
   rw [itemsA, if_neg hx]
   exact ih (by simpa using h) _ (by simp)
theorem itemsA_split (l : List Int) : ∀ (k : Nat) (cur : List Int), splitA cur l = if (itemsA k cur l).all (fun x => !x.2.isEmpty) then some ((itemsA k cur l).map (·.2)) else none := by
 induction l with
 | nil => intro k cur; rw [splitA, itemsA]; by_cases h : cur = [] <;> simp [h]
 | cons x l ih =>
  intro k cur
  rw [splitA, itemsA]
  by_cases hx : x = 0
  ·rw [if_pos hx, if_pos hx]
   by_cases h : cur = []
   ·simp [h]
   ·rw [if_neg h, if_neg h, ih (k + cur.length + 1) []]
    have hc : cur.isEmpty = false := by cases cur <;> simp_all
    simp only [List.all_cons, hc, Bool.not_false, Bool.true_and, List.map_cons]
    split <;> rfl
  ·rw [if_neg hx, if_neg hx]; exact ih _ _
/-- What the iterator yields from a place on. -/
def items (k : Nat) (b : List Int) : List (Nat × List Int) := itemsA k [] (b.drop k)
def encTx (x : Nat × List Int) : Array Value := #[.int .i64 x.1, .string (strOfNums x.2)]
def KpT (n₀ B : Nat) (W W' : World) : Prop := Below n₀ W W' ∧ W'.heap[B]? = W.heap[B]?
theorem KpT.refl (n₀ B : Nat) (W : World) : KpT n₀ B W W := ⟨Below.refl _ _, rfl⟩
theorem KpT.trans {n₀ B : Nat} {W W1 W2 : World} (h : KpT n₀ B W W1) (k : KpT n₀ B W1 W2) : KpT n₀ B W W2 := ⟨h.1.trans k.1, k.2.trans h.2⟩

theorem items_none {k : Nat} {b : List Int} (hk : k < b.length) (h : nulAt (b.drop k) = none) : items k b = [(k, [])] := itemsA_none h k [] (by intro e; have := congrArg List.length e; simp at this; omega)
theorem items_empty {k : Nat} {b : List Int} (h : nulAt (b.drop k) = some []) : items k b = [(k, [])] := by unfold items; rw [itemsA_some h]; simp
theorem items_some {k : Nat} {b t : List Int} (h : nulAt (b.drop k) = some t) (ht : t ≠ []) : items k b = (k, t) :: items (k + (t.length + 1)) b := by
 unfold items
 rw [itemsA_some h, if_neg (by simpa using ht), List.drop_drop]; simp [Nat.add_assoc]
theorem items_end {k : Nat} {b : List Int} (hk : b.length ≤ k) : items k b = [] := by unfold items; rw [List.drop_eq_nil_of_le hk]; rfl
theorem isB_below {n₀ : Nat} {w W : World} {v : Value} {l : List Int} (h : IsB w v l) (hb : Below n₀ w W) (hn : w.heap.size ≤ n₀) : IsB W v l := Sl.ext h fun b o x k => ⟨(Below.cell hb (Nat.lt_of_lt_of_le (World.block_lt_of_cell? w _ k.1) hn)).trans k.1, k.2⟩

set_option maxRecDepth 100000 in
set_option maxHeartbeats 1000000 in
theorem texts1_in (n : Nat) (hn : 2 ≤ n) (l B n₀ : Nat) (v : Value) (b : List Int) (hbl : b.length ≤ 1000000000) (J Jx : List (Nat × List Int) → World → Prop)
  (hY : ∀ pre x W, J pre W → pre.length < (items 1 b).length → YieldAt Fence.wide (n - 1) Tryz.prog l (encTx x) W fun e W' =>
   (e = .returned (.bool true) ∧ J (pre ++ [x]) W' ∧ KpT n₀ B W W') ∨ (e = .returned (.bool false) ∧ Jx (pre ++ [x]) W'))
  (n₁ : Nat) (hJ : AbidesFrom n₁ J)
  (W : World) (hB : Boxed W B 28 v) (w0 : World) (hv : IsB w0 v b) (hw0 : w0.heap.size = n₀) (hW0 : Below n₀ w0 W) (h0 : J [] W) :
  CallsIn Fence.wide n Tryz.prog 101 #[.func (.yield l) #[] #[], .pointer (some ⟨B, 0, none⟩)] W fun e W' => (∃ v, e = .returned v) ∧
   ((∃ ys, ys = items 1 b ∧ J ys W') ∨ (∃ pre, pre <+: items 1 b ∧ Jx pre W')) := by
 obtain ⟨A, c, rfl, hc, -, hv'⟩ := hv.form
 refine callsIn_of_wp Tryz.func101 rfl trivial ?_ rfl
 simp only [Tryz.ntmps101, List.size_toArray, List.length_cons, List.length_nil, Nat.reduceAdd, Nat.reduceSub, Array.replicate_succ, Array.replicate_zero, List.push_toArray, List.append_toArray, List.nil_append, List.cons_append]
 have h1n : 1 ≤ n := by omega
 gi_wp2
 gi_loopw [3] (fun a wr => ∃ (k : Nat) (pre : List (Nat × List Int)), a = .int .i64 k ∧ 1 ≤ k ∧ k ≤ b.length + 1 ∧ items 1 b = pre ++ items k b ∧ J pre wr ∧ Boxed wr B 28 (.slice A b.length c) ∧ Below n₀ w0 wr)
  (fun a wr => b.length + 1 - (RowKit.intOf a).toNat)
 case atStart => exact ⟨1, [], rfl, by omega, by omega, by simp, h0, hB, hW0⟩
 case round =>
  obtain ⟨k, pre, rfl, hk1, hk2, hi, hJ1, hBx, hbe⟩ := hrel
  have HI := hx hi
  clear hi
  have hcell := hBx.cell
  have HBL := hx hbl
  by_cases hlt : k < b.length
  ·have hGet := strtab_Get_any _ b k wr (isB_below hv hbe (Nat.le_of_eq hw0)) hbl (by omega) (by omega)
   have hg := getT_in hlt
   cases hT : nulAt (b.drop k) with
   | none =>
    have hs : getS b k = ⟨#[]⟩ := by unfold getS; rw [hg, hT]
    rw [hs] at hGet
    have hit := items_none hlt hT
    have HIT := hx hit
    have hpl : pre.length < (items 1 b).length := by rw [HI.out, hit]; simp
    have hpx : pre ++ [((k : Nat), ([] : List Int))] = items 1 b := by rw [HI.out, hit]
    have HPX := hx hpx
    clear hT hg hs hit hpx
    have hem : (ByteArray.mk #[]).toList.isEmpty = true := by rw [Go.ByteArray.toList_eq]; rfl
    have hYk : ∀ W1, J pre W1 → YieldAt Fence.wide (n - 1) Tryz.prog l #[.int .i64 (k : Int), .string ⟨#[]⟩] W1 fun e W' =>
      (e = .returned (.bool true) ∧ J (pre ++ [(k, [])]) W' ∧ KpT n₀ B W1 W') ∨ (e = .returned (.bool false) ∧ Jx (pre ++ [(k, [])]) W') := fun W1 h => hY pre (k, []) W1 h hpl
    have HYk := hx hYk
    clear hYk hpl
    gi_wp2_with (first | (refine ⟨trivial, ?_⟩; gi_at_call 102; refine (callsIn_wide.2 hGet).mono ?_; rintro e w1 ⟨rfl, e1⟩; have hJ2 := hJ pre wr w1 none hJ1 (e1.toGrown none) (fun r h => by cases h); obtain ⟨fn, tmps, assign, body, hy, hR⟩ := HYk.out w1 hJ2))
    refine hR.mono ?_
    rintro e W3 (⟨rfl, hJ3, hk3⟩ | ⟨rfl, hJx3⟩)
    ·gi_wp2
     all_goals first
      | (refine bodyPost_ret (results_none rfl _ _ _) rfl ?_; exact ⟨⟨_, rfl⟩, .inl ⟨_, HPX.out, hJ3⟩⟩)
      | (simp at *; done)
    ·gi_wp2
     refine bodyPost_ret (results_none rfl _ _ _) rfl ?_
     exact ⟨⟨_, rfl⟩, .inr ⟨_, by rw [← HPX.out]; exact ⟨[], by simp⟩, hJx3⟩⟩
   | some t =>
    have hs : getS b k = strOfNums t := by unfold getS; rw [hg, hT]
    rw [hs] at hGet
    have htl := (nulAt_take hT).2
    rw [List.length_drop] at htl
    by_cases hte : t = []
    ·subst hte
     have hit := items_empty hT
     have HIT := hx hit
     have hpl : pre.length < (items 1 b).length := by rw [HI.out, hit]; simp
     have hpx : pre ++ [((k : Nat), ([] : List Int))] = items 1 b := by rw [HI.out, hit]
     have HPX := hx hpx
     clear hT hg hs hit hpx
     have hem : (strOfNums []).toList.isEmpty = true := by rw [Go.ByteArray.toList_eq]; rfl
     have hYk : ∀ W1, J pre W1 → YieldAt Fence.wide (n - 1) Tryz.prog l #[.int .i64 (k : Int), .string (strOfNums [])] W1 fun e W' =>
       (e = .returned (.bool true) ∧ J (pre ++ [(k, [])]) W' ∧ KpT n₀ B W1 W') ∨ (e = .returned (.bool false) ∧ Jx (pre ++ [(k, [])]) W') := fun W1 h => hY pre (k, []) W1 h hpl
     have HYk := hx hYk
     clear hYk hpl
     obtain ⟨S, hS⟩ : ∃ S, S = strOfNums [] := ⟨_, rfl⟩
     rw [← hS] at hGet hem HYk
     clear hS
     gi_wp2_with (first | (refine ⟨trivial, ?_⟩; gi_at_call 102; refine (callsIn_wide.2 hGet).mono ?_; rintro e w1 ⟨rfl, e1⟩; have hJ2 := hJ pre wr w1 none hJ1 (e1.toGrown none) (fun r h => by cases h); obtain ⟨fn, tmps, assign, body, hy, hR⟩ := HYk.out w1 hJ2))
     refine hR.mono ?_
     rintro e W3 (⟨rfl, hJ3, hk3⟩ | ⟨rfl, hJx3⟩)
     ·gi_wp2
      all_goals first
       | (refine bodyPost_ret (results_none rfl _ _ _) rfl ?_; exact ⟨⟨_, rfl⟩, .inl ⟨_, HPX.out, hJ3⟩⟩)
       | (simp at *; done)
     ·gi_wp2
      refine bodyPost_ret (results_none rfl _ _ _) rfl ?_
      exact ⟨⟨_, rfl⟩, .inr ⟨_, by rw [← HPX.out]; exact ⟨[], by simp⟩, hJx3⟩⟩
    ·have hit := items_some hT hte
     have HIT := hx hit
     have hpl : pre.length < (items 1 b).length := by rw [HI.out, hit]; simp
     have hpx : pre ++ [(k, t)] ++ items (k + (t.length + 1)) b = items 1 b := by rw [HI.out, hit]; simp
     have HPX := hx hpx
     clear hT hg hs hit hpx
     have hem := toList_nums hte
     have hYk : ∀ W1, J pre W1 → YieldAt Fence.wide (n - 1) Tryz.prog l #[.int .i64 (k : Int), .string (strOfNums t)] W1 fun e W' =>
       (e = .returned (.bool true) ∧ J (pre ++ [(k, t)]) W' ∧ KpT n₀ B W1 W') ∨ (e = .returned (.bool false) ∧ Jx (pre ++ [(k, t)]) W') := fun W1 h => hY pre (k, t) W1 h hpl
     have HYk := hx hYk
     clear hYk hpl
     have hsz := strOfNums_size t
     obtain ⟨S, hS⟩ : ∃ S, S = strOfNums t := ⟨_, rfl⟩
     rw [← hS] at hGet hem HYk hsz
     clear hS
     gi_wp2_with (first | (refine ⟨trivial, ?_⟩; gi_at_call 102; refine (callsIn_wide.2 hGet).mono ?_; rintro e w1 ⟨rfl, e1⟩; have hJ2 := hJ pre wr w1 none hJ1 (e1.toGrown none) (fun r h => by cases h); obtain ⟨fn, tmps, assign, body, hy, hR⟩ := HYk.out w1 hJ2))
     refine hR.mono ?_
     rintro e W3 (⟨rfl, hJ3, hk3⟩ | ⟨rfl, hJx3⟩)
     ·have hBx1 : Boxed w1 B 28 (.slice A b.length c) := e1.obj hBx
      have hbe3 : Below n₀ w0 W3 := (hbe.trans (e1.below.mono (by have := hbe.size; omega))).trans hk3.1
      have hBx3 : Boxed W3 B 28 (.slice A b.length c) := hk3.2.trans hBx1
      gi_wp2
      go_roundw
      case rel => exact ⟨k + (t.length + 1), pre ++ [(k, t)], by simp, by omega, by omega, HPX.out.symm, hJ3, hBx3, hbe3⟩
      case measure => simp [RowKit.intOf]; omega
     ·gi_wp2
      refine bodyPost_ret (results_none rfl _ _ _) rfl ?_
      exact ⟨⟨_, rfl⟩, .inr ⟨_, ⟨_, HPX.out⟩, hJx3⟩⟩
  ·have he := items_end (k := k) (b := b) (by omega)
   gi_wp2
   go_end0
   exact ⟨⟨_, rfl⟩, .inl ⟨pre, by rw [HI.out, he]; simp, hJ1⟩⟩

/-- texts hands back a value that yields the items. -/
theorem texts_stops (n : Nat) (hn : 2 ≤ n) (B : Nat) (v : Value) (b : List Int) (hbl : b.length ≤ 1000000000) (w w0 : World) (hB : Boxed w B 28 v) (hBl : B < w.heap.size) (hv : IsB w0 v b) (hw : Below w0.heap.size w0 w) :
  SeqStopsK Fence.wide n Tryz.prog 101 #[.pointer (some ⟨B, 0, none⟩)] encTx (KpT w0.heap.size B) (fun ys => ys = items 1 b) (fun pre => pre <+: items 1 b) (items 1 b).length w := fun l J Jx W hW hJ _ hY h0 =>
 texts1_in n hn l B w0.heap.size v b hbl J Jx hY W.heap.size hJ W ((Below.block hW B hBl).trans hB) w0 hv rfl (hw.trans (hW.mono hw.size)) h0
end Go.Proofs.YtmofdnlefjfcfaaGreatDoor


set_option linter.unusedVariables false
set_option linter.unusedSimpArgs false
namespace Go.Proofs.YtmofdnlefjfcfaaGreatDoor
open Go.RowKit Go.Lib Go.Shelf Go.Proofs

theorem rowsIn_of {n : Nat} {P : Program} {row : String} {args : Array Value} {w : World} {R : Value → World → Prop} {l : Nat} (h : Rows P row args w R) : RowsIn (Fence.wide.inRound l) n P row args w R :=
 fun c cs _ => let ⟨v, w', r, s⟩ := h c cs; ⟨v, w', r, stepsIn_wide.2 s⟩
theorem upon_round {P : Program} {o : Oper} {a : Act} {K : Act → World → Prop} {Q : Exit → Act → World → Prop} {l n : Nat} {r : Result Next} (h : o.upon P a K Q r) : o.uponIn (Fence.wide.inRound l) n P a K Q r := by
 cases r with
 | ok x w' =>
  cases x <;> first
   | exact h
   | exact ⟨fun h => (by cases h), CallsIn.inRound l (callsIn_wide.2 h)⟩
   | exact ⟨fun h => (by cases h), rowsIn_of h⟩
   | exact h.elim
 | halt x w' => cases x <;> first | exact h | exact h.elim
def noDefer (ops : Array Oper) : Bool := ops.all fun o => match o.op with | .defer _ => false | _ => true
theorem noDefer_spec {ops : Array Oper} (h : noDefer ops = true) {i : Nat} {o : Oper} (hi : ops[i]? = some o) : ∀ c, o.op ≠ .defer c := by
 unfold noDefer at h
 rw [Array.all_eq_true'] at h
 have := h o (Array.mem_of_getElem? hi)
 intro c hc
 rw [hc] at this; cases this
theorem wpOps_round {P : Program} {ops : Array Oper} {Q : Exit → Act → World → Prop} {l n : Nat} (hd : noDefer ops = true) (hL : ¬ LetsOut Q) : ∀ (is : List Nat) (a : Act) (w : World), wpOps P ops Q is a w → wpOpsIn (Fence.wide.inRound l) n P ops Q is a w
 | [], a, w, h => h
 | i :: rest, a, w, h => by
  unfold wpOps at h
  unfold wpOpsIn
  cases hi : ops[i]? with
  | none => simp only [hi] at h ⊢; exact wpOps_round hd hL rest a w h
  | some o =>
   simp only [hi] at h ⊢
   split
   ·rename_i hw
    rw [if_pos hw] at h
    rcases h with h | ⟨_, h⟩
    ·have h := Oper.wp_mono (K' := wpOpsIn (Fence.wide.inRound l) n P ops Q rest) (fun a w => wpOps_round hd hL rest a w) h
     refine ⟨fun _ _ => trivial, ?_⟩
     rw [show (Fence.wide.inRound l).round = some l from rfl, Oper.semAt_some l a.eval o (noDefer_spec hd hi)]
     exact upon_round h
    ·exact absurd h hL
   ·rename_i hw
    rw [if_neg hw] at h
    exact ⟨fun _ _ => trivial, wpOps_round hd hL rest _ w h⟩
theorem wpIn_region_round {P : Program} {ops : Array Oper} {Q : Exit → Act → World → Prop} {l n id : Nat} {a : Act} {w : World} (hm : P.follows .mixedOrders = true) (hd : noDefer ops = true) (hL : ¬ LetsOut Q)
  (h : wpAny P .any ops Q ops.size (Array.replicate ops.size false) a w.drew) : (Code.region id ops true).wpIn (Fence.wide.inRound l) n P Q a w :=
 wpIn_region_draw fun t => by
  simp only [Region.schedule, hm, Bool.true_or, if_true]
  exact wpOps_round hd hL _ _ _ (wpAny_sound ops.size t _ a _ h)
/-- append(v, y), y's cells in a box somewhere: as a step of a region that draws. -/
theorem step_app {P : Program} {ops : Array Oper} {o : Oper} {a : Act} {Q : Exit → Act → World → Prop} {K : Act → World → Prop} {E : Prop} {α : Type} {e : TypeId} {sz bytes : Nat} {enc : α → List Value} {z : Value} {t : TypeId} {w : World}
  (T : TyOk P t e sz bytes z) (C : EncOk sz enc) {base : Nat} {v : Value} {l : List α} (HO : Own e sz enc w base v l) (y : α) {gb : Nat} (hS : ∀ j u, (enc y)[j]? = some u → w.cell? ⟨gb, j, none⟩ = some u) (hgd : o.guard = none) {s x : Operand}
  (ho : o.op = .call { callee := .builtin .append, args := #[s, x], argTypes := #[t, t] }) (hs : a.eval s = v) (hx : a.eval x = .slice (some ⟨gb, 0, none⟩) 1 1) (hbase : base ≤ w.heap.size) (hb0 : 0 < bytes) (hl : (l.length + 1) * bytes ≤ 140737488355328)
  (h : ∀ g cap w', Own e sz enc w' base (.slice (some ⟨g, 0, none⟩) (l.length + 1) cap) (l ++ [y]) → w.grownBy w' v.ownBlock → K (a.put o.dst (.slice (some ⟨g, 0, none⟩) (l.length + 1) cap)) w') :
  if Region.wanted o (yielded ops a.tmps) = true then Oper.wp P o a w K Q else E := by
 have hlen : l.length + 1 ≤ 140737488355328 := Nat.le_trans (Nat.le_mul_of_pos_right _ hb0) hl
 have hw : Region.wanted o (yielded ops a.tmps) = true := by simp [Region.wanted, hgd]
 rw [if_pos hw]
 have hSrc : Src w (.slice (some ⟨gb, 0, none⟩) 1 1) [y].length ([y].flatMap enc) := ⟨_, 1, rfl, fun h => (by cases h), fun j u hu => ⟨gb, 0, rfl, by rw [Nat.zero_add]; exact hS j u (by simpa using hu)⟩⟩
 obtain ⟨v', w', hr, h2, h3, h4⟩ := run_appS (P := P) T C o.type base v l _ [y] HO hSrc hbase (by simpa using hl) (by simpa using hlen)
 obtain ⟨g, cap, hv, _⟩ := World.ownsRow.form h2 (by simp)
 simp only [List.length_append, List.length_cons, List.length_nil, Nat.zero_add] at hv
 subst hv
 unfold Oper.wp
 simp [execOp, ho, resolve, invoke, builtin, hs, hx, hr, Result.andThen]
 exact h g cap w' h2 h3
/-- From one world to another only rows of some types have turned. -/
structure Mid (B : Nat) (W X : World) : Prop where
 box : ∀ b t v, Boxed W b t v → t ≠ 9 → t ≠ 3 → Boxed X b t v
 ko : KeepsOthers W X
 bel : Below B W X
theorem Mid.refl (B : Nat) (W : World) : Mid B W W := ⟨fun _ _ _ h _ _ => h, KeepsOthers.refl _, Below.refl _ _⟩
theorem Mid.drew {B : Nat} {W X : World} (h : Mid B W X) : Mid B W X.drew := ⟨h.box, h.ko.trans (KeepsOthers.drew X), h.bel.drew⟩
theorem Mid.alloc {B : Nat} {W X : World} (h : Mid B W X) (hB : B ≤ X.heap.size) (o : Obj) : Mid B W (X.alloc o) := ⟨fun b t v hb h1 h2 => (h.box b t v hb h1 h2).alloc o, h.ko.trans (KeepsOthers.alloc X o), h.bel.alloc hB o⟩
theorem Mid.app {B : Nat} {W X X' : World} {α : Type} {e : TypeId} {sz : Nat} {enc : α → List Value} {v : Value} {l : List α} (h : Mid B W X) (ho : Own e sz enc X B v l) (he : e = 9 ∨ e = 3) (hg : X.grownBy X' v.ownBlock) (hB : B ≤ X.heap.size) : Mid B W X' := by
 refine ⟨fun b t u hb h1 h2 => ?_, h.ko.trans (KeepsOthers.of_grownBy hg fun j o ej hj => ?_), h.bel.grown hg hB ho.base_le⟩
 ·have hx := h.box b t u hb h1 h2
  exact hx.kept hg (hx.not_row (by rcases he with rfl | rfl <;> assumption) ho)
 ·rcases ho.2 with ⟨rfl, _⟩ | ⟨g, cap, cur, rfl, _, hgb, _⟩
  ·simp [Value.ownBlock] at ej
  ·obtain rfl : g = j := by simpa [Value.ownBlock] using ej
   rw [hgb] at hj; cases hj; rfl
end Go.Proofs.YtmofdnlefjfcfaaGreatDoor


set_option linter.unusedVariables false
set_option linter.unusedSimpArgs false
namespace Go.Proofs.YtmofdnlefjfcfaaGreatDoor
open Go.RowKit Go.Lib

def wLen (l : List UInt8) : Nat := (l.takeWhile fun b => inW b.toNat).length
theorem wLen_stop {l : List UInt8} {p : Nat} {b : UInt8} (h : l[p]? = some b) (hw : inW b.toNat = false) : wLen (l.drop p) = 0 := by
 obtain ⟨hp, hb⟩ := List.getElem?_eq_some_iff.1 h
 rw [List.drop_eq_getElem_cons hp, hb]
 simp [wLen, List.takeWhile_cons, hw]
theorem wLen_go {l : List UInt8} {p : Nat} {b : UInt8} (h : l[p]? = some b) (hw : inW b.toNat = true) : wLen (l.drop p) = wLen (l.drop (p + 1)) + 1 := by
 obtain ⟨hp, hb⟩ := List.getElem?_eq_some_iff.1 h
 rw [List.drop_eq_getElem_cons hp, hb]
 simp [wLen, List.takeWhile_cons, hw]
theorem str_at {s : ByteArray} {p : Nat} (h : p < s.size) : s.data.toList[p]? = some (s[p]'h) := by
 have hp : p < s.data.toList.length := by simpa using h
 rw [List.getElem?_eq_getElem hp]
 rfl

set_option maxRecDepth 20000 in
set_option maxHeartbeats 1000000 in
theorem ident_Word_any (s : ByteArray) (w : World) (hs : s.size ≤ 281474976710656) (hG : Glob w) :
  Calls Tryz.prog 172 #[.string s] w fun e w' => e = .returned (.int .i64 (wLen s.data.toList)) ∧ Ext w w' := by
 have HG := hx hG
 clear hG
 go_enter Tryz.func172, Tryz.ntmps172
 go_wp2
 go_loopw [3] (fun _ wr => ∃ p, wr = w.iter s p ∧ p ≤ s.size ∧ wLen s.data.toList = p + wLen (s.data.toList.drop p)) (fun _ wr => s.size - wr.iterPos w.heap.size)
 case atStart => exact ⟨0, rfl, by omega, by simp⟩
 case round =>
  obtain ⟨p, rfl, hp, hl⟩ := hrel
  have HL := hx hl
  clear hl
  have hE : Ext w (w.iter s p) := Ext.new _ _
  by_cases hlt : p < s.size
  ·have hb := hx (str_at hlt)
   have hnx := fun ty => run_next_any (P := Tryz.prog) w s p ty hlt
   by_cases ha : (s[p]'hlt).toNat < 128
   ·have hd := decode_ascii s p hlt ha
    rw [hd] at hnx
    clear hd
    generalize (s[p]'hlt) = b at *
    have hc := fun p' => inWord_any b.toNat (w.iter s p') (by omega) (HG.out.ext (Ext.new _ _))
    have HC := hx hc
    clear hc
    cases hi : inW b.toNat with
    | true =>
     have hg := hx (wLen_go hb.out hi)
     rw [hi] at HC
     clear hi
     go_wp2_with (first | (go_at_call 178; refine (HC.out _).mono ?_; rintro e w' ⟨rfl, rfl⟩))
     go_roundw
     case rel => exact ⟨p + 1, rfl, by omega, by rw [HL.out, hg.out]; omega⟩
     case measure => simp; omega
    | false =>
     have hg := hx (wLen_stop hb.out hi)
     rw [hi] at HC
     clear hi
     go_wp2_with (first | (go_at_call 178; refine (HC.out _).mono ?_; rintro e w' ⟨rfl, rfl⟩))
     go_ret
     exact ⟨ret_int (by rw [HL.out, hg.out]; simp), Ext.new _ _⟩
   ·have hd := decode_high s p hlt (by omega)
    have hd2 := decode_le s p
    have hi : inW (s[p]'hlt).toNat = false := by unfold inW; simp; omega
    have hg := hx (wLen_stop hb.out hi)
    have hi2 : inW (Utf8.decode s p).1 = false := by unfold inW; simp; omega
    generalize Utf8.decode s p = D at *
    obtain ⟨c, n⟩ := D
    have hc := fun p' => inWord_any c (w.iter s p') (by simpa using hd2) (HG.out.ext (Ext.new _ _))
    simp only at hi2
    rw [hi2] at hc
    have HC := hx hc
    clear hc hi hi2 hd hd2
    go_wp2_with (first | (go_at_call 178; refine (HC.out _).mono ?_; rintro e w' ⟨rfl, rfl⟩))
    go_ret
    exact ⟨ret_int (by rw [HL.out, hg.out]; simp), Ext.new _ _⟩
  ·obtain rfl : p = s.size := by omega
   have hnx := fun ty => run_next_end (P := Tryz.prog) w s s.size ty hlt
   go_wp2
   go_ret
   exact ⟨ret_int (by rw [HL.out, List.drop_eq_nil_of_le (by simp)]; simp [wLen]), Ext.new _ _⟩

set_option maxRecDepth 20000 in
set_option maxHeartbeats 1000000 in
theorem ref02_in_any (c : Int) (w : World) (h0 : 0 ≤ c) (h1 : c < 256) :
  Calls Tryz.prog 141 #[.int .u8 c] w fun e w' => e = .returned (.bool (inW c)) ∧ w' = w := by
 obtain ⟨B, hB⟩ : ∃ B, B = inW c := ⟨_, rfl⟩
 have HB := hx hB
 rw [← hB]
 clear hB
 by_cases z1 : c = 95
 ·subst z1
  go_enter Tryz.func141, Tryz.ntmps141
  go_wp2
  go_ret
  exact ⟨ret_bool (by rw [HB.out]; rfl), rfl⟩
 by_cases z2 : c = 46
 ·subst z2
  go_enter Tryz.func141, Tryz.ntmps141
  go_wp2
  go_ret
  exact ⟨ret_bool (by rw [HB.out]; rfl), rfl⟩
 have e1 : (c == 95) = false := beq_eq_false_iff_ne.2 z1
 have e2 : (c == 46) = false := beq_eq_false_iff_ne.2 z2
 by_cases k1 : 97 ≤ c
 ·by_cases k2 : c ≤ 122
  ·go_enter Tryz.func141, Tryz.ntmps141
   go_wp2
   go_ret
   exact ⟨ret_bool (by rw [HB.out]; unfold inW; simp; omega), rfl⟩
  ·go_enter Tryz.func141, Tryz.ntmps141
   go_wp2
   go_ret
   exact ⟨ret_bool (by rw [HB.out]; unfold inW; simp only [← Bool.decide_or, ← Bool.decide_and, decide_eq_decide]; omega), rfl⟩
 ·by_cases k3 : 65 ≤ c
  ·by_cases k4 : c ≤ 90
   ·go_enter Tryz.func141, Tryz.ntmps141
    go_wp2
    go_ret
    exact ⟨ret_bool (by rw [HB.out]; unfold inW; simp; omega), rfl⟩
   ·go_enter Tryz.func141, Tryz.ntmps141
    go_wp2
    go_ret
    exact ⟨ret_bool (by rw [HB.out]; unfold inW; simp only [← Bool.decide_or, ← Bool.decide_and, decide_eq_decide]; omega), rfl⟩
  ·by_cases k5 : 48 ≤ c
   ·by_cases k6 : c ≤ 57
    ·go_enter Tryz.func141, Tryz.ntmps141
     go_wp2
     go_ret
     exact ⟨ret_bool (by rw [HB.out]; unfold inW; simp; omega), rfl⟩
    ·go_enter Tryz.func141, Tryz.ntmps141
     go_wp2
     go_ret
     exact ⟨ret_bool (by rw [HB.out]; unfold inW; simp; omega), rfl⟩
   ·go_enter Tryz.func141, Tryz.ntmps141
    go_wp2
    go_ret
    exact ⟨ret_bool (by rw [HB.out]; unfold inW; simp; omega), rfl⟩

set_option maxRecDepth 20000 in
set_option maxHeartbeats 1000000 in
theorem ref02_Word_any (s : ByteArray) (w : World) (hs : s.size ≤ 281474976710656) :
  Calls Tryz.prog 111 #[.string s] w fun e w' => e = .returned (.int .i64 (wLen s.data.toList)) ∧ w' = w := by
 go_enter Tryz.func111, Tryz.ntmps111
 go_wp2
 go_loop [3] (fun i => ∃ p : Nat, i = .int .i64 p ∧ p ≤ s.size ∧ wLen s.data.toList = p + wLen (s.data.toList.drop p)) (fun i => s.size - (RowKit.intOf i).toNat)
 case atStart => exact ⟨0, rfl, by omega, by simp⟩
 case round =>
  obtain ⟨p, rfl, hp, hl⟩ := hrel
  have HL := hx hl
  clear hl
  by_cases hlt : p < s.size
  ·have hb := hx (str_at hlt)
   have hc := fun w => ref02_in_any ((s[p]'hlt).toNat : Int) w (by omega) (by have := (s[p]'hlt).toNat_lt; omega)
   have HC := hx hc
   clear hc
   cases hi : inW (s[p]'hlt).toNat with
   | true =>
    have hg := hx (wLen_go hb.out hi)
    rw [hi] at HC
    clear hi
    go_wp2_with (first | (go_at_call 141; refine (HC.out _).mono ?_; rintro e w' ⟨rfl, rfl⟩))
    go_round
    case rel => exact ⟨p + 1, by simp, by omega, by rw [HL.out, hg.out]; omega⟩
    case measure => simp [RowKit.intOf]; omega
   | false =>
    have hg := hx (wLen_stop hb.out hi)
    rw [hi] at HC
    clear hi
    go_wp2_with (first | (go_at_call 141; refine (HC.out _).mono ?_; rintro e w' ⟨rfl, rfl⟩))
    go_ret
    exact ⟨ret_int (by rw [HL.out, hg.out]; simp), rfl⟩
  ·obtain rfl : p = s.size := by omega
   go_wp2
   go_ret
   exact ⟨ret_int (by rw [HL.out, List.drop_eq_nil_of_le (by simp)]; simp [wLen]), rfl⟩
end Go.Proofs.YtmofdnlefjfcfaaGreatDoor


set_option linter.unusedVariables false
set_option linter.unusedSimpArgs false
namespace Go.Proofs.YtmofdnlefjfcfaaGreatDoor
open Go.RowKit Go.Lib

def ddN (u : Nat) : List UInt8 := if u = 0 then [] else Lib.decDigits u
theorem dec_step (u : Nat) : Lib.decDigits u = ddN (u / 10) ++ [UInt8.ofNat (48 + u % 10)] := by
 unfold ddN
 by_cases h : u < 10
 ·rw [Lib.decDigits_one h, if_pos (by omega), Nat.mod_eq_of_lt h]; rfl
 ·rw [if_neg (by omega)]
  conv => lhs; rw [Lib.decDigits, dif_neg h]
def digs : ByteArray := ⟨#[48, 49, 50, 51, 52, 53, 54, 55, 56, 57]⟩
theorem dig_at (d : Nat) (h : d < 10) : digs.extract d (d + 1) = ⟨#[UInt8.ofNat (48 + d)]⟩ := by
 have : ∀ d : Fin 10, digs.extract d.val (d.val + 1) = ⟨#[UInt8.ofNat (48 + d.val)]⟩ := by decide +kernel
 exact this ⟨d, h⟩
def strL (l : List UInt8) : ByteArray := ⟨l.toArray⟩
theorem strL_cons (c : UInt8) (l : List UInt8) : (⟨#[c]⟩ : ByteArray) ++ strL l = strL (c :: l) := by
 apply ByteArray.ext
 apply Array.ext'
 rw [ByteArray.toList_data_append]
 simp [strL]
theorem strL_size (l : List UInt8) : (strL l).size = l.length := by simp [strL, ByteArray.size]
theorem strL_ne {l : List UInt8} (h : l ≠ []) : (strL l).toList.isEmpty = false := toList_ne (by rw [strL_size]; exact fun e => h (List.eq_nil_of_length_eq_zero e))

def emp : Value → Nat | .string b => if b.size = 0 then 1 else 0 | _ => 0
theorem emp_strL (l : List UInt8) : emp (.string (strL l)) = if l.length = 0 then 1 else 0 := by simp [emp, strL_size]
theorem slice_dig (w : World) (d : Nat) (h : d < 10) : (Instr.slice 9 (.string ⟨#[48, 49, 50, 51, 52, 53, 54, 55, 56, 57]⟩) (some (.int .u64 (d : Int))) (some (.int .u64 ((d : Int) + 1))) none).run Tryz.prog w = .ok (.string ⟨#[UInt8.ofNat (48 + d)]⟩) w := by
 have hd := dig_at d h
 unfold digs at hd
 have hsz : (⟨#[48, 49, 50, 51, 52, 53, 54, 55, 56, 57]⟩ : ByteArray).size = 10 := rfl
 have e0 : (0 : Int) ≤ (d : Int) := by omega
 have e1 : (d : Int) ≤ (d : Int) + 1 := by omega
 have e2 : ((d : Int) + 1).toNat = d + 1 := by omega
 have e3 : (0 : Int) ≤ (d : Int) + 1 ∧ (d : Int) + 1 ≤ 10 := by omega
 simp [Instr.slice, run_underlying Tryz.underlying9, Instr.sliceBounds, Instr.sliceBound, asIntOf, hsz, e2, e3, e0, hd]
theorem pow_len {u k : Nat} (h : u * 10 ^ k ≤ 9223372036854775807) (hu : 0 < u) : k ≤ 18 := by
 refine Nat.le_of_lt_succ (Nat.lt_of_not_le fun hk => ?_)
 have h1 : 10 ^ 19 ≤ 10 ^ k := Nat.pow_le_pow_right (by decide) hk
 have h2 : 1 * 10 ^ k ≤ u * 10 ^ k := Nat.mul_le_mul_right _ hu
 have h3 : (10 : Nat) ^ 19 = 10000000000000000000 := by decide
 omega
theorem pow_step {u k : Nat} (h : u * 10 ^ k ≤ 9223372036854775807) : u / 10 * 10 ^ (k + 1) ≤ 9223372036854775807 := by
 have h1 : u / 10 * 10 ≤ u := Nat.div_mul_le_self u 10
 have h2 : u / 10 * 10 * 10 ^ k ≤ u * 10 ^ k := Nat.mul_le_mul_right _ h1
 have h3 : u / 10 * 10 ^ (k + 1) = u / 10 * 10 * 10 ^ k := by rw [Nat.pow_succ, Nat.mul_comm (10 ^ k) 10, Nat.mul_assoc]
 omega
set_option maxRecDepth 20000 in
set_option maxHeartbeats 1000000 in
theorem ref01_Format_nat (n : Nat) (w : World) (hn : n ≤ 9223372036854775807) :
  Calls Tryz.prog 164 #[.int .i64 n] w fun e w' => e = .returned (.string (strL (Lib.decDigits n))) ∧ w' = w := by
 go_enter Tryz.func164, Tryz.ntmps164
 go_wp2
 go_loop [4, 5] (fun r s => ∃ (u : Nat) (l : List UInt8), r = .int .u64 u ∧ s = .string (strL l) ∧ u ≤ 9223372036854775807 ∧ l.length ≤ 20 ∧ Hx (u * 10 ^ l.length ≤ 9223372036854775807) ∧ ((l = [] ∧ u = n) ∨ (l ≠ [] ∧ ddN u ++ l = Lib.decDigits n))) (fun r s => 2 * (RowKit.intOf r).toNat + emp s)
 case atStart => exact ⟨n, [], rfl, rfl, hn, by simp, ⟨by simpa using hn⟩, .inl ⟨rfl, rfl⟩⟩
 case round =>
  obtain ⟨u, l, rfl, rfl, hu, hll, hpw, hr⟩ := hrel
  have HR := hx hr
  clear hr
  have hd := slice_dig w (u % 10) (by omega)
  rw [Int.natCast_emod] at hd
  simp only [Int.cast_ofNat_Int] at hd
  have hds := hx (dec_step u)
  have hcc := strL_cons (UInt8.ofNat (48 + u % 10)) l
  have hls := strL_size l
  have hc1 : (⟨#[UInt8.ofNat (48 + u % 10)]⟩ : ByteArray).size = 1 := rfl
  have hsm : ¬ 9223372036854775807 < (⟨#[UInt8.ofNat (48 + u % 10)]⟩ : ByteArray).size + (strL l).size := by rw [hc1, hls]; omega
  have HCC := hx hcc
  by_cases hu0 : 0 < u
  ·have hl18 := pow_len hpw.out hu0
   clear hcc hls hc1
   generalize hS : strL l = S at *
   generalize hC : (⟨#[UInt8.ofNat (48 + u % 10)]⟩ : ByteArray) = C at *
   have HS := hx hS
   clear hS hC
   go_wp2
   go_round
   case rel =>
    refine ⟨u / 10, UInt8.ofNat (48 + u % 10) :: l, by simp, by rw [HCC.out], by omega, by simp; omega, ⟨pow_step hpw.out⟩, .inr ⟨by simp, ?_⟩⟩
    rcases HR.out with ⟨rfl, rfl⟩ | ⟨hne, h⟩
    ·rw [hds.out]
    ·rw [← h, show ddN u = Lib.decDigits u from if_neg (by omega), hds.out]; simp
   case measure =>
    rw [HCC.out, emp_strL, ← HS.out, emp_strL]
    simp [RowKit.intOf]; split <;> omega
  ·obtain rfl : u = 0 := by omega
   cases l with
   | nil =>
    have hn0 : n = 0 := by rcases HR.out with ⟨_, h⟩ | ⟨h, _⟩ <;> simp_all
    have hem : (strL []).toList.isEmpty = true := by rw [Go.ByteArray.toList_eq]; rfl
    have hsz : ¬ 9223372036854775807 < 1 + (strL []).size := by rw [strL_size]; simp
    have hx1 := hx (show (⟨#[48, 49, 50, 51, 52, 53, 54, 55, 56, 57]⟩ : ByteArray).extract 0 1 ++ strL [] = strL [48] from by
     rw [show (⟨#[48, 49, 50, 51, 52, 53, 54, 55, 56, 57]⟩ : ByteArray).extract 0 1 = ⟨#[48]⟩ from dig_at 0 (by decide)]; exact strL_cons _ _)
    generalize hS : strL [] = S at *
    have HS := hx hS
    clear hS hcc hls hc1 hd hsm HCC
    go_wp2
    go_round
    case rel => exact ⟨0, [48], by simp, by rw [hx1.out], by omega, by simp, ⟨by simp⟩, .inr ⟨by simp, by rw [hn0, dec_step 0]; rfl⟩⟩
    case measure => rw [hx1.out, emp_strL, ← HS.out, emp_strL]; simp [RowKit.intOf]
   | cons c l =>
    have hd2 : strL (c :: l) = strL (Lib.decDigits n) := by rcases HR.out with ⟨h, _⟩ | ⟨_, h⟩ <;> simp_all [ddN]
    have hem := strL_ne (l := c :: l) (by simp)
    have HD := hx hd2
    clear hd2 hcc hls hc1 hd
    generalize hS : strL (c :: l) = S at *
    clear hS
    go_wp2
    go_ret
    exact ⟨ret_str HD.out, rfl⟩
end Go.Proofs.YtmofdnlefjfcfaaGreatDoor


set_option linter.unusedVariables false
set_option linter.unusedSimpArgs false
namespace Go.Proofs.YtmofdnlefjfcfaaGreatDoor
open Go.RowKit Go.Lib

def nameOf (n : Int) : ByteArray := if 0 ≤ n ∧ n ≤ 10 then strL (114 :: Lib.decDigits n.toNat) else ⟨#[]⟩
theorem nameOf_in {n : Nat} (h : n ≤ 10) : nameOf n = strL (114 :: Lib.decDigits n) := by unfold nameOf; rw [if_pos (by omega)]; rfl
theorem nameOf_out {n : Int} (h : ¬ (0 ≤ n ∧ n ≤ 10)) : nameOf n = ⟨#[]⟩ := by unfold nameOf; rw [if_neg h]
theorem dec_len {n : Nat} (h : n ≤ 10) : (Lib.decDigits n).length ≤ 2 := by
 by_cases h1 : n < 10
 ·rw [Lib.decDigits_one h1]; simp
 ·rw [Lib.decDigits_two h1 (by omega)]; simp
set_option maxRecDepth 20000 in
set_option maxHeartbeats 1000000 in
theorem ident_Name_any (n : Int) (w : World) (h0 : -9223372036854775808 ≤ n) (h1 : n ≤ 9223372036854775807) :
  Calls Tryz.prog 180 #[.int .i64 n] w fun e w' => e = .returned (.string (nameOf n)) ∧ w' = w := by
 by_cases hin : 0 ≤ n ∧ n ≤ 10
 ·obtain ⟨k, rfl⟩ := Int.eq_ofNat_of_zero_le hin.1
  have hk : k ≤ 10 := by omega
  have hn := nameOf_in hk
  have hc : Calls Tryz.prog 185 #[.int .i64 (k : Int)] w fun e w' => e = .returned (.string (strL (Lib.decDigits k))) ∧ w' = w := Tryz.strconv_Itoa_small k (by omega) w
  have hcc := strL_cons 114 (Lib.decDigits k)
  have hls := dec_len hk
  have hsm : ¬ 9223372036854775807 < 1 + (strL (Lib.decDigits k)).size := by rw [strL_size]; omega
  generalize strL (Lib.decDigits k) = S at *
  rw [hn, ← hcc]
  clear hn hcc
  have hk2 : ¬ (11 : Int) ≤ (k : Int) := by omega
  go_enter Tryz.func180, Tryz.ntmps180
  go_wp2_with (first | (go_at_call 185; refine hc.mono ?_; rintro e w' ⟨rfl, rfl⟩))
  go_ret
  exact ⟨rfl, rfl⟩
 ·rw [nameOf_out hin]
  by_cases hneg : n < 0
  ·go_enter Tryz.func180, Tryz.ntmps180
   go_wp2
   go_ret
   exact ⟨rfl, rfl⟩
  ·have hge : 11 ≤ n := by omega
   go_enter Tryz.func180, Tryz.ntmps180
   go_wp2
   go_ret
   exact ⟨rfl, rfl⟩
set_option maxRecDepth 20000 in
set_option maxHeartbeats 1000000 in
theorem ref02_Name_any (n : Int) (w : World) (h0 : -9223372036854775808 ≤ n) (h1 : n ≤ 9223372036854775807) :
  Calls Tryz.prog 140 #[.int .i64 n] w fun e w' => e = .returned (.string (nameOf n)) ∧ w' = w := by
 by_cases hin : 0 ≤ n ∧ n ≤ 10
 ·obtain ⟨k, rfl⟩ := Int.eq_ofNat_of_zero_le hin.1
  have hk : k ≤ 10 := by omega
  have hn := nameOf_in hk
  have hc := ref01_Format_nat k w (by omega)
  have hcc := strL_cons 114 (Lib.decDigits k)
  have hls := dec_len hk
  have hsm : ¬ 9223372036854775807 < 1 + (strL (Lib.decDigits k)).size := by rw [strL_size]; omega
  generalize strL (Lib.decDigits k) = S at *
  rw [hn, ← hcc]
  clear hn hcc
  have hk2 : ¬ (10 : Int) < (k : Int) := by omega
  go_enter Tryz.func140, Tryz.ntmps140
  go_wp2_with (first | (go_at_call 164; refine hc.mono ?_; rintro e w' ⟨rfl, rfl⟩))
  go_ret
  exact ⟨rfl, rfl⟩
 ·rw [nameOf_out hin]
  by_cases hneg : n < 0
  ·go_enter Tryz.func140, Tryz.ntmps140
   go_wp2
   go_ret
   exact ⟨rfl, rfl⟩
  ·have hge : 10 < n := by omega
   go_enter Tryz.func140, Tryz.ntmps140
   go_wp2
   go_ret
   exact ⟨rfl, rfl⟩

/-- The number of a register, if it is one. -/
def regNo (s : ByteArray) : Option Nat := (List.range 11).find? fun n => nameOf n = s
def regB (s : ByteArray) : Bool := (regNo s).isSome
def regN (s : ByteArray) : Int := match regNo s with | none => 0 | some n => n

set_option maxRecDepth 20000 in
set_option maxHeartbeats 1000000 in
theorem ref02_Register_any (s : ByteArray) (w : World) (hs : s.size ≤ 281474976710656) :
  Calls Tryz.prog 110 #[.string s] w fun e w' => e = .returned (.tuple #[.int .i64 (regN s), .bool (regB s)]) ∧ w' = w := by
 go_enter Tryz.func110, Tryz.ntmps110
 go_wp2
 go_loop [4] (fun i => ∃ k : Nat, i = .int .i64 k ∧ k ≤ 11 ∧ ∀ j, j < k → nameOf j ≠ s) (fun i => 11 - (RowKit.intOf i).toNat)
 case atStart => exact ⟨0, rfl, by omega, fun j h => by omega⟩
 case round =>
  obtain ⟨k, rfl, hk, hno⟩ := hrel
  have HN := hx hno
  clear hno
  by_cases hlt : k ≤ 10
  ·have hc := ref02_Name_any k w (by omega) (by omega)
   by_cases he : nameOf k = s
   ·have hr : regNo s = some k := by
     unfold regNo
     rw [List.find?_range_eq_some]
     exact ⟨by simpa using he, by simp; omega, fun j hj => by simpa using HN.out j hj⟩
    have HR := hx hr
    clear hr
    rw [he] at hc
    clear he
    go_wp2_with (first | (go_at_call 140; refine hc.mono ?_; rintro e w' ⟨rfl, rfl⟩))
    go_ret2
    exact ⟨by rw [regN, regB, HR.out]; rfl, rfl⟩
   ·have he2 : (s.toList == (nameOf k).toList) = false := by
     refine beq_eq_false_iff_ne.2 fun e => he ?_
     rw [Go.ByteArray.toList_eq, Go.ByteArray.toList_eq] at e
     exact ByteArray.ext (Array.ext' e.symm)
    have HE := hx he
    clear he
    generalize hS : nameOf k = S at *
    have HS := hx hS
    clear hS
    go_wp2_with (first | (go_at_call 140; refine hc.mono ?_; rintro e w' ⟨rfl, rfl⟩))
    go_round
    case rel => exact ⟨k + 1, by simp, by omega, fun j hj => by
     by_cases h : j = k
     ·subst h; rw [HS.out]; exact HE.out
     ·exact HN.out j (by omega)⟩
    case measure => simp [RowKit.intOf]; omega
  ·have hr : regNo s = none := by
    unfold regNo
    rw [List.find?_eq_none]
    intro j hj
    simp at hj
    simpa using HN.out j (by omega)
   have HR := hx hr
   clear hr
   go_wp2
   go_ret2
   exact ⟨by rw [regN, regB, HR.out]; rfl, rfl⟩

/-- What Atoi makes of a register's number. -/
theorem atoi_dec {n : Nat} (h : n ≤ 10) : Lib.atoiAll (Lib.decDigits n) = .ok n := by
 have h' : ∀ n : Fin 11, Lib.atoiAll (Lib.decDigits n.val) = .ok (n.val : Int) := by decide +kernel
 exact h' ⟨n, by omega⟩
theorem name_inj {a b : Nat} (ha : a ≤ 10) (hb : b ≤ 10) (h : nameOf a = nameOf b) : a = b := by
 have h' : ∀ a b : Fin 11, nameOf (a.val : Int) = nameOf (b.val : Int) → a = b := by decide +kernel
 have := h' ⟨a, by omega⟩ ⟨b, by omega⟩ h
 exact congrArg Fin.val this
theorem regNo_name {n : Nat} (h : n ≤ 10) : regNo (nameOf n) = some n := by
 unfold regNo
 rw [List.find?_range_eq_some]
 refine ⟨by simp, by simp; omega, fun j hj => ?_⟩
 have : nameOf j ≠ nameOf n := fun e => by have := name_inj (by omega) h e; omega
 simpa using this
theorem regNo_some {s : ByteArray} {n : Nat} (h : regNo s = some n) : n ≤ 10 ∧ nameOf n = s := by
 unfold regNo at h
 rw [List.find?_range_eq_some] at h
 have h2 := h.2.1
 simp at h2
 exact ⟨by omega, by simpa using h.1⟩
end Go.Proofs.YtmofdnlefjfcfaaGreatDoor
