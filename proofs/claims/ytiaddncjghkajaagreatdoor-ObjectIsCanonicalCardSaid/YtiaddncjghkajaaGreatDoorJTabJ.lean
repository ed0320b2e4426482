/- The layer strtab: the iterator texts. -/
import Derived.Test.YtiaddncjghkajaaGreatDoorJTabG
import Derived.RangeFuncNested
import Derived.RangeFuncBound
import Derived.RangeFuncCalls
import Derived.RangeFuncLeaves
import Derived.RangeFuncBox
import Derived.Shelf.Abstract
import Derived.Shelf.RegionOpen
import Derived.OwnWalkIn
import Derived.TacticsInMore
import Derived.LoopNIn
import Derived.LoopIn
set_option linter.unusedVariables false
set_option linter.unusedSimpArgs false
namespace Go.Proofs.YtiaddncjghkajaaGreatDoor
open Go.RowKit Go.Lib Go.Shelf Go.Proofs
attribute [local go_sem] Oper.semAt_some

def itemsA : Nat → List Int → List Int → List (Nat × List Int)
  | k, cur, [] => if cur = [] then [] else [(k, [])]
  | k, cur, x :: l => if x = 0 then (if cur = [] then [(k, [])] else (k, cur) :: itemsA (k + cur.length + 1) [] l) else itemsA k (cur ++ [x]) l
theorem itemsA_some {l t : List Int} (h : nulAt l = some t) (k : Nat) (cur : List Int) :
    itemsA k cur l = if cur ++ t = [] then [(k, [])] else (k, cur ++ t) :: itemsA (k + (cur ++ t).length + 1) [] (l.drop (t.length + 1)) := by
  induction l generalizing t cur with
  | nil => cases h
  | cons x l ih =>
    unfold nulAt at h
    split at h
    · rename_i hx
      cases h
      rw [itemsA, if_pos hx]; simp
    · rename_i hx
      obtain ⟨u, hu, rfl⟩ := Option.map_eq_some_iff.1 h
      rw [itemsA, if_neg hx, ih hu]
      simp
theorem itemsA_none {l : List Int} (h : nulAt l = none) (k : Nat) (cur : List Int) (hne : cur ++ l ≠ []) : itemsA k cur l = [(k, [])] := by
  induction l generalizing cur with
  | nil => rw [itemsA, if_neg (by simpa using hne)]
  | cons x l ih =>
    unfold nulAt at h
    split at h
    · cases h
    · rename_i hx
      rw [itemsA, if_neg hx]
      exact ih (by simpa using h) _ (by simp)
theorem itemsA_split (l : List Int) : ∀ (k : Nat) (cur : List Int), splitA cur l = if (itemsA k cur l).all (fun x => !x.2.isEmpty) then some ((itemsA k cur l).map (·.2)) else none := by
  induction l with
  | nil => intro k cur; rw [splitA, itemsA]; by_cases h : cur = [] <;> simp [h]
  | cons x l ih =>
    intro k cur
    rw [splitA, itemsA]
    by_cases hx : x = 0
    · rw [if_pos hx, if_pos hx]
      by_cases h : cur = []
      · simp [h]
      · rw [if_neg h, if_neg h, ih (k + cur.length + 1) []]
        have hc : cur.isEmpty = false := by cases cur <;> simp_all
        simp only [List.all_cons, hc, Bool.not_false, Bool.true_and, List.map_cons]
        split <;> rfl
    · rw [if_neg hx, if_neg hx]; exact ih _ _
/-- What the iterator yields from a place on. -/
def items (k : Nat) (b : List Int) : List (Nat × List Int) := itemsA k [] (b.drop k)
def encTx (x : Nat × List Int) : Array Value := #[.int .i64 x.1, .string (strOfNums x.2)]
def KpT (n₀ B : Nat) (W W' : World) : Prop := Below n₀ W W' ∧ W'.heap[B]? = W.heap[B]?
theorem KpT.refl (n₀ B : Nat) (W : World) : KpT n₀ B W W := ⟨Below.refl _ _, rfl⟩
theorem KpT.trans {n₀ B : Nat} {W W1 W2 : World} (h : KpT n₀ B W W1) (k : KpT n₀ B W1 W2) : KpT n₀ B W W2 := ⟨h.1.trans k.1, k.2.trans h.2⟩

theorem items_none {k : Nat} {b : List Int} (hk : k < b.length) (h : nulAt (b.drop k) = none) : items k b = [(k, [])] := itemsA_none h k [] (by intro e; have := congrArg List.length e; simp at this; omega)
theorem items_empty {k : Nat} {b : List Int} (h : nulAt (b.drop k) = some []) : items k b = [(k, [])] := by unfold items; rw [itemsA_some h]; simp
theorem items_some {k : Nat} {b t : List Int} (h : nulAt (b.drop k) = some t) (ht : t ≠ []) : items k b = (k, t) :: items (k + (t.length + 1)) b := by
  unfold items
  rw [itemsA_some h, if_neg (by simpa using ht), List.drop_drop]; simp [Nat.add_assoc]
theorem items_end {k : Nat} {b : List Int} (hk : b.length ≤ k) : items k b = [] := by unfold items; rw [List.drop_eq_nil_of_le hk]; rfl
theorem isB_below {n₀ : Nat} {w W : World} {v : Value} {l : List Int} (h : IsB w v l) (hb : Below n₀ w W) (hn : w.heap.size ≤ n₀) : IsB W v l := Sl.ext h fun b o x k => ⟨(Below.cell hb (Nat.lt_of_lt_of_le (World.block_lt_of_cell? w _ k.1) hn)).trans k.1, k.2⟩

set_option maxRecDepth 100000 in
set_option maxHeartbeats 1000000 in
theorem texts1_in (n : Nat) (hn : 2 ≤ n) (l B n₀ : Nat) (v : Value) (b : List Int) (hbl : b.length ≤ 1000000000) (J Jx : List (Nat × List Int) → World → Prop)
    (hY : ∀ pre x W, J pre W → pre.length < (items 1 b).length → YieldAt Fence.wide (n - 1) Tryz.prog l (encTx x) W fun e W' =>
      (e = .returned (.bool true) ∧ J (pre ++ [x]) W' ∧ KpT n₀ B W W') ∨ (e = .returned (.bool false) ∧ Jx (pre ++ [x]) W'))
    (n₁ : Nat) (hJ : AbidesFrom n₁ J)
    (W : World) (hB : Boxed W B 23 v) (w0 : World) (hv : IsB w0 v b) (hw0 : w0.heap.size = n₀) (hW0 : Below n₀ w0 W) (h0 : J [] W) :
    CallsIn Fence.wide n Tryz.prog 133 #[.func (.yield l) #[] #[], .pointer (some ⟨B, 0, none⟩)] W fun e W' => (∃ v, e = .returned v) ∧
      ((∃ ys, ys = items 1 b ∧ J ys W') ∨ (∃ pre, pre <+: items 1 b ∧ Jx pre W')) := by
  obtain ⟨A, c, rfl, hc, -, hv'⟩ := hv.form
  refine callsIn_of_wp Tryz.func133 rfl trivial ?_ rfl
  simp only [Tryz.ntmps133, List.size_toArray, List.length_cons, List.length_nil, Nat.reduceAdd, Nat.reduceSub, Array.replicate_succ, Array.replicate_zero, List.push_toArray, List.append_toArray, List.nil_append, List.cons_append]
  have h1n : 1 ≤ n := by omega
  gi_wp2
  gi_loopw [3] (fun a wr => ∃ (k : Nat) (pre : List (Nat × List Int)), a = .int .i64 k ∧ 1 ≤ k ∧ k ≤ b.length + 1 ∧ items 1 b = pre ++ items k b ∧ J pre wr ∧ Boxed wr B 23 (.slice A b.length c) ∧ Below n₀ w0 wr)
    (fun a wr => b.length + 1 - (RowKit.intOf a).toNat)
  case atStart => exact ⟨1, [], rfl, by omega, by omega, by simp, h0, hB, hW0⟩
  case round =>
    obtain ⟨k, pre, rfl, hk1, hk2, hi, hJ1, hBx, hbe⟩ := hrel
    have HI := hx hi
    clear hi
    have hcell := hBx.cell
    have HBL := hx hbl
    by_cases hlt : k < b.length
    · have hGet := strtab_Get_any _ b k wr (isB_below hv hbe (Nat.le_of_eq hw0)) hbl (by omega) (by omega)
      have hg := getT_in hlt
      cases hT : nulAt (b.drop k) with
      | none =>
        have hs : getS b k = ⟨#[]⟩ := by unfold getS; rw [hg, hT]
        rw [hs] at hGet
        have hit := items_none hlt hT
        have HIT := hx hit
        have hpl : pre.length < (items 1 b).length := by rw [HI.out, hit]; simp
        have hpx : pre ++ [((k : Nat), ([] : List Int))] = items 1 b := by rw [HI.out, hit]
        have HPX := hx hpx
        clear hT hg hs hit hpx
        have hem : (ByteArray.mk #[]).toList.isEmpty = true := by rw [Go.ByteArray.toList_eq]; rfl
        have hYk : ∀ W1, J pre W1 → YieldAt Fence.wide (n - 1) Tryz.prog l #[.int .i64 (k : Int), .string ⟨#[]⟩] W1 fun e W' =>
            (e = .returned (.bool true) ∧ J (pre ++ [(k, [])]) W' ∧ KpT n₀ B W1 W') ∨ (e = .returned (.bool false) ∧ Jx (pre ++ [(k, [])]) W') := fun W1 h => hY pre (k, []) W1 h hpl
        have HYk := hx hYk
        clear hYk hpl
        gi_wp2_with (first | (refine ⟨trivial, ?_⟩; gi_at_call 134; refine (callsIn_wide.2 hGet).mono ?_; rintro e w1 ⟨rfl, e1⟩; have hJ2 := hJ pre wr w1 none hJ1 (e1.toGrown none) (fun r h => by cases h); obtain ⟨fn, tmps, assign, body, hy, hR⟩ := HYk.out w1 hJ2))
        refine hR.mono ?_
        rintro e W3 (⟨rfl, hJ3, hk3⟩ | ⟨rfl, hJx3⟩)
        · gi_wp2
          all_goals first
            | (refine bodyPost_ret (results_none rfl _ _ _) rfl ?_; exact ⟨⟨_, rfl⟩, .inl ⟨_, HPX.out, hJ3⟩⟩)
            | (simp at *; done)
        · gi_wp2
          refine bodyPost_ret (results_none rfl _ _ _) rfl ?_
          exact ⟨⟨_, rfl⟩, .inr ⟨_, by rw [← HPX.out]; exact ⟨[], by simp⟩, hJx3⟩⟩
      | some t =>
        have hs : getS b k = strOfNums t := by unfold getS; rw [hg, hT]
        rw [hs] at hGet
        have htl := (nulAt_take hT).2
        rw [List.length_drop] at htl
        by_cases hte : t = []
        · subst hte
          have hit := items_empty hT
          have HIT := hx hit
          have hpl : pre.length < (items 1 b).length := by rw [HI.out, hit]; simp
          have hpx : pre ++ [((k : Nat), ([] : List Int))] = items 1 b := by rw [HI.out, hit]
          have HPX := hx hpx
          clear hT hg hs hit hpx
          have hem : (strOfNums []).toList.isEmpty = true := by rw [Go.ByteArray.toList_eq]; rfl
          have hYk : ∀ W1, J pre W1 → YieldAt Fence.wide (n - 1) Tryz.prog l #[.int .i64 (k : Int), .string (strOfNums [])] W1 fun e W' =>
              (e = .returned (.bool true) ∧ J (pre ++ [(k, [])]) W' ∧ KpT n₀ B W1 W') ∨ (e = .returned (.bool false) ∧ Jx (pre ++ [(k, [])]) W') := fun W1 h => hY pre (k, []) W1 h hpl
          have HYk := hx hYk
          clear hYk hpl
          obtain ⟨S, hS⟩ : ∃ S, S = strOfNums [] := ⟨_, rfl⟩
          rw [← hS] at hGet hem HYk
          clear hS
          gi_wp2_with (first | (refine ⟨trivial, ?_⟩; gi_at_call 134; refine (callsIn_wide.2 hGet).mono ?_; rintro e w1 ⟨rfl, e1⟩; have hJ2 := hJ pre wr w1 none hJ1 (e1.toGrown none) (fun r h => by cases h); obtain ⟨fn, tmps, assign, body, hy, hR⟩ := HYk.out w1 hJ2))
          refine hR.mono ?_
          rintro e W3 (⟨rfl, hJ3, hk3⟩ | ⟨rfl, hJx3⟩)
          · gi_wp2
            all_goals first
              | (refine bodyPost_ret (results_none rfl _ _ _) rfl ?_; exact ⟨⟨_, rfl⟩, .inl ⟨_, HPX.out, hJ3⟩⟩)
              | (simp at *; done)
          · gi_wp2
            refine bodyPost_ret (results_none rfl _ _ _) rfl ?_
            exact ⟨⟨_, rfl⟩, .inr ⟨_, by rw [← HPX.out]; exact ⟨[], by simp⟩, hJx3⟩⟩
        · have hit := items_some hT hte
          have HIT := hx hit
          have hpl : pre.length < (items 1 b).length := by rw [HI.out, hit]; simp
          have hpx : pre ++ [(k, t)] ++ items (k + (t.length + 1)) b = items 1 b := by rw [HI.out, hit]; simp
          have HPX := hx hpx
          clear hT hg hs hit hpx
          have hem := toList_nums hte
          have hYk : ∀ W1, J pre W1 → YieldAt Fence.wide (n - 1) Tryz.prog l #[.int .i64 (k : Int), .string (strOfNums t)] W1 fun e W' =>
              (e = .returned (.bool true) ∧ J (pre ++ [(k, t)]) W' ∧ KpT n₀ B W1 W') ∨ (e = .returned (.bool false) ∧ Jx (pre ++ [(k, t)]) W') := fun W1 h => hY pre (k, t) W1 h hpl
          have HYk := hx hYk
          clear hYk hpl
          have hsz := strOfNums_size t
          obtain ⟨S, hS⟩ : ∃ S, S = strOfNums t := ⟨_, rfl⟩
          rw [← hS] at hGet hem HYk hsz
          clear hS
          gi_wp2_with (first | (refine ⟨trivial, ?_⟩; gi_at_call 134; refine (callsIn_wide.2 hGet).mono ?_; rintro e w1 ⟨rfl, e1⟩; have hJ2 := hJ pre wr w1 none hJ1 (e1.toGrown none) (fun r h => by cases h); obtain ⟨fn, tmps, assign, body, hy, hR⟩ := HYk.out w1 hJ2))
          refine hR.mono ?_
          rintro e W3 (⟨rfl, hJ3, hk3⟩ | ⟨rfl, hJx3⟩)
          · have hBx1 : Boxed w1 B 23 (.slice A b.length c) := e1.obj hBx
            have hbe3 : Below n₀ w0 W3 := (hbe.trans (e1.below.mono (by have := hbe.size; omega))).trans hk3.1
            have hBx3 : Boxed W3 B 23 (.slice A b.length c) := hk3.2.trans hBx1
            gi_wp2
            go_roundw
            case rel => exact ⟨k + (t.length + 1), pre ++ [(k, t)], by simp, by omega, by omega, HPX.out.symm, hJ3, hBx3, hbe3⟩
            case measure => simp [RowKit.intOf]; omega
          · gi_wp2
            refine bodyPost_ret (results_none rfl _ _ _) rfl ?_
            exact ⟨⟨_, rfl⟩, .inr ⟨_, ⟨_, HPX.out⟩, hJx3⟩⟩
    · have he := items_end (k := k) (b := b) (by omega)
      gi_wp2
      go_end0
      exact ⟨⟨_, rfl⟩, .inl ⟨pre, by rw [HI.out, he]; simp, hJ1⟩⟩

/-- texts hands back a value that yields the items. -/
theorem texts_stops (n : Nat) (hn : 2 ≤ n) (B : Nat) (v : Value) (b : List Int) (hbl : b.length ≤ 1000000000) (w w0 : World) (hB : Boxed w B 23 v) (hBl : B < w.heap.size) (hv : IsB w0 v b) (hw : Below w0.heap.size w0 w) :
    SeqStopsK Fence.wide n Tryz.prog 133 #[.pointer (some ⟨B, 0, none⟩)] encTx (KpT w0.heap.size B) (fun ys => ys = items 1 b) (fun pre => pre <+: items 1 b) (items 1 b).length w := fun l J Jx W hW hJ _ hY h0 =>
  texts1_in n hn l B w0.heap.size v b hbl J Jx hY W.heap.size hJ W ((Below.block hW B hBl).trans hB) w0 hv rfl (hw.trans (hW.mono hw.size)) h0
end Go.Proofs.YtiaddncjghkajaaGreatDoor
