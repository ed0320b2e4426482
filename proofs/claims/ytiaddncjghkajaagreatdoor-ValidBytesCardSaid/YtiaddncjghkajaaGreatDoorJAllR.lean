/- The layer slot, the reference: All, Same. -/
import Derived.Test.YtiaddncjghkajaaGreatDoorJStep
import Derived.Test.YtiaddncjghkajaaGreatDoorJAll
import Derived.Test.YtiaddncjghkajaaGreatDoorJLayR
import Derived.Test.YtiaddncjghkajaaGreatDoorJLinks
import Derived.Test.YtiaddncjghkajaaGreatDoorJInsE
import Derived.Test.YtiaddncjghkajaaGreatDoorJOpsC
import Derived.Test.YtiaddncjghkajaaGreatDoorJSlot
set_option linter.unusedVariables false
set_option linter.unusedSimpArgs false
namespace Go.Proofs.YtiaddncjghkajaaGreatDoor
open Go.RowKit

set_option maxRecDepth 40000 in
set_option maxHeartbeats 4000000 in
theorem refAll_any (v : Value) (b : List Int) (w : World) (hv : IsB w v b) (hbl : b.length ≤ 1000000) :
  Calls Tryz.prog 35 #[v] w fun e w' => ∃ v', e = .returned (.tuple #[v', .int .i64 (allAt b), .int .i64 (allE b)]) ∧ IsIns w' v' (allI b) ∧ Ext w w' := by
 obtain ⟨A, c, rfl, hc, -, hv'⟩ := hv.form
 have hbd := hx (stepsN_bd (IsB.byt hv'))
 have hsl := hx (stepsN_len b)
 go_enter Tryz.func35, Tryz.ntmps35
 go_wp2
 go_loopw [5, 6] (fun vo at_ wr => ∃ (pre : List (Ins × Int × Int)) (k : Nat), stepsN b = pre ++ stepsN (b.drop (8 * k)) ∧ (∀ x ∈ pre, x.2.2 = 0) ∧ sumN pre = (k : Int) ∧ at_ = .int .i64 (k : Nat) ∧ 8 * k ≤ b.length ∧ OwnN wr w.heap.size vo (pre.map (·.1)) ∧ Ext w wr)
  (fun _ at_ _ => b.length - (RowKit.intOf at_).toNat)
 case atStart => exact ⟨[], 0, by simp, by simp, by simp [sumN], rfl, by omega, Own.nil _ _ _ _ _, Ext.refl _⟩
 case round =>
  obtain ⟨pre, k, hi, hok, hsum, rfl, hk, ho, he⟩ := hrel
  have HI := hx hi
  have HOK := hx hok
  have HSUM := hx hsum
  clear hi hok hsum
  obtain ⟨A4, c4, rfl⟩ := ho.slice
  have hw8 : wrap64 (8 * (k : Int)) = 8 * (k : Int) := wrapL _ (by omega) (by omega)
  by_cases hlt : 8 * k < b.length
  ·have hd : decide (8 * (k : Int) < (b.length : Int)) = true := decide_eq_true (by omega)
   obtain ⟨y, hy⟩ : ∃ y, b[0]? = some y := ⟨_, List.getElem?_eq_getElem (by omega)⟩
   obtain ⟨b0, o, rfl, -⟩ := hv'.get hy
   have hne : b.drop (8 * k) ≠ [] := by
    intro e
    have := congrArg List.length e
    rw [List.length_drop] at this
    simp at this
    omega
   obtain ⟨n8, hn8⟩ : ∃ n : Nat, n = 8 * k := ⟨_, rfl⟩
   have hpl : pre.length ≤ 1000001 := by
    have h1 := hsl.out
    have h2 := congrArg List.length HI.out
    rw [List.length_append] at h2
    omega
   have hn8z : 8 * (k : Int) = (n8 : Int) := by omega
   rw [← hn8] at hne hlt hk
   have hS := IsB.sub (IsB.ext hv' he) n8 (b.length - n8) (by omega)
   rw [List.take_of_length_le (by rw [List.length_drop]; omega)] at hS
   have hsub : (if c = n8 then (some ⟨b0, o, none⟩ : Option Addr) else some ⟨b0, o + n8, none⟩) = subA (some ⟨b0, o, none⟩) c n8 := by unfold subA; simp [add_plain]
   generalize subA (some ⟨b0, o, none⟩) c n8 = A8 at *
   have HQ := hx (refDecode_any _ _ wr hS)
   have hi8 : stepsN b = pre ++ stepsN (b.drop n8) := by rw [hn8]; exact HI.out
   have hrl : (b.drop n8).length = b.length - n8 := List.length_drop
   have hbnd := stepsN_bd (IsB.byt hv')
   generalize hrest : b.drop n8 = rest at *
   have hw8' : wrap64 (8 * (k : Int)) = (n8 : Int) := by rw [hw8, hn8z]
   have hnc : (n8 : Int) ≤ (c : Int) := by omega
   have hnl : (n8 : Int) < (b.length : Int) := by omega
   rw [hn8z] at hd
   have HN8 := hx hn8
   have HS := hx hS
   have HRL := hx hrl
   have HRE := hx hrest
   clear hw8 hn8z hn8 hk hS hrl HI hrest
   by_cases hE : decE rest = 0
   ·have hst := stepsN_ok hne hE
    have hdo := decE_ok hE
    have hDI : (decX rest, decN rest, decE rest) ∈ stepsN b := by rw [hi8, hst]; simp
    have hxok := (hbnd _ hDI).1
    rw [hE] at HQ hst
    dsimp only at hxok
    unfold Ins.v at HQ
    generalize hXX : decX rest = X at *
    generalize hDN : decN rest = DN at *
    obtain ⟨op, reg, n1, n2, n3, n4⟩ := X
    have hstep : stepsN b = (pre ++ [((⟨op, reg, n1, n2, n3, n4⟩ : Ins), DN, (0 : Int))]) ++ stepsN (rest.drop (8 * DN.toNat)) := by rw [hi8, hst]; simp
    have HST := hx hstep
    have HDO := hx hdo
    clear hst hdo hDI hi8 hXX hDN hstep hbnd hE hne hxok
    have hl4 : ((pre.map fun x : Ins × Int × Int => x.1).length + 1) * 48 ≤ 140737488355328 := by rw [List.length_map]; omega
    have HL4 := hx hl4
    generalize hps : (pre.map fun x : Ins × Int × Int => x.1) = ps at *
    have HPS := hx hps
    clear hl4 hps
    go_wp2_with fail
    refine HQ.out.mono ?_
    rintro e w1 ⟨rfl, e1⟩
    go_upto_region 7 with fail
    have x1 := he.trans (e1.trans (Ext.new w1 (.cells #[.int .i64 op, .bool reg, .int .i64 n1, .int .i64 n2, .int .i64 n3, .int .i64 n4] 69)))
    have o1 := ho.ext (e1.trans (Ext.new w1 (.cells #[.int .i64 op, .bool reg, .int .i64 n1, .int .i64 n2, .int .i64 n3, .int .i64 n4] 69)))
    have rx := RowV.new w1 [.int .i64 op, .bool reg, .int .i64 n1, .int .i64 n2, .int .i64 n3, .int .i64 n4] 69
    obtain ⟨W1, hW1⟩ : ∃ W1, W1 = w1.alloc (.cells #[.int .i64 op, .bool reg, .int .i64 n1, .int .i64 n2, .int .i64 n3, .int .i64 n4] 69) := ⟨_, rfl⟩
    change RowV (w1.alloc (.cells #[.int .i64 op, .bool reg, .int .i64 n1, .int .i64 n2, .int .i64 n3, .int .i64 n4] 69)) w1.heap.size 69 [.int .i64 op, .bool reg, .int .i64 n1, .int .i64 n2, .int .i64 n3, .int .i64 n4] at rx
    rw [← hW1] at x1 o1 rx ⊢
    have q0 := rx.cell (i := 0) rfl
    have q1 := rx.cell (i := 1) rfl
    have q2 := rx.cell (i := 2) rfl
    have q3 := rx.cell (i := 3) rfl
    have q4 := rx.cell (i := 4) rfl
    have q5 := rx.cell (i := 5) rfl
    generalize w1.heap.size = gx at *
    have hxs := x1.size
    clear hW1 rx e1
    go_wp2_with (at_builtin; refine wp_app1 tyN encN_ok o1 ⟨op, reg, n1, n2, n3, n4⟩ rfl rfl rfl rfl rfl hxs (by decide) HL4.out ?_; intro g1 cap w2 o2 hg2 hat2 hbg2)
    have hsum2 : sumN (pre ++ [((⟨op, reg, n1, n2, n3, n4⟩ : Ins), DN, (0 : Int))]) = (k : Int) + DN := by rw [← HSUM.out]; simp [sumN]
    have hr1 := HRL.out
    have hdn : ∃ d : Nat, DN = (d : Int) ∧ 1 ≤ d ∧ n8 + 8 * d ≤ b.length := by
     rcases HDO.out with ⟨rfl, h⟩ | ⟨rfl, h⟩
     ·exact ⟨1, rfl, by omega, by omega⟩
     ·exact ⟨2, rfl, by omega, by omega⟩
    obtain ⟨d, rfl, hd1, hd2⟩ := hdn
    have hn8' := HN8.out
    have hA : sumN (pre ++ [((⟨op, reg, n1, n2, n3, n4⟩ : Ins), (d : Int), (0 : Int))]) = ((k + d : Nat) : Int) := by rw [hsum2]; push_cast; rfl
    have hB : 8 * (k + d) ≤ b.length := by omega
    have hC : stepsN b = (pre ++ [((⟨op, reg, n1, n2, n3, n4⟩ : Ins), (d : Int), (0 : Int))]) ++ stepsN (b.drop (8 * (k + d))) := by
     rw [HST.out]
     congr 2
     rw [← HRE.out, List.drop_drop, Int.toNat_natCast]
     congr 1
     omega
    have hM : b.length - (k + d) < b.length - k := by omega
    have hD : ∀ x ∈ pre ++ [((⟨op, reg, n1, n2, n3, n4⟩ : Ins), (d : Int), (0 : Int))], x.2.2 = 0 := by
     intro x hx
     rw [List.mem_append] at hx
     rcases hx with hx | hx
     ·exact HOK.out x hx
     ·rw [List.mem_singleton] at hx; rw [hx]
    have hsum3 : (k : Int) + (d : Int) = ((k + d : Nat) : Int) := by omega
    have hkd : ((k + d : Nat) : Int) ≤ 1000000 := by omega
    have hwk : wrap64 ((k : Int) + (d : Int)) = ((k + d : Nat) : Int) := by rw [hsum3]; exact wrapL _ (by omega) (by omega)
    have X2 := hx ((x1).grown hg2 o1.base_le)
    have RA := hx hA
    have HWK := hx hwk
    have RB := hx hB
    have RC := hx hC
    have RM := hx hM
    have RD := hx hD
    clear hsum3 hr1 hA hB hC hM hD hkd hn8' hsum2 hd1 hd2 q0 q1 q2 q3 q4 q5
    go_wp2
    go_roundw
    case rel => exact ⟨pre ++ [(⟨op, reg, n1, n2, n3, n4⟩, (d : Int), 0)], k + d, RC.out, RD.out, RA.out, by rw [HWK.out], RB.out, by rw [List.map_append, HPS.out]; exact o2, X2.out⟩
    case measure =>
     rw [HWK.out]
     show b.length - (RowKit.intOf (.int .i64 ((k + d : Nat) : Int))).toNat < b.length - (RowKit.intOf (.int .i64 ((k : Nat) : Int))).toNat
     exact RM.out
   ·have hst := stepsN_err hne hE
    have hbad := all_bad (b := b) (pre := pre) (x := (decX rest, decN rest, decE rest)) (by rw [hi8, hst]; exact List.prefix_refl _) HOK.out hE
    have hE' : (decE rest != 0) = true := by simpa using hE
    dsimp only at hbad
    unfold Ins.v at HQ
    generalize decX rest = X at *
    generalize decN rest = DN at *
    generalize decE rest = DE at *
    obtain ⟨op, reg, n1, n2, n3, n4⟩ := X
    have HBAD := hx hbad
    clear hst hbad hi8 hbnd hE hne
    go_wp2_with fail
    refine HQ.out.mono ?_
    rintro e w1 ⟨rfl, e1⟩
    go_wp2
    refine bodyPost_ret (results_tmp3 rfl _ _ _) rfl ?_
    exact ⟨_, by rw [HBAD.out.1, HBAD.out.2.1, HSUM.out]; rfl, by rw [HBAD.out.2.2]; exact Sl.nil _, he.trans (e1.trans (Ext.new _ _))⟩
  ·have hd : decide (8 * (k : Int) < (b.length : Int)) = false := decide_eq_false (by omega)
   have hdrop : b.drop (8 * k) = [] := List.drop_eq_nil_of_le (by omega)
   rw [hdrop, stepsN_nil, List.append_nil] at HI
   obtain ⟨hE, hAt, hAl⟩ := all_done (b := b) (by rw [HI.out]; exact HOK.out)
   have hl2 : (pre.map fun x : Ins × Int × Int => x.1).length ≤ 281474976710656 := by
    have h1 := hsl.out
    rw [HI.out] at h1
    rw [List.length_map]; omega
   have HX := hx (show ∀ x ∈ pre, x.1.Ok from fun x hx => (hbd.out x (by rw [HI.out]; exact hx)).1)
   rw [HI.out] at hAl
   have HAL := hx hAl
   have HE := hx hE
   have HAT := hx hAt
   clear hE hAt hAl hdrop
   go_wp2
   refine bodyPost_ret (results_tmp3 rfl _ _ _) rfl ?_
   refine ⟨_, by rw [HAT.out, HE.out]; rfl, ?_, he⟩
   rw [HAL.out]
   exact ho.read encN_ok hl2 fun x hx b o h => ⟨⟨by simpa using h 0 _ rfl, h 1 _ rfl, h 2 _ rfl, h 3 _ rfl, h 4 _ rfl, h 5 _ rfl⟩, by
    obtain ⟨y, hy, rfl⟩ := List.mem_map.1 hx
    exact HX.out y hy⟩
end Go.Proofs.YtiaddncjghkajaaGreatDoor


set_option linter.unusedVariables false
set_option linter.unusedSimpArgs false
namespace Go.Proofs.YtiaddncjghkajaaGreatDoor
open Go.RowKit

theorem decX_off {b : List Int} (hb : Byt b) : -1000000 ≤ (decX b).off ∧ (decX b).off ≤ 1000000 := by
 unfold decX
 split
 ·have h2 := sext16_bd (subL2_bd hb 2).1 (subL2_bd hb 2).2
  have hf := fixN_bd (idOf b).1
  unfold decI
  dsimp only
  omega
 ·unfold insZ; dsimp only; omega
theorem decX_op {b : List Int} (h : decE b = 0) : slotsN (decX b).op = decN b ∧ (slotsN (decX b).op = 1 ∨ slotsN (decX b).op = 2) := by
 have hX : decX b = decI b := if_pos h
 have hN : decN b = slotsN (idOf b).1 := if_pos h
 have hop : (decX b).op = (idOf b).1 := by rw [hX]; rfl
 rw [hop, hN]
 refine ⟨rfl, ?_⟩
 rcases decE_ok h with ⟨h1, _⟩ | ⟨h1, _⟩
 ·exact .inl (hN.symm.trans h1)
 ·exact .inr (hN.symm.trans h1)
theorem stepsF_off : ∀ (n : Nat) (b : List Int), Byt b → ∀ x ∈ stepsF n b, -1000000 ≤ x.1.off ∧ x.1.off ≤ 1000000 := by
 intro n
 induction n with
 | zero => intro b _ x hx; simp [stepsF] at hx
 | succ n ih =>
  intro b hb x hx
  rw [stepsF_succ] at hx
  split at hx
  ·simp at hx
  ·rw [List.mem_cons] at hx
   rcases hx with rfl | hx
   ·exact decX_off hb
   ·split at hx
    ·exact ih _ (hb.drop _) x hx
    ·simp at hx
theorem stepsF_op : ∀ (n : Nat) (b : List Int), ∀ x ∈ stepsF n b, x.2.2 = 0 → slotsN x.1.op = x.2.1 ∧ (slotsN x.1.op = 1 ∨ slotsN x.1.op = 2) := by
 intro n
 induction n with
 | zero => intro b x hx; simp [stepsF] at hx
 | succ n ih =>
  intro b x hx h0
  rw [stepsF_succ] at hx
  split at hx
  ·simp at hx
  ·rw [List.mem_cons] at hx
   rcases hx with rfl | hx
   ·exact decX_op h0
   ·split at hx
    ·exact ih _ x hx h0
    ·simp at hx
theorem allI_off {b : List Int} (hb : Byt b) : OffOk (allI b) := by
 intro x hx
 unfold allI at hx
 split at hx
 ·obtain ⟨y, hy, rfl⟩ := List.mem_map.1 hx
  exact stepsF_off _ _ hb y hy
 ·simp at hx
theorem allI_len (b : List Int) : (allI b).length ≤ b.length + 1 := by
 unfold allI
 split
 ·rw [List.length_map]; exact stepsN_len b
 ·simp
theorem allS_zero : ∀ (l : List (Ins × Int × Int)) (k : Int), (allS k l).2 = 0 → ∀ x ∈ l, x.2.2 = 0 := by
 intro l
 induction l with
 | nil => intro k _ x hx; simp at hx
 | cons y l ih =>
  intro k h x hx
  rw [allS] at h
  split at h
  ·rename_i h0
   rw [List.mem_cons] at hx
   rcases hx with rfl | hx
   ·exact h0
   ·exact ih _ h x hx
  ·rename_i h0
   exact absurd h h0
/-- Each instruction of the code takes one slot or two. -/
theorem allI_slots (b : List Int) : ∀ x ∈ allI b, slotsN x.op = 1 ∨ slotsN x.op = 2 := by
 intro x hx
 unfold allI at hx
 split at hx
 ·rename_i h
  obtain ⟨y, hy, rfl⟩ := List.mem_map.1 hx
  exact (stepsF_op _ _ y hy (allS_zero _ 0 h y hy)).2
 ·simp at hx
theorem allI_ne {b : List Int} (hb : b ≠ []) (h : allE b = 0) : 0 < (allI b).length := by
 unfold allI
 rw [if_pos h, List.length_map]
 by_cases h0 : decE b = 0
 ·rw [stepsN_ok hb h0]; simp
 ·rw [stepsN_err hb h0]; simp
end Go.Proofs.YtiaddncjghkajaaGreatDoor


set_option linter.unusedVariables false
set_option linter.unusedSimpArgs false
namespace Go.Proofs.YtiaddncjghkajaaGreatDoor
open Go.RowKit

def OneTwo (L : List Ins) : Prop := ∀ x ∈ L, slotsN x.op = 1 ∨ slotsN x.op = 2
theorem st_lt {L : List Ins} (h : OneTwo L) : ∀ j, j ≤ L.length → ∀ i, i < j → slotsT (L.take i) < slotsT (L.take j) := by
 intro j
 induction j with
 | zero => intro _ i hi; omega
 | succ j ih =>
  intro hj i hi
  obtain ⟨x, hx0⟩ : ∃ x, L[j]? = some x := ⟨_, List.getElem?_eq_getElem (by omega)⟩
  rw [slotsT_take hx0]
  have h1 := h x (List.mem_of_getElem? hx0)
  rcases Nat.lt_succ_iff_lt_or_eq.1 hi with h2 | rfl
  ·have := ih (by omega) i h2; omega
  ·omega
theorem st_inj {L : List Ins} (h : OneTwo L) {i j : Nat} (hi : i < L.length) (hj : j < L.length) (he : slotsT (L.take i) = slotsT (L.take j)) : i = j := by
 rcases Nat.lt_trichotomy i j with h1 | h1 | h1
 ·have := st_lt h j (by omega) i h1; omega
 ·exact h1
 ·have := st_lt h i (by omega) j h1; omega
theorem refersN_iff {L : List Ins} (h : OneTwo L) (s : Int) : refersN L s = true ↔ ∃ i, i < L.length ∧ slotsT (L.take i) = s ∧ formN (L.getD i default).op = 11 := by
 constructor
 ·intro hr
  unfold refersN at hr
  rw [Bool.and_eq_true, decide_eq_true_eq, beq_iff_eq] at hr
  have h1 := atN_lt hr.1
  exact ⟨_, h1.1, h1.2, hr.2⟩
 ·rintro ⟨i, hi, hs, hf⟩
  have ha : atN L s = i := atN_hit hi (fun j hj => by have := st_lt h i (by omega) j hj; omega) hs
  unfold refersN
  rw [ha, Int.toNat_natCast, hf]
  simp
theorem lnkA_spec {L : List Ins} (h : OneTwo L) : ∀ (n j : Nat) (p : Int → Bool) (mm : Int), j + n = L.length →
  (∀ s, (lnkA L (List.range' j n) p mm).1 s = true ↔ p s = true ∧ ∀ i, j ≤ i → i < L.length → formN (L.getD i default).op = 11 → slotsT (L.take i) ≠ s) ∧
  (lnkA L (List.range' j n) p mm).2 ≤ mm ∧ (∀ i, j ≤ i → i < L.length → formN (L.getD i default).op = 11 → p (slotsT (L.take i)) = false → (lnkA L (List.range' j n) p mm).2 ≤ slotsT (L.take i)) ∧
  ((lnkA L (List.range' j n) p mm).2 = mm ∨ ∃ i, j ≤ i ∧ i < L.length ∧ formN (L.getD i default).op = 11 ∧ p (slotsT (L.take i)) = false ∧ (lnkA L (List.range' j n) p mm).2 = slotsT (L.take i)) := by
 intro n
 induction n with
 | zero =>
  intro j p mm hj
  refine ⟨fun s => ⟨fun h => ⟨h, fun i h1 h2 => by omega⟩, fun h => h.1⟩, Int.le_refl _, fun i h1 h2 => by omega, .inl rfl⟩
 | succ n ih =>
  intro j p mm hj
  have hstep : lnkA L (List.range' j (n + 1)) p mm = if formN (L.getD j default).op = 11 then (if p (slotsT (L.take j)) then lnkA L (List.range' (j + 1) n) (fun y => if y = slotsT (L.take j) then false else p y) mm else lnkA L (List.range' (j + 1) n) p (min mm (slotsT (L.take j)))) else lnkA L (List.range' (j + 1) n) p mm := by
   rw [List.range'_succ, lnkA]
  by_cases hf : formN (L.getD j default).op = 11
  ·by_cases hp : p (slotsT (L.take j)) = true
   ·rw [if_pos hf, if_pos hp] at hstep
    rw [hstep]
    obtain ⟨i1, i2, i3, i4⟩ := ih (j + 1) (fun y => if y = slotsT (L.take j) then false else p y) mm (by omega)
    refine ⟨fun s => ?_, i2, fun i h1 h2 h3 h4 => ?_, ?_⟩
    ·rw [i1 s]
     constructor
     ·rintro ⟨h1, h2⟩
      by_cases hs : s = slotsT (L.take j)
      ·rw [if_pos hs] at h1; cases h1
      ·rw [if_neg hs] at h1
       refine ⟨h1, fun i h3 h4 h5 => ?_⟩
       rcases Nat.lt_or_ge j i with h6 | h6
       ·exact h2 i h6 h4 h5
       ·obtain rfl : i = j := by omega
        exact fun e => hs e.symm
     ·rintro ⟨h1, h2⟩
      have hs : s ≠ slotsT (L.take j) := fun e => h2 j (Nat.le_refl _) (by omega) hf e.symm
      exact ⟨by rw [if_neg hs]; exact h1, fun i h3 => h2 i (by omega)⟩
    ·rcases Nat.lt_or_ge j i with h6 | h6
     ·exact i3 i h6 h2 h3 (by rw [h4]; simp)
     ·obtain rfl : i = j := by omega
      rw [hp] at h4; cases h4
    ·rcases i4 with h1 | ⟨i, h1, h2, h3, h4, h5⟩
     ·exact .inl h1
     ·refine .inr ⟨i, by omega, h2, h3, ?_, h5⟩
      have hne : slotsT (L.take i) ≠ slotsT (L.take j) := fun e => by have := st_inj h h2 (by omega) e; omega
      rwa [if_neg hne] at h4
   ·rw [if_pos hf, if_neg hp] at hstep
    rw [hstep]
    obtain ⟨i1, i2, i3, i4⟩ := ih (j + 1) p (min mm (slotsT (L.take j))) (by omega)
    refine ⟨fun s => ?_, by omega, fun i h1 h2 h3 h4 => ?_, ?_⟩
    ·rw [i1 s]
     constructor
     ·rintro ⟨h1, h2⟩
      refine ⟨h1, fun i h3 h4 h5 => ?_⟩
      rcases Nat.lt_or_ge j i with h6 | h6
      ·exact h2 i h6 h4 h5
      ·obtain rfl : i = j := by omega
       intro e
       rw [e] at hp
       exact hp h1
     ·rintro ⟨h1, h2⟩
      exact ⟨h1, fun i h3 => h2 i (by omega)⟩
    ·rcases Nat.lt_or_ge j i with h6 | h6
     ·exact i3 i h6 h2 h3 h4
     ·obtain rfl : i = j := by omega
      omega
    ·rcases i4 with h1 | ⟨i, h1, h2, h3, h4, h5⟩
     ·rcases Int.le_total mm (slotsT (L.take j)) with h6 | h6
      ·exact .inl (by omega)
      ·exact .inr ⟨j, Nat.le_refl _, by omega, hf, by simpa using hp, by omega⟩
     ·exact .inr ⟨i, by omega, h2, h3, h4, h5⟩
  ·rw [if_neg hf] at hstep
   rw [hstep]
   obtain ⟨i1, i2, i3, i4⟩ := ih (j + 1) p mm (by omega)
   refine ⟨fun s => ?_, i2, fun i h1 h2 h3 h4 => ?_, ?_⟩
   ·rw [i1 s]
    constructor
    ·rintro ⟨h1, h2⟩
     refine ⟨h1, fun i h3 h4 h5 => ?_⟩
     rcases Nat.lt_or_ge j i with h6 | h6
     ·exact h2 i h6 h4 h5
     ·obtain rfl : i = j := by omega
      exact absurd h5 hf
    ·rintro ⟨h1, h2⟩
     exact ⟨h1, fun i h3 => h2 i (by omega)⟩
   ·rcases Nat.lt_or_ge j i with h6 | h6
    ·exact i3 i h6 h2 h3 h4
    ·obtain rfl : i = j := by omega
     exact absurd h3 hf
   ·rcases i4 with h1 | ⟨i, h1, h2, h3, h4, h5⟩
    ·exact .inl h1
    ·exact .inr ⟨i, by omega, h2, h3, h4, h5⟩
/-- The first slot at which references and relocations differ. -/
def lkN (L : List Ins) (rs : List Rel) (n : Nat) : Option Int := (List.range n).findSome? (fun k => if refersN L (k : Nat) != hasN rs (k : Nat) then some (k : Int) else none)
def lkE (L : List Ins) (rs : List Rel) (n : Nat) : Int := if (lkN L rs n).isSome then 18 else 0
theorem lkN_hit {L : List Ins} {rs : List Rel} {n k : Nat} (hk : k < n) (hn : ∀ j : Nat, j < k → refersN L j = hasN rs j) (h : refersN L k ≠ hasN rs k) : lkN L rs n = some (k : Int) := by
 unfold lkN
 rw [range_first (fun k => if refersN L (k : Nat) != hasN rs (k : Nat) then some (k : Int) else none) n k _ hk (fun j hj => if_neg (by rw [hn j hj]; simp)) (if_pos (by simpa using h))]
theorem lkN_none {L : List Ins} {rs : List Rel} {n : Nat} (hn : ∀ j : Nat, j < n → refersN L j = hasN rs j) : lkN L rs n = none := by
 unfold lkN
 rw [List.findSome?_eq_none_iff]
 intro x hx
 exact if_neg (by rw [hn x (by simpa using hx)]; simp)
theorem hasN_iff {rs : List Rel} {s : Int} : hasN rs s = true ↔ ∃ r ∈ rs, r.slot = s := by
 unfold hasN
 rw [List.any_eq_true]
 simp
theorem links_law {L : List Ins} {rs : List Rel} {N : Nat} {M : Int} (h : OneTwo L) (hst : ∀ i, i < L.length → 8 * slotsT (L.take i) < N) (hN0 : 0 < N) (hN8 : N % 8 = 0) (hrs : relsOk ((N : Int) / 8) M (-1) rs = true) {m' : Int}
  (hl : LeastOf (lnkA L (List.range L.length) (hasN rs) N).1 (lnkA L (List.range L.length) (hasN rs) N).2 m') : lnkR m' N = ((lkN L rs (N / 8)).getD 0, lkE L rs (N / 8)) := by
 obtain ⟨a1, a2, a3, a4⟩ := lnkA_spec h L.length 0 (hasN rs) N (by omega)
 rw [← List.range_eq_range'] at a1 a2 a3 a4
 obtain ⟨l1, l2, l3⟩ := hl
 have hr : ∀ r ∈ rs, -1 < r.slot ∧ r.slot < (N : Int) / 8 := fun r hr => by have := (rels_len _ _ rs (-1) hrs (by omega)).2 r hr; exact ⟨this.1, this.2.1⟩
 have hD1 : ∀ s, refersN L s ≠ hasN rs s → m' ≤ s := by
  intro s hd
  cases hr1 : refersN L s with
  | true =>
   obtain ⟨i, hi, hs, hf⟩ := (refersN_iff h s).1 hr1
   rw [hr1] at hd
   have hh : hasN rs s = false := by cases hz : hasN rs s with
    | true => exact absurd hz.symm hd
    | false => rfl
   have := a3 i (Nat.zero_le _) hi hf (by rw [hs]; exact hh)
   omega
  | false =>
   rw [hr1] at hd
   have hh : hasN rs s = true := by cases hz : hasN rs s with
    | true => rfl
    | false => exact absurd hz.symm hd
   refine l2 s ((a1 s).2 ⟨hh, fun i _ hi hf hs => ?_⟩)
   rw [(refersN_iff h s).2 ⟨i, hi, hs, hf⟩] at hr1
   cases hr1
 have hD2 : m' = N ∨ refersN L m' ≠ hasN rs m' := by
  rcases l3 with h3 | h3
  ·rcases a4 with h4 | ⟨i, -, hi, hf, hp, he⟩
   ·exact .inl (by omega)
   ·refine .inr ?_
    rw [(refersN_iff h m').2 ⟨i, hi, by omega, hf⟩, h3, he, hp]
    simp
  ·obtain ⟨h4, h5⟩ := (a1 m').1 h3
   refine .inr ?_
   rw [h4]
   intro e
   obtain ⟨i, hi, hs, hf⟩ := (refersN_iff h m').1 e
   exact h5 i (Nat.zero_le _) hi hf hs
 have hD3 : ∀ s, refersN L s ≠ hasN rs s → 0 ≤ s ∧ s < (N : Int) / 8 := by
  intro s hd
  cases hr1 : refersN L s with
  | true =>
   obtain ⟨i, hi, hs, hf⟩ := (refersN_iff h s).1 hr1
   have h1 := hst i hi
   have h2 := (slotsT_bd (L.take i)).1
   omega
  | false =>
   rw [hr1] at hd
   have hh : hasN rs s = true := by cases hz : hasN rs s with
    | true => rfl
    | false => exact absurd hz.symm hd
   obtain ⟨r, hr2, rfl⟩ := hasN_iff.1 hh
   have := hr r hr2
   omega
 by_cases hm : m' < (N : Int)
 ·have hd : refersN L m' ≠ hasN rs m' := hD2.resolve_left (by omega)
  have hb := hD3 m' hd
  obtain ⟨k, hk⟩ := Int.eq_ofNat_of_zero_le hb.1
  subst hk
  have hrel : lkN L rs (N / 8) = some (k : Int) := lkN_hit (by omega) (fun j hj => by
   rcases Classical.em (refersN L j = hasN rs j) with h1 | h1
   ·exact h1
   ·have := hD1 j h1; omega) hd
  unfold lnkR lkE
  rw [if_pos hm, hrel]
  rfl
 ·have hrel : lkN L rs (N / 8) = none := lkN_none (fun j hj => by
   rcases Classical.em (refersN L j = hasN rs j) with h1 | h1
   ·exact h1
   ·have := hD1 j h1; omega)
  unfold lnkR lkE
  rw [if_neg hm, hrel]
  rfl
theorem slotsT_cons (x : Ins) (l : List Ins) : slotsT (x :: l) = slotsN x.op + slotsT l := by simp [slotsT]
theorem stepsF_st : ∀ (n : Nat) (b : List Int), (∀ x ∈ stepsF n b, x.2.2 = 0) → ∀ i, i < (stepsF n b).length → 8 * slotsT (((stepsF n b).map (·.1)).take i) < (b.length : Int) := by
 intro n
 induction n with
 | zero => intro b _ i hi; simp [stepsF] at hi
 | succ n ih =>
  intro b h i hi
  rw [stepsF_succ] at h hi ⊢
  split at hi
  ·simp at hi
  ·rename_i hb
   rw [if_neg hb] at h ⊢
   have h0 : decE b = 0 := h (decX b, decN b, decE b) (List.mem_cons_self ..)
   rw [if_pos h0] at h hi ⊢
   have hbl : 0 < b.length := List.length_pos_iff.2 hb
   match i, hi with
   | 0, _ => simp [slotsT]; omega
   | i + 1, hi =>
    have hi2 : i < (stepsF n (b.drop (8 * (decN b).toNat))).length := by simpa using hi
    have h1 := ih (b.drop (8 * (decN b).toNat)) (fun x hx => h x (List.mem_cons_of_mem _ hx)) i hi2
    rw [List.map_cons, List.take_succ_cons, slotsT_cons, (decX_op h0).1]
    have h2 := (slotsT_bd (((stepsF n (b.drop (8 * (decN b).toNat))).map (·.1)).take i)).1
    have h3 : decN b = 1 ∨ decN b = 2 := by have := decX_op h0; rw [this.1] at this; exact this.2
    rw [List.length_drop] at h1
    omega
theorem allI_st {b : List Int} : ∀ i, i < (allI b).length → 8 * slotsT ((allI b).take i) < (b.length : Int) := by
 unfold allI
 split
 ·rename_i h
  intro i hi
  exact stepsF_st _ _ (allS_zero _ 0 h) i (by simpa [stepsN] using hi)
 ·intro i hi; simp at hi
end Go.Proofs.YtiaddncjghkajaaGreatDoor


set_option linter.unusedVariables false
set_option linter.unusedSimpArgs false
namespace Go.Proofs.YtiaddncjghkajaaGreatDoor
open Go.RowKit

theorem put_wraps (y : Int) (h0 : 0 ≤ y) (h1 : y < 18446744073709551616) : Int.tmod y 256 = y % 256 ∧ Int.tdiv y 256 = y / 256 ∧ IntKind.u64.wrap (y / 256) = y / 256 ∧ 0 ≤ y / 256 ∧ y / 256 < 18446744073709551616 ∧ IntKind.u8.wrap (y % 256) = y % 256 := by
 refine ⟨Int.tmod_eq_emod_of_nonneg h0, Int.tdiv_eq_ediv_of_nonneg h0, wrapU _ (by omega) (by omega), by omega, by omega, ?_⟩
 simp [IntKind.wrap, IntKind.signed, IntKind.bits]
set_option maxRecDepth 20000 in
set_option maxHeartbeats 1000000 in
theorem refPut_any (v : Value) (l : List Int) (base n : Nat) (x : Int) (w : World) (hx0 : 0 ≤ x) (hx1 : x < 18446744073709551616) (hn : n ≤ 8) (ho : AppB w base v l) (hB : base ≤ w.heap.size) (hL : l.length ≤ 100000000) :
  Calls Tryz.prog 138 #[v, .int .u64 x, .int .i64 n] w fun e w' => ∃ v' l', e = .returned v' ∧ Hx (l' = l ++ le n x) ∧ Hx (l'.length = l.length + n) ∧ AppB w' base v' l' ∧ (n ≠ 0 → OwnB w' base v' l') ∧ Grew w w' v v' := by
 go_enter Tryz.func138, Tryz.ntmps138
 go_wp2
 go_loopw [0, 1, 7] (fun s y i wr => ∃ (k : Nat) (y' : Int) (l' : List Int), k ≤ n ∧ i = .int .i64 k ∧ y = .int .u64 y' ∧ 0 ≤ y' ∧ y' < 18446744073709551616 ∧ AppB wr base s l' ∧ (k ≠ 0 → OwnB wr base s l') ∧ l' ++ le (n - k) y' = l ++ le n x ∧ l'.length = l.length + k ∧ Grew w wr v s)
  (fun _ _ i _ => n - (RowKit.intOf i).toNat)
 case atStart => exact ⟨0, x, l, by omega, rfl, rfl, hx0, hx1, ho, fun h => absurd rfl h, rfl, rfl, Grew.refl _ _⟩
 case round =>
  obtain ⟨k, y', l', hk, rfl, rfl, hy0, hy1, ho', hok, hle, hl', hG⟩ := hrel
  have HE := hx hle; clear hle
  have HLn := hx hl'; clear hl'
  have hsz := hG.size
  have hl8 : (l'.length + 1) * 1 ≤ 140737488355328 := by have := HLn.out; omega
  have hbs : base ≤ _ := Nat.le_trans hB hsz
  by_cases hlt : k < n
  ·obtain ⟨w1, w2, w3, w4, w5, w6⟩ := put_wraps y' hy0 hy1
   have W4 := hx w4
   have W5 := hx w5
   have HL8 := hx hl8
   have HBS := hx hbs
   clear w4 w5 hsz hl8 hbs hy0 hy1 hx0 hx1
   go_wp2_with (first | (at_builtin; refine wp_appF tyB encB_ok ho' (y' % 256) rfl rfl rfl rfl rfl HBS.out (by decide) HL8.out ?_; intro g cap w1 ho1 hg1 hat1 hbg1))
   have hG1 := hG.trans (Grew.mk1 (n := l'.length + 1) (cap := cap) hg1 hat1)
   clear ho' hG hg1 hok
   go_wp2
   go_roundw
   case rel => exact ⟨k + 1, y' / 256, l' ++ [y' % 256], hlt, by simp, rfl, W4.out, W5.out, .inl ho1, fun _ => ho1, by
    have := HE.out; rw [show n - k = (n - (k + 1)) + 1 by omega, le] at this; simpa using this, by simp [HLn.out, Nat.add_assoc], hG1⟩
   case measure => simp [RowKit.intOf]; omega
  ·obtain rfl : k = n := by omega
   obtain ⟨A, c, rfl⟩ := ho'.slice
   clear hl8 hbs hsz hy0 hy1 hx0 hx1
   go_wp2
   go_ret
   have h : l' = l ++ le k x := by have := HE.out; simpa [le] using this
   exact ⟨_, l', rfl, ⟨h⟩, ⟨by rw [h]; simp [le_length]⟩, ho', hok, hG⟩
end Go.Proofs.YtiaddncjghkajaaGreatDoor


set_option linter.unusedVariables false
set_option linter.unusedSimpArgs false
namespace Go.Proofs.YtiaddncjghkajaaGreatDoor
open Go.RowKit

/-- An instruction of one slot whose numbers need no care. -/
structure EncOne (x : Ins) : Prop where
 ok : x.Ok
 slots : slotsN x.op = 1
 dst : 0 ≤ x.dst ∧ x.dst ≤ 10
 src : 0 ≤ x.src ∧ x.src ≤ 10
 off : 0 ≤ x.off ∧ x.off ≤ 1000
 imm : 0 ≤ x.imm ∧ x.imm ≤ 1000
def encR1 (x : Ins) : List Int := [(codeN x.op x.reg).1, (16 * ((fixN x.op).1 + x.src) + x.dst) % 256] ++ le 2 ((fixN x.op).2.1 + x.off) ++ le 4 ((fixN x.op).2.2 + x.imm)
set_option maxRecDepth 40000 in
set_option maxHeartbeats 4000000 in
theorem refEnc_one (x : Ins) (w : World) (h : EncOne x) :
  Calls Tryz.prog 104 #[x.v] w fun e w' => ∃ v', e = .returned v' ∧ OwnB w' w.heap.size v' (encR1 x) ∧ Ext w w' := by
 have e0 := Ext.new w (.cells #[.int .i64 x.op, .bool x.reg, .int .i64 x.dst, .int .i64 x.src, .int .i64 x.off, .int .i64 x.imm] 69)
 have r0 := RowV.new w [.int .i64 x.op, .bool x.reg, .int .i64 x.dst, .int .i64 x.src, .int .i64 x.off, .int .i64 x.imm] 69
 have HC := hx fun W => refCode_any x.op x.reg W h.ok.op
 have HF := hx fun W => refFixed_any x.op W h.ok.op
 have hSL := fun W => ref04Slots_any x.op W h.ok.op
 rw [h.slots] at hSL
 have HSL := hx hSL
 have hf := fixN_bd x.op
 obtain ⟨-, -, hd, hs, ho, hi⟩ := h
 have hen : encR1 x = [(codeN x.op x.reg).1, (16 * ((fixN x.op).1 + x.src) + x.dst) % 256] ++ le 2 ((fixN x.op).2.1 + x.off) ++ le 4 ((fixN x.op).2.2 + x.imm) := rfl
 rw [hen]
 unfold Ins.v
 obtain ⟨op, reg, n1, n2, n3, n4⟩ := x
 dsimp only at *
 generalize (codeN op reg).1 = CD at *
 generalize (codeN op reg).2 = CB at *
 generalize (fixN op).1 = f1 at *
 generalize (fixN op).2.1 = f2 at *
 generalize (fixN op).2.2 = f3 at *
 have a1 : wrap64 (f1 + n2) = f1 + n2 := wrapI _ (by omega) (by omega)
 have a2 : wrap64 (16 * (f1 + n2)) = 16 * (f1 + n2) := wrapI _ (by omega) (by omega)
 have a3 : wrap64 (16 * (f1 + n2) + n1) = 16 * (f1 + n2) + n1 := wrapI _ (by omega) (by omega)
 have a4 : wrap64 (f2 + n3) = f2 + n3 := wrapI _ (by omega) (by omega)
 have a5 : IntKind.u64.wrap (f2 + n3) = f2 + n3 := wrapU _ (by omega) (by omega)
 have a6 : IntKind.u64.wrap f3 = f3 := wrapU _ (by omega) (by omega)
 have a7 : IntKind.u64.wrap n4 = n4 := wrapU _ (by omega) (by omega)
 have a8 : IntKind.u64.wrap (f3 + n4) = f3 + n4 := wrapU _ (by omega) (by omega)
 have b1 := hx (show 0 ≤ f2 + n3 ∧ f2 + n3 < 100000 by omega)
 have b2 := hx (show 0 ≤ f3 + n4 ∧ f3 + n4 < 100000 by omega)
 have E0 := hx e0
 have R0 := hx r0
 clear hen hSL hf hd hs ho hi e0 r0
 go_enter Tryz.func104, Tryz.ntmps104
 go_wp2_with fail
 refine (HC.out _).mono ?_
 rintro e w1 ⟨rfl, e1⟩
 have r1 := R0.out.ext e1
 have k0 := r1.cell (i := 0) rfl
 go_wp2_with fail
 refine (HF.out _).mono ?_
 rintro e w2 ⟨rfl, e2⟩
 clear k0
 have r2 := r1.ext e2
 have k0 := r2.cell (i := 0) rfl
 have k2 := r2.cell (i := 2) rfl
 have k3 := r2.cell (i := 3) rfl
 have k4 := r2.cell (i := 4) rfl
 have k5 := r2.cell (i := 5) rfl
 have E2 := hx (E0.out.trans (e1.trans e2))
 clear r1 e1 e2
 go_upto_region 4 with fail
 generalize hV : (16 * (f1 + n2) + n1) % 256 = V at *
 have HV := hx hV
 clear hV
 have hs2 : w.heap.size + 1 ≤ w2.heap.size := by have := r2.lt; omega
 obtain ⟨W3, hW3⟩ : ∃ W3, W3 = w2.alloc (.cells #[.int .u8 CD, .int .u8 V] 5) := ⟨_, rfl⟩
 have r3 := r2.ext (Ext.new w2 (.cells #[.int .u8 CD, .int .u8 V] 5))
 have e3 := E2.out.trans (Ext.new w2 (.cells #[.int .u8 CD, .int .u8 V] 5))
 have hs3 : W3.heap.size = w2.heap.size + 1 := by rw [hW3]; simp
 have o3 : AppB W3 (w.heap.size + 1) (.slice (some ⟨w2.heap.size, 0, none⟩) 2 2) [CD, V] := .inr ⟨_, rfl, (fun h => by cases h), (fun b hb j u hu => by
  cases hb
  have h := World.news_of_block (w := W3) (B := w2.heap.size) (cs := ([CD, V].map (Value.int .u8)).toArray) (t := 5) (fr := (0, 0)) (by rw [hW3]; exact heap_alloc_new w2 _) j u (by simpa using hu)
  exact h), fun k hk => by simp [Value.ownBlock] at hk; omega⟩
 rw [← hW3] at r3 e3 ⊢
 clear hW3 k0 k2 k3 k4 k5 r2
 have k4 := r3.cell (i := 4) rfl
 have B1 := b1.out
 go_wp2_with fail
 refine (refPut_any _ _ (w.heap.size + 1) 2 (f2 + n3) _ B1.1 (by omega) (by omega) o3 (by omega) (by simp)).mono ?_
 rintro e w4 ⟨v4, l4, rfl, hl4, hn4, -, own4, g4⟩
 replace own4 := own4 (by decide)
 have r4 := r3.keep g4.1 (by simp [Value.ownBlock]; omega)
 have e4 := e3.grown g4.1 (fun k hk => by simp [Value.ownBlock] at hk; omega)
 have hs4 := g4.size
 clear k4 o3 g4 r3 e3
 have k5 := r4.cell (i := 5) rfl
 have B2 := b2.out
 obtain ⟨A4, c4, rfl⟩ := own4.slice
 go_wp2_with fail
 refine (refPut_any _ _ (w.heap.size + 1) 4 (f3 + n4) _ B2.1 (by omega) (by omega) (.inl own4) (by omega) (by have := hn4.out; simp at this; omega)).mono ?_
 rintro e w5 ⟨v5, l5, rfl, hl5, hn5, -, own5, g5⟩
 replace own5 := own5 (by decide)
 have r5 := r4.keep g5.1 (fun e => by have := own4.base_le _ e.symm; omega)
 have e5 := e4.grown g5.1 (fun k hk => by have := own4.base_le k hk; omega)
 clear k5 own4 g5 r4 e4 B1 B2
 have k0 := r5.cell (i := 0) rfl
 obtain ⟨A5, c5, rfl⟩ := own5.slice
 go_wp2_with fail
 refine (HSL.out _).mono ?_
 rintro e w6 ⟨rfl, rfl⟩
 go_wp2
 go_ret
 have hlA : [CD, V] ++ le 2 (f2 + n3) ++ le 4 (f3 + n4) = l5 := by rw [hl5.out, hl4.out]
 have hlB : [CD, (16 * (f1 + n2) + n1) % 256] ++ le 2 (f2 + n3) ++ le 4 (f3 + n4) = l5 := by rw [HV.out]; exact hlA
 refine ⟨.slice A5 l5.length c5, rfl, ?_, e5⟩
 have hlC : (CD :: (16 * (f1 + n2) + n1) % 256 :: (le 2 (f2 + n3) ++ le 4 (f3 + n4))) = l5 := by rw [← hlB]; simp
 first | rw [hlC] | rw [hlA] | rw [hlB]
 exact ownsRow_base own5 (by omega)
end Go.Proofs.YtiaddncjghkajaaGreatDoor


set_option linter.unusedVariables false
set_option linter.unusedSimpArgs false
namespace Go.Proofs.YtiaddncjghkajaaGreatDoor
open Go.RowKit

/-- An instruction of two slots whose numbers need no care. -/
structure EncTwo (x : Ins) : Prop where
 ok : x.Ok
 slots : slotsN x.op = 2
 dst : 0 ≤ x.dst ∧ x.dst ≤ 10
 src : 0 ≤ x.src ∧ x.src ≤ 10
 off : 0 ≤ x.off ∧ x.off ≤ 1000
 imm : 0 ≤ x.imm ∧ x.imm ≤ 1000
def encR2 (x : Ins) : List Int := (encR1 x ++ le 4 0) ++ le 4 0
set_option maxRecDepth 40000 in
set_option maxHeartbeats 4000000 in
theorem refEnc_two (x : Ins) (w : World) (h : EncTwo x) :
  Calls Tryz.prog 104 #[x.v] w fun e w' => ∃ v', e = .returned v' ∧ OwnB w' w.heap.size v' (encR2 x) ∧ Ext w w' := by
 have e0 := Ext.new w (.cells #[.int .i64 x.op, .bool x.reg, .int .i64 x.dst, .int .i64 x.src, .int .i64 x.off, .int .i64 x.imm] 69)
 have r0 := RowV.new w [.int .i64 x.op, .bool x.reg, .int .i64 x.dst, .int .i64 x.src, .int .i64 x.off, .int .i64 x.imm] 69
 have HC := hx fun W => refCode_any x.op x.reg W h.ok.op
 have HF := hx fun W => refFixed_any x.op W h.ok.op
 have hSL := fun W => ref04Slots_any x.op W h.ok.op
 rw [h.slots] at hSL
 have HSL := hx hSL
 have hf := fixN_bd x.op
 obtain ⟨-, -, hd, hs, ho, hi⟩ := h
 have hen : encR2 x = ((([(codeN x.op x.reg).1, (16 * ((fixN x.op).1 + x.src) + x.dst) % 256] ++ le 2 ((fixN x.op).2.1 + x.off)) ++ le 4 ((fixN x.op).2.2 + x.imm)) ++ le 4 0) ++ le 4 0 := rfl
 rw [hen]
 unfold Ins.v
 obtain ⟨op, reg, n1, n2, n3, n4⟩ := x
 dsimp only at *
 generalize (codeN op reg).1 = CD at *
 generalize (codeN op reg).2 = CB at *
 generalize (fixN op).1 = f1 at *
 generalize (fixN op).2.1 = f2 at *
 generalize (fixN op).2.2 = f3 at *
 have a1 : wrap64 (f1 + n2) = f1 + n2 := wrapI _ (by omega) (by omega)
 have a2 : wrap64 (16 * (f1 + n2)) = 16 * (f1 + n2) := wrapI _ (by omega) (by omega)
 have a3 : wrap64 (16 * (f1 + n2) + n1) = 16 * (f1 + n2) + n1 := wrapI _ (by omega) (by omega)
 have a4 : wrap64 (f2 + n3) = f2 + n3 := wrapI _ (by omega) (by omega)
 have a5 : IntKind.u64.wrap (f2 + n3) = f2 + n3 := wrapU _ (by omega) (by omega)
 have a6 : IntKind.u64.wrap f3 = f3 := wrapU _ (by omega) (by omega)
 have a7 : IntKind.u64.wrap n4 = n4 := wrapU _ (by omega) (by omega)
 have a9 : Int.tdiv n4 4294967296 = 0 := by rw [Int.tdiv_eq_ediv_of_nonneg (by omega)]; omega
 have a10 : IntKind.u64.wrap 0 = 0 := wrapU _ (by omega) (by omega)
 have a8 : IntKind.u64.wrap (f3 + n4) = f3 + n4 := wrapU _ (by omega) (by omega)
 have b1 := hx (show 0 ≤ f2 + n3 ∧ f2 + n3 < 100000 by omega)
 have b2 := hx (show 0 ≤ f3 + n4 ∧ f3 + n4 < 100000 by omega)
 have E0 := hx e0
 have R0 := hx r0
 clear hen hSL hf hd hs ho hi e0 r0
 go_enter Tryz.func104, Tryz.ntmps104
 go_wp2_with fail
 refine (HC.out _).mono ?_
 rintro e w1 ⟨rfl, e1⟩
 have r1 := R0.out.ext e1
 have k0 := r1.cell (i := 0) rfl
 go_wp2_with fail
 refine (HF.out _).mono ?_
 rintro e w2 ⟨rfl, e2⟩
 clear k0
 have r2 := r1.ext e2
 have k0 := r2.cell (i := 0) rfl
 have k2 := r2.cell (i := 2) rfl
 have k3 := r2.cell (i := 3) rfl
 have k4 := r2.cell (i := 4) rfl
 have k5 := r2.cell (i := 5) rfl
 have E2 := hx (E0.out.trans (e1.trans e2))
 clear r1 e1 e2
 go_upto_region 4 with fail
 generalize hV : (16 * (f1 + n2) + n1) % 256 = V at *
 have HV := hx hV
 clear hV
 have hs2 : w.heap.size + 1 ≤ w2.heap.size := by have := r2.lt; omega
 obtain ⟨W3, hW3⟩ : ∃ W3, W3 = w2.alloc (.cells #[.int .u8 CD, .int .u8 V] 5) := ⟨_, rfl⟩
 have r3 := r2.ext (Ext.new w2 (.cells #[.int .u8 CD, .int .u8 V] 5))
 have e3 := E2.out.trans (Ext.new w2 (.cells #[.int .u8 CD, .int .u8 V] 5))
 have hs3 : W3.heap.size = w2.heap.size + 1 := by rw [hW3]; simp
 have o3 : AppB W3 (w.heap.size + 1) (.slice (some ⟨w2.heap.size, 0, none⟩) 2 2) [CD, V] := .inr ⟨_, rfl, (fun h => by cases h), (fun b hb j u hu => by
  cases hb
  have h := World.news_of_block (w := W3) (B := w2.heap.size) (cs := ([CD, V].map (Value.int .u8)).toArray) (t := 5) (fr := (0, 0)) (by rw [hW3]; exact heap_alloc_new w2 _) j u (by simpa using hu)
  exact h), fun k hk => by simp [Value.ownBlock] at hk; omega⟩
 rw [← hW3] at r3 e3 ⊢
 clear hW3 k0 k2 k3 k4 k5 r2
 have k4 := r3.cell (i := 4) rfl
 have B1 := b1.out
 go_wp2_with fail
 refine (refPut_any _ _ (w.heap.size + 1) 2 (f2 + n3) _ B1.1 (by omega) (by omega) o3 (by omega) (by simp)).mono ?_
 rintro e w4 ⟨v4, l4, rfl, hl4, hn4, -, own4, g4⟩
 replace own4 := own4 (by decide)
 have r4 := r3.keep g4.1 (by simp [Value.ownBlock]; omega)
 have e4 := e3.grown g4.1 (fun k hk => by simp [Value.ownBlock] at hk; omega)
 have hs4 := g4.size
 clear k4 o3 g4 r3 e3
 have k5 := r4.cell (i := 5) rfl
 have B2 := b2.out
 obtain ⟨A4, c4, rfl⟩ := own4.slice
 go_wp2_with fail
 refine (refPut_any _ _ (w.heap.size + 1) 4 (f3 + n4) _ B2.1 (by omega) (by omega) (.inl own4) (by omega) (by have := hn4.out; simp at this; omega)).mono ?_
 rintro e w5 ⟨v5, l5, rfl, hl5, hn5, -, own5, g5⟩
 replace own5 := own5 (by decide)
 have r5 := r4.keep g5.1 (fun e => by have := own4.base_le _ e.symm; omega)
 have e5 := e4.grown g5.1 (fun k hk => by have := own4.base_le k hk; omega)
 clear k5 own4 g5 r4 e4 B1 B2
 have k0 := r5.cell (i := 0) rfl
 have k5 := r5.cell (i := 5) rfl
 obtain ⟨A5, c5, rfl⟩ := own5.slice
 have hll5 : l5.length = 8 := by have h1 := hn5.out; have h2 := hn4.out; simp at h2; omega
 have HL5 := hx hll5
 clear hll5
 go_wp2_with fail
 refine (HSL.out _).mono ?_
 rintro e w6 ⟨rfl, rfl⟩
 go_wp2_with fail
 refine (refPut_any _ _ (w.heap.size + 1) 4 0 _ (by omega) (by omega) (by omega) (.inl own5) (by have := r5.lt; omega) (by rw [HL5.out]; omega)).mono ?_
 rintro e w7 ⟨v7, l7, rfl, hl7, hn7, -, own7, g7⟩
 replace own7 := own7 (by decide)
 have r7 := r5.keep g7.1 (fun e => by have := own5.base_le _ e.symm; omega)
 have e7 := e5.grown g7.1 (fun k hk => by have := own5.base_le k hk; omega)
 clear k0 k5
 have k5 := r7.cell (i := 5) rfl
 obtain ⟨A7, c7, rfl⟩ := own7.slice
 go_wp2_with fail
 refine (refPut_any _ _ (w.heap.size + 1) 4 0 _ (by omega) (by omega) (by omega) (.inl own7) (by have := r7.lt; omega) (by rw [hn7.out, HL5.out]; omega)).mono ?_
 rintro e w8 ⟨v8, l8, rfl, hl8, hn8, -, own8, g8⟩
 replace own8 := own8 (by decide)
 have e8 := e7.grown g8.1 (fun k hk => by have := own7.base_le k hk; omega)
 obtain ⟨A8, c8, rfl⟩ := own8.slice
 clear k5
 go_wp2
 go_ret
 have hlA : ((([CD, V] ++ le 2 (f2 + n3)) ++ le 4 (f3 + n4)) ++ le 4 0) ++ le 4 0 = l8 := by rw [hl8.out, hl7.out, hl5.out, hl4.out]
 have hlB : ((([CD, (16 * (f1 + n2) + n1) % 256] ++ le 2 (f2 + n3)) ++ le 4 (f3 + n4)) ++ le 4 0) ++ le 4 0 = l8 := by rw [HV.out]; exact hlA
 refine ⟨.slice A8 l8.length c8, rfl, ?_, e8⟩
 first | rw [hlB] | rw [hlA] | (simp only [List.append_assoc, List.cons_append, List.nil_append] at hlB ⊢; rw [hlB])
 exact ownsRow_base own8 (by omega)
/-- An instruction whose numbers need no care. -/
structure EncSm (x : Ins) : Prop where
 ok : x.Ok
 slots : slotsN x.op = 1 ∨ slotsN x.op = 2
 dst : 0 ≤ x.dst ∧ x.dst ≤ 10
 src : 0 ≤ x.src ∧ x.src ≤ 10
 off : 0 ≤ x.off ∧ x.off ≤ 1000
 imm : 0 ≤ x.imm ∧ x.imm ≤ 1000
def encX (x : Ins) : List Int := if slotsN x.op = 2 then encR2 x else encR1 x
theorem encX_length (x : Ins) : (encX x).length = 8 ∨ (encX x).length = 16 := by
 unfold encX
 split
 ·right; simp [encR2, encR1, le_length]
 ·left; simp [encR1, le_length]
theorem encXs_length (l : List Ins) : (l.flatMap encX).length ≤ 16 * l.length := by
 induction l with
 | nil => exact Nat.le_refl _
 | cons x l ih => rw [List.flatMap_cons, List.length_append, List.length_cons]; have := encX_length x; omega
theorem refEnc_any (x : Ins) (w : World) (h : EncSm x) :
  Calls Tryz.prog 104 #[x.v] w fun e w' => ∃ v', e = .returned v' ∧ OwnB w' w.heap.size v' (encX x) ∧ Ext w w' := by
 unfold encX
 rcases h.slots with h1 | h1
 ·rw [if_neg (by omega)]
  exact refEnc_one x w ⟨h.ok, h1, h.dst, h.src, h.off, h.imm⟩
 ·rw [if_pos h1]
  exact refEnc_two x w ⟨h.ok, h1, h.dst, h.src, h.off, h.imm⟩
end Go.Proofs.YtiaddncjghkajaaGreatDoor
