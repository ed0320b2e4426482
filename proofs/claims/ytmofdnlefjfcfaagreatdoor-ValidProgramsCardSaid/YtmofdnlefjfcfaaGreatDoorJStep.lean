/- The layer slot: the steps of bytes, as a plain list; the iterator of the program. -/
import Derived.Test.YtmofdnlefjfcfaaGreatDoorJRefChkE
import Derived.Test.YtmofdnlefjfcfaaGreatDoorJRowsI
import Derived.Test.YtmofdnlefjfcfaaGreatDoorJTabK
import Derived.StillTailTactics
set_option linter.unusedVariables false
set_option linter.unusedSimpArgs false
namespace Go.Proofs.YtmofdnlefjfcfaaGreatDoor
open Go.RowKit Go.Lib Go.Shelf Go.Proofs
attribute [local go_sem] Oper.semAt_some

theorem slots_ok {n : Int} (h0 : 0 ≤ n) (h1 : n < 86) : slotsN n = 1 ∨ slotsN n = 2 := by
 obtain ⟨k, rfl⟩ := Int.eq_ofNat_of_zero_le h0
 have h : ∀ k : Fin 86, slotsN (k.val : Nat) = 1 ∨ slotsN (k.val : Nat) = 2 := by decide +kernel
 exact h ⟨k, by omega⟩
theorem decE_ok {b : List Int} (h : decE b = 0) : (decN b = 1 ∧ 8 ≤ b.length) ∨ (decN b = 2 ∧ 16 ≤ b.length) := by
 have hN : decN b = slotsN (idOf b).1 := if_pos h
 have hs := slots_ok (idR_op (b.getD 0 0) (b.getD 1 0 / 16) (sext 16 (lval (subL b 2 2))) (sext 32 (lval (subL b 4 4)))).1 (idR_op (b.getD 0 0) (b.getD 1 0 / 16) (sext 16 (lval (subL b 2 2))) (sext 32 (lval (subL b 4 4)))).2
 have hs' : slotsN (idOf b).1 = 1 ∨ slotsN (idOf b).1 = 2 := hs
 unfold decE at h
 split at h
 ·cases h
 ·rename_i h8
  split at h
  ·cases h
  ·split at h
   ·cases h
   ·rename_i h16
    rcases hs' with h1 | h2
    ·exact .inl ⟨by rw [hN, h1], by omega⟩
    ·exact .inr ⟨by rw [hN, h2], by
      have : ¬ b.length < 16 := fun hl => h16 ⟨h2, hl⟩
      omega⟩
def stepsF : Nat → List Int → List (Ins × Int × Int)
 | 0, _ => []
 | n + 1, b => if b = [] then [] else (decX b, decN b, decE b) :: (if decE b = 0 then stepsF n (b.drop (8 * (decN b).toNat)) else [])
theorem stepsF_succ (n : Nat) (b : List Int) : stepsF (n + 1) b = if b = [] then [] else (decX b, decN b, decE b) :: (if decE b = 0 then stepsF n (b.drop (8 * (decN b).toNat)) else []) := rfl
theorem stepsF_fuel : ∀ (n m : Nat) (b : List Int), b.length ≤ n → b.length ≤ m → stepsF (n + 1) b = stepsF (m + 1) b := by
 intro n
 induction n with
 | zero =>
  intro m b hn hm
  have : b = [] := List.eq_nil_of_length_eq_zero (by omega)
  subst this
  simp [stepsF]
 | succ n ih =>
  intro m b hn hm
  rw [stepsF_succ (n + 1) b, stepsF_succ m b]
  by_cases hb : b = []
  ·rw [if_pos hb, if_pos hb]
  ·rw [if_neg hb, if_neg hb]
   by_cases h0 : decE b = 0
   ·rw [if_pos h0, if_pos h0]
    have hd := decE_ok h0
    cases m with
    | zero => exact absurd (List.eq_nil_of_length_eq_zero (by omega)) hb
    | succ m =>
     rw [ih m]
     ·rw [List.length_drop]; rcases hd with ⟨h, hl⟩ | ⟨h, hl⟩ <;> rw [h] <;> simp <;> omega
     ·rw [List.length_drop]; rcases hd with ⟨h, hl⟩ | ⟨h, hl⟩ <;> rw [h] <;> simp <;> omega
   ·rw [if_neg h0, if_neg h0]
/-- What the iterator yields. -/
def stepsN (b : List Int) : List (Ins × Int × Int) := stepsF (b.length + 1) b
theorem stepsN_nil : stepsN [] = [] := rfl
theorem stepsN_err {b : List Int} (hb : b ≠ []) (h : decE b ≠ 0) : stepsN b = [(decX b, decN b, decE b)] := by
 unfold stepsN; rw [stepsF_succ, if_neg hb, if_neg h]
theorem stepsN_ok {b : List Int} (hb : b ≠ []) (h : decE b = 0) : stepsN b = (decX b, decN b, decE b) :: stepsN (b.drop (8 * (decN b).toNat)) := by
 unfold stepsN
 rw [stepsF_succ, if_neg hb, if_pos h]
 have hd := decE_ok h
 have hl : (b.drop (8 * (decN b).toNat)).length ≤ b.length - 1 := by
  rw [List.length_drop]; rcases hd with ⟨h, hl⟩ | ⟨h, hl⟩ <;> rw [h] <;> simp <;> omega
 have hb1 : b.length = (b.length - 1) + 1 := by
  have : b.length ≠ 0 := fun e => hb (List.eq_nil_of_length_eq_zero e)
  omega
 rw [hb1]
 rw [stepsF_fuel (b.length - 1) _ _ hl (Nat.le_refl _)]
def encSt (x : Ins × Int × Int) : Array Value := #[.agg #[.int .i64 x.1.op, .bool x.1.reg, .int .i64 x.1.dst, .int .i64 x.1.src, .int .i64 x.1.off, .int .i64 x.1.imm, .int .i64 x.2.1, .int .i64 x.2.2]]
def lenB (B : Nat) (W : World) : Nat := match W.cell? ⟨B, 0, none⟩ with | some (.slice _ n _) => n | _ => 0
theorem lenB_of {B : Nat} {W : World} {t : TypeId} {A : Option Addr} {n c : Nat} (h : Boxed W B t (.slice A n c)) : lenB B W = n := by unfold lenB; rw [h.cell]
theorem ops_below {n₀ : Nat} {w W : World} (h : OpsN w) (hb : Below n₀ w W) (hn : w.heap.size ≤ n₀) : OpsN W :=
 have go : ∀ {a : Addr} {v : Value}, w.cell? a = some v → W.cell? a = some v := fun hc => (Below.cell hb (Nat.lt_of_lt_of_le (World.block_lt_of_cell? w _ hc) hn)).trans hc
 ⟨go h.k0, go h.k1, go h.k2, go h.k3, go h.k4, go h.k5, go h.k6⟩
theorem wid_below {n₀ : Nat} {w W : World} (h : WidN w) (hb : Below n₀ w W) (hn : w.heap.size ≤ n₀) : WidN W :=
 have go : ∀ {a : Addr} {v : Value}, w.cell? a = some v → W.cell? a = some v := fun hc => (Below.cell hb (Nat.lt_of_lt_of_le (World.block_lt_of_cell? w _ hc) hn)).trans hc
 ⟨go h.k0, go h.k1, go h.k2, go h.k3⟩
theorem Boxed.ext' {w W : World} {B : Nat} {t : TypeId} {v : Value} (h : Boxed w B t v) (he : Ext w W) : Boxed W B t v := he.obj h
theorem Byt.drop {b : List Int} (h : Byt b) (k : Nat) : Byt (b.drop k) := fun x hx => h x (List.mem_of_mem_drop hx)
theorem decX_ok {b : List Int} (hb : Byt b) : (decX b).Ok := by
 unfold decX
 split
 ·have h2 := sext16_bd (subL2_bd hb 2).1 (subL2_bd hb 2).2
  have h4 := sext32_bd (subL_bd hb 4 (m := 4) (by omega)).1 (subL_bd hb 4 (m := 4) (by omega)).2
  have ho := idR_op (b.getD 0 0) (b.getD 1 0 / 16) (sext 16 (lval (subL b 2 2))) (sext 32 (lval (subL b 4 4)))
  have ho' : 0 ≤ (idOf b).1 ∧ (idOf b).1 < 86 := ho
  have hf := fixN_bd (idOf b).1
  have hy : 0 ≤ b.getD 1 0 ∧ b.getD 1 0 < 256 := by
   rw [List.getD_eq_getElem?_getD]
   cases h : b[1]? with
   | none => exact ⟨by decide, by decide⟩
   | some y => exact hb y (List.mem_of_getElem? h)
  have hw := wrap_i64_bd (lval (subL b 12 4) * 4294967296 + lval (subL b 4 4))
  unfold decI
  generalize (idOf b).1 = op at *
  generalize wrap64 (lval (subL b 12 4) * 4294967296 + lval (subL b 4 4)) = z at *
  generalize sext 32 (lval (subL b 4 4)) = IM at *
  generalize sext 16 (lval (subL b 2 2)) = OF at *
  constructor <;> dsimp only
  ·unfold I64; omega
  ·unfold I64; omega
  ·unfold I64; omega
  ·unfold I64; omega
  ·split
   ·exact hw
   ·unfold I64; omega
 ·constructor <;> unfold I64 insZ <;> dsimp only <;> omega
theorem stepsF_bd : ∀ (n : Nat) (b : List Int), Byt b → ∀ x ∈ stepsF n b, x.1.Ok ∧ 0 ≤ x.2.1 ∧ x.2.1 ≤ 2 := by
 intro n
 induction n with
 | zero => intro b _ x hx; simp [stepsF] at hx
 | succ n ih =>
  intro b hb x hx
  rw [stepsF_succ] at hx
  split at hx
  ·simp at hx
  ·rw [List.mem_cons] at hx
   rcases hx with rfl | hx
   ·refine ⟨decX_ok hb, ?_⟩
    dsimp only
    by_cases h : decE b = 0
    ·rcases decE_ok h with ⟨h1, _⟩ | ⟨h1, _⟩ <;> rw [h1] <;> decide
    ·unfold decN; rw [if_neg h]; decide
   ·split at hx
    ·exact ih _ (hb.drop _) x hx
    ·simp at hx
theorem stepsN_bd {b : List Int} (hb : Byt b) : ∀ x ∈ stepsN b, x.1.Ok ∧ 0 ≤ x.2.1 ∧ x.2.1 ≤ 2 := stepsF_bd _ _ hb
theorem stepsF_len : ∀ (n : Nat) (b : List Int), (stepsF n b).length ≤ n := by
 intro n
 induction n with
 | zero => intro b; simp [stepsF]
 | succ n ih =>
  intro b
  rw [stepsF_succ]
  split
  ·simp
  ·rw [List.length_cons]
   split
   ·have := ih (b.drop (8 * (decN b).toNat)); omega
   ·simp
theorem stepsN_len (b : List Int) : (stepsN b).length ≤ b.length + 1 := stepsF_len _ _
set_option maxRecDepth 100000 in
set_option maxHeartbeats 4000000 in
theorem steps1_in (n : Nat) (hn : 2 ≤ n) (l B n₀ : Nat) (v : Value) (b : List Int) (hbl : b.length ≤ 1000000) (J Jx : List (Ins × Int × Int) → World → Prop)
  (hY : ∀ pre x W, J pre W → pre ++ [x] <+: stepsN b → YieldAt Fence.wide (n - 1) Tryz.prog l (encSt x) W fun e W' =>
   (e = .returned (.bool true) ∧ J (pre ++ [x]) W' ∧ KpT n₀ B W W') ∨ (e = .returned (.bool false) ∧ Jx (pre ++ [x]) W'))
  (hJ : MovesB B J) (W : World) (hB : Boxed W B 28 v) (w0 : World) (hv : IsB w0 v b) (hw0 : w0.heap.size = n₀) (hnB : n₀ ≤ B) (hW0 : Below n₀ w0 W) (hO : OpsN w0) (hWd : WidN w0) (h0 : J [] W) :
  CallsIn Fence.wide n Tryz.prog 138 #[.func (.yield l) #[] #[], .pointer (some ⟨B, 0, none⟩)] W fun e W' => (∃ v, e = .returned v) ∧
   ((∃ ys, ys = stepsN b ∧ J ys W') ∨ (∃ pre, pre <+: stepsN b ∧ Jx pre W')) := by
 obtain ⟨A, c, rfl, hc, -, hv'⟩ := hv.form
 refine callsIn_of_wp Tryz.func138 rfl trivial ?_ rfl
 simp only [Tryz.ntmps138, List.size_toArray, List.length_cons, List.length_nil, Nat.reduceAdd, Nat.reduceSub, Array.replicate_succ, Array.replicate_zero, List.push_toArray, List.append_toArray, List.nil_append, List.cons_append]
 have h1n : 1 ≤ n := by omega
 gi_wp2
 gi_loopw [4] (fun _ wr => ∃ (pre : List (Ins × Int × Int)) (rest : List Int) (A' : Option Addr) (m c' : Nat), rest.length = m ∧ m ≤ b.length ∧ stepsN b = pre ++ stepsN rest ∧ J pre wr ∧ Boxed wr B 28 (.slice A' m c') ∧ IsB w0 (.slice A' m c') rest ∧ Below n₀ w0 wr)
  (fun _ wr => lenB B wr)
 case atStart => exact ⟨[], b, A, _, c, rfl, Nat.le_refl _, by simp, h0, hB, hv', hW0⟩
 case round =>
  obtain ⟨pre, rest, A', m, c', hm, hmb, hi, hJ1, hBx, hIs, hbe⟩ := hrel
  have HI := hx hi
  have hcell := hBx.cell
  have HBL := hx hbl
  clear hi
  cases hrest : rest with
  | nil =>
   rw [hrest] at hm
   obtain rfl : m = 0 := hm.symm
   rw [hrest, stepsN_nil, List.append_nil] at HI
   clear hrest
   gi_wp2
   go_end0
   exact ⟨⟨_, rfl⟩, .inl ⟨_, HI.out.symm, hJ1⟩⟩
  | cons y ys =>
   have hne : rest ≠ [] := by rw [hrest]; simp
   have hm0 : 0 < m := by rw [← hm, hrest]; simp
   have hm0' : (0 : Int) < (m : Int) := by omega
   clear hrest
   have hDec := slotDecode_any _ rest wr (isB_below hIs hbe (Nat.le_of_eq hw0)) (ops_below hO hbe (Nat.le_of_eq hw0)) (wid_below hWd hbe (Nat.le_of_eq hw0))
   have hend : decE rest ≠ 0 → pre ++ [(decX rest, decN rest, decE rest)] = stepsN b := fun he => by rw [HI.out, stepsN_err hne he]
   have hgo : decE rest = 0 → stepsN b = (pre ++ [(decX rest, decN rest, decE rest)]) ++ stepsN (rest.drop (8 * (decN rest).toNat)) := fun he => by rw [HI.out, stepsN_ok hne he]; simp
   have hpre : pre ++ [(decX rest, decN rest, decE rest)] <+: stepsN b := by
    by_cases he : decE rest = 0
    ·exact ⟨_, (hgo he).symm⟩
    ·rw [hend he]; exact List.prefix_refl _
   have hYk : ∀ W1, J pre W1 → YieldAt Fence.wide (n - 1) Tryz.prog l #[.agg #[.int .i64 (decX rest).op, .bool (decX rest).reg, .int .i64 (decX rest).dst, .int .i64 (decX rest).src, .int .i64 (decX rest).off, .int .i64 (decX rest).imm, .int .i64 (decN rest), .int .i64 (decE rest)]] W1 fun e W' =>
     (e = .returned (.bool true) ∧ J (pre ++ [(decX rest, decN rest, decE rest)]) W' ∧ KpT n₀ B W1 W') ∨ (e = .returned (.bool false) ∧ Jx (pre ++ [(decX rest, decN rest, decE rest)]) W') := fun W1 h => hY pre (decX rest, decN rest, decE rest) W1 h hpre
   have hdo : decE rest = 0 → (decN rest = 1 ∧ 8 ≤ rest.length) ∨ (decN rest = 2 ∧ 16 ≤ rest.length) := fun he => decE_ok he
   unfold Ins.v at hDec hYk
   generalize decX rest = X at *
   generalize decN rest = DN at *
   generalize decE rest = DE at *
   obtain ⟨op, reg, n1, n2, n3, n4⟩ := X
   dsimp only at hDec hYk
   have HYk := hx hYk
   have HEND := hx hend
   have HGO := hx hgo
   have HPRE := hx hpre
   have HDO := hx hdo
   have HDEC := hx hDec
   clear hYk hend hgo hpre hdo hDec
   gi_wp2_with (first | (refine ⟨trivial, ?_⟩; gi_at_call 139; refine (callsIn_wide.2 HDEC.out).mono ?_; rintro e w1 ⟨rfl, e1⟩; have hJ2 := hJ pre _ ((w1.alloc (.cells #[.int .i64 op, .bool reg, .int .i64 n1, .int .i64 n2, .int .i64 n3, .int .i64 n4] 53))) none hJ1 ((e1.alloc _).toGrown none) (.inl rfl); obtain ⟨fn, tmps, assign, body, hy, hR⟩ := HYk.out _ hJ2))
   refine hR.mono ?_
   rintro e W3 (⟨rfl, hJ3, hk3⟩ | ⟨rfl, hJx3⟩)
   ·have hBx3 : Boxed W3 B 28 (.slice A' m c') := hk3.2.trans (Boxed.alloc (e1.obj hBx) _)
    have hcell3 := hBx3.cell
    have hfz3 := hBx3.frozen
    have hbe3 := (hbe.trans ((e1.alloc (.cells #[.int .i64 op, .bool reg, .int .i64 n1, .int .i64 n2, .int .i64 n3, .int .i64 n4] 53)).below.mono (by have := hbe.size; omega))).trans hk3.1
    by_cases hE : DE = 0
    ·subst hE
     obtain ⟨yy, hyy⟩ : ∃ y, rest[0]? = some y := ⟨_, List.getElem?_eq_getElem (by omega)⟩
     obtain ⟨b0, o, rfl, -⟩ := hIs.get hyy
     have hmc := (hIs.len_eq).2.1
     rcases HDO.out rfl with ⟨rfl, hl⟩ | ⟨rfl, hl⟩
     ·have hsub : (if c' = 8 then (some ⟨b0, o, none⟩ : Option Addr) else some ⟨b0, o + 8, none⟩) = subA (some ⟨b0, o, none⟩) c' 8 := by unfold subA; simp [add_plain]
      have hI8 := IsB.sub hIs 8 (m - 8) (by omega)
      rw [List.take_of_length_le (by rw [List.length_drop]; omega)] at hI8
      generalize subA (some ⟨b0, o, none⟩) c' 8 = A8 at *
      have h8m : (8 : Int) ≤ (m : Int) := by omega
      have h8c : (8 : Int) ≤ (c' : Int) := by omega
      have hmc' : (m : Int) ≤ (c' : Int) := by omega
      gi_wp2
      go_roundw
      case rel => exact ⟨pre ++ [(⟨op, reg, n1, n2, n3, n4⟩, 1, 0)], rest.drop 8, A8, m - 8, c' - 8, by rw [List.length_drop, hm], by omega, HGO.out trivial, hJ _ _ _ (some B) hJ3 (grownBy_setCell' W3 B _) (.inr rfl), hBx3.set _, hI8, Below.setCell (p := ⟨B, 0, none⟩) hbe3 hnB _⟩
      case measure =>
       show lenB B _ < lenB B _
       rw [lenB_of (hBx3.set _), lenB_of hBx]
       omega
     ·have hsub : (if c' = 16 then (some ⟨b0, o, none⟩ : Option Addr) else some ⟨b0, o + 16, none⟩) = subA (some ⟨b0, o, none⟩) c' 16 := by unfold subA; simp [add_plain]
      have hI8 := IsB.sub hIs 16 (m - 16) (by omega)
      rw [List.take_of_length_le (by rw [List.length_drop]; omega)] at hI8
      generalize subA (some ⟨b0, o, none⟩) c' 16 = A8 at *
      have h8m : (16 : Int) ≤ (m : Int) := by omega
      have h8c : (16 : Int) ≤ (c' : Int) := by omega
      have hmc' : (m : Int) ≤ (c' : Int) := by omega
      gi_wp2
      go_roundw
      case rel => exact ⟨pre ++ [(⟨op, reg, n1, n2, n3, n4⟩, 2, 0)], rest.drop 16, A8, m - 16, c' - 16, by rw [List.length_drop, hm], by omega, HGO.out trivial, hJ _ _ _ (some B) hJ3 (grownBy_setCell' W3 B _) (.inr rfl), hBx3.set _, hI8, Below.setCell (p := ⟨B, 0, none⟩) hbe3 hnB _⟩
      case measure =>
       show lenB B _ < lenB B _
       rw [lenB_of (hBx3.set _), lenB_of hBx]
       omega
    ·have hE' : (DE != 0) = true := by simpa using hE
     have HE := hx hE
     clear hE
     gi_wp2
     refine bodyPost_ret (results_none rfl _ _ _) rfl ?_
     exact ⟨⟨_, rfl⟩, .inl ⟨_, HEND.out HE.out, hJ3⟩⟩
   ·gi_wp2
    refine bodyPost_ret (results_none rfl _ _ _) rfl ?_
    exact ⟨⟨_, rfl⟩, .inr ⟨_, HPRE.out, hJx3⟩⟩
end Go.Proofs.YtmofdnlefjfcfaaGreatDoor


set_option linter.unusedVariables false
set_option linter.unusedSimpArgs false
namespace Go.Proofs.YtmofdnlefjfcfaaGreatDoor
open Go.RowKit Go.Lib Go.Shelf Go.Proofs
attribute [local go_sem] Oper.semAt_some

section
variable {P : Program} {F : Fence} {n : Nat} {ops : Array Oper} {rest : List Oper} {o : Oper} {a : Act} {Q : Exit → Act → World → Prop} {α : Type} {e : TypeId} {sz bytes : Nat} {enc : α → List Value} {z : Value} {t : TypeId}
/-- append(v, y) inside a fence, behind the box that holds y's cells. -/
theorem wp_app1I {W : World} (T : TyOk P t e sz bytes z) (C : EncOk sz enc) {base : Nat} {v : Value} {l : List α} (HO : Own e sz enc W base v l) (y : α) {cs : Array Value} (hcs : cs.toList = enc y) (hgd : o.guard = none) {s x : Operand}
    (ho : o.op = .call { callee := .builtin .append, args := #[s, x], argTypes := #[t, t] })
    (hs : a.eval s = v) (hx : a.eval x = .slice (some ⟨W.heap.size, 0, none⟩) 1 1) (hbase : base ≤ W.heap.size) (hb0 : 0 < bytes) (hl : (l.length + 1) * bytes ≤ 140737488355328)
    (h : ∀ g cap w1, Own e sz enc w1 base (.slice (some ⟨g, 0, none⟩) (l.length + 1) cap) (l ++ [y]) → W.grownBy w1 v.ownBlock → (v.ownBlock = some g ∨ W.heap.size < g) → base ≤ g →
      wpListIn F n P ops Q rest (a.put o.dst (.slice (some ⟨g, 0, none⟩) (l.length + 1) cap)) w1) :
    wpListIn F n P ops Q (o :: rest) a (W.alloc (.cells cs e)) := by
  have hlen : l.length + 1 ≤ 140737488355328 := Nat.le_trans (Nat.le_mul_of_pos_right _ hb0) hl
  have hS : Src (W.alloc (.cells cs e)) (.slice (some ⟨W.heap.size, 0, none⟩) 1 1) [y].length ([y].flatMap enc) := ⟨_, 1, rfl, fun h => by simp at h, fun j u hu => ⟨W.heap.size, 0, rfl, by
      have := World.news_of_block (w := W.alloc (.cells cs e)) (B := W.heap.size) (cs := cs) (t := e) (fr := (0, 0)) (heap_alloc_new W _) j u (by simpa [hcs] using hu)
      rwa [add_plain] at this⟩⟩
  obtain ⟨v', w', hr, h1, h2, h3⟩ := run_appS (P := P) T C o.type base v l _ [y] (HO.alloc _) hS (by simp; omega) (by simpa using hl) (by simpa using hlen)
  have hpos : 0 < (l ++ [y]).length := by simp
  obtain ⟨g, cap, hv, hbg, _⟩ := World.ownsRow.form h1 hpos
  simp only [List.length_append, List.length_cons, List.length_nil, Nat.zero_add] at hv
  subst hv
  refine wpListIn_plain hgd fun K hK => ?_
  unfold Oper.wpIn
  refine ⟨?_, ?_⟩
  · simp [Oper.about, ho, resolve, Target.leads, Sem.run_pure]
  · rw [Oper.semAt_plain F _ _ (by rw [ho]; intro c hc'; cases hc')]
    simp [execOp, ho, resolve, invoke, builtin, hs, hx, hr, Result.andThen]
    refine hK _ _ (h g cap w' h1 (World.grownBy.trans (World.grownBy_alloc W _ _) h2) ?_ hbg)
    rcases h3 with h3 | h3
    · exact .inl (by rw [← h3]; rfl)
    · refine .inr ?_
      simp [Value.ownBlock] at h3
      omega
end

/-- A region that draws, only reads but for its last operations, inside a round of a loop over an iterator. -/
theorem wpIn_round_still {P : Program} {l : List Oper} {Q : Exit → Act → World → Prop} {id lr m : Nat} {a : Act} {w : World} (k : Nat) (hm : P.follows .mixedOrders = true) (hB : Region.lexTailB .any l.toArray k = true) (hd : noDefer l.toArray = true) (hL : ¬ LetsOut Q)
    (h : wpStill P l.toArray w.drew (fun a' => wpList P l.toArray Q (l.drop k) a' w.drew) (l.take k) a) : (Code.region id l.toArray true).wpIn (Fence.wide.inRound lr) m P Q a w := by
  refine wpIn_region_round hm hd hL ?_
  simp only [Region.lexTailB, Bool.and_eq_true, decide_eq_true_eq] at hB
  obtain ⟨⟨⟨⟨hsel, hn⟩, hs⟩, hc⟩, hlex⟩ := hB
  have hk : k < l.length := by simpa using hn
  have htl : (l.take k).length = k := by simp; omega
  have hdl : (l.drop k).length = l.toArray.size - k := by simp
  have inv0 : HeadInv .any l.toArray k (Array.replicate l.toArray.size false) :=
    ⟨by simp, fun j oj _ hl => (by rw [getD_replicate_false] at hl; cases hl), fun t _ ht => getD_in (by simpa using ht) (getD_replicate_false _ _)⟩
  have H := wpAnyL_lex (md := .any) (g := l.toArray.size - k) hsel hs hc hn (l.take k) 0 _ a
    (fun j hj => by have : j < k := by rw [htl] at hj; exact hj
                    simp [this]) (by simpa using htl) inv0 (by rw [htl]; exact hlex) h
  have R := wpAny_of_head (Q' := Q) (g := l.toArray.size - k) (fun listed a' hL' => by
    have q := wpAny_of_seq (md := .any) (Q' := Q) (l.drop k) k listed a' w.drew (fun j => by simp [List.getElem?_drop]) (by rw [hdl]; exact hL'.1) hL'.2
    rwa [hdl] at q) _ _ _ H
  rwa [htl, show k + (l.toArray.size - k) = l.toArray.size by omega] at R

/-! ### what the rows hold -/
def numRow (b : List Int) (row k : Nat) : List Int := (List.range row).map fun j => numOf b (4 * ((k * row + j : Nat) : Int)) 4
/-- Word j of what the first k bytes of a part give. -/
def accW (p : List Int) (k j : Nat) : Int := lval (((p.take k).drop (4 * j)).take 4)
def accN (p : List Int) (row k : Nat) : List Int := (List.range row).map (accW p k)
theorem accN_zero (p : List Int) (row : Nat) : accN p row 0 = List.replicate row 0 := by
  apply List.ext_getElem
  · simp [accN]
  · intro i h1 h2; simp [accN, accW, lval]
theorem accW_at (p : List Int) (a b : Nat) (hb : b < 4) (hk : 4 * a + b < p.length) :
    accW p (4 * a + b + 1) a = accW p (4 * a + b) a + 256 ^ b * p[4 * a + b] ∧ (accW p (4 * a + b) a = lval ((p.drop (4 * a)).take b)) := by
  have e1 : ((p.take (4 * a + b)).drop (4 * a)).take 4 = (p.drop (4 * a)).take b := by
    rw [List.drop_take, List.take_take]; congr 1; omega
  have e2 : ((p.take (4 * a + b + 1)).drop (4 * a)).take 4 = (p.drop (4 * a)).take b ++ [p[4 * a + b]] := by
    rw [List.drop_take, List.take_take, show min 4 (4 * a + b + 1 - 4 * a) = b + 1 by omega, List.take_succ_eq_append_getElem (by simp; omega)]
    simp
  have hl : ((p.drop (4 * a)).take b).length = b := by simp; omega
  refine ⟨?_, by unfold accW; rw [e1]⟩
  unfold accW
  rw [e1, e2, lval_append, hl]
  simp [lval]
theorem accW_other (p : List Int) (a b j : Nat) (hb : b < 4) (hj : j ≠ a) : accW p (4 * a + b + 1) j = accW p (4 * a + b) j := by
  unfold accW
  rw [List.drop_take, List.drop_take, List.take_take, List.take_take]
  congr 2
  omega
theorem accN_succ (p : List Int) (row a b : Nat) (hb : b < 4) (ha : a < row) (hk : 4 * a + b < p.length) : accN p row (4 * a + b + 1) = (accN p row (4 * a + b)).set a (accW p (4 * a + b) a + 256 ^ b * p[4 * a + b]) := by
  apply List.ext_getElem
  · simp [accN]
  · intro i h1 h2
    rw [List.getElem_set]
    split
    · rename_i e
      subst e
      simp only [accN, List.getElem_map, List.getElem_range]
      exact (accW_at p a b hb hk).1
    · rename_i e
      simp only [accN, List.getElem_map, List.getElem_range]
      exact accW_other p a b i hb (fun h => e h.symm)
theorem accN_done (b : List Int) (row k q : Nat) (hb : b.length = q * (4 * row)) (hk : k < q) : accN ((b.drop (k * (4 * row))).take (4 * row)) row (4 * row) = numRow b row k := by
  apply List.ext_getElem
  · simp [accN, numRow]
  · intro i h1 h2
    have hi : i < row := by simpa [accN] using h1
    have hle : (k + 1) * (4 * row) ≤ q * (4 * row) := Nat.mul_le_mul_right _ hk
    rw [Nat.add_mul, Nat.one_mul] at hle
    have hkr : k * (4 * row) = 4 * (k * row) := by rw [Nat.mul_left_comm]
    simp only [accN, numRow, List.getElem_map, List.getElem_range]
    have h4 := inR_yes (l := b) (i := 4 * (k * row + i)) (m := 4) (by omega)
    unfold accW numOf
    rw [show (4 * ((k * row + i : Nat) : Int)) = ((4 * (k * row + i) : Nat) : Int) by omega, show (4 : Int) = ((4 : Nat) : Int) from rfl, h4.2]
    congr 1
    rw [List.take_take, List.drop_take, List.drop_drop, List.take_take]
    congr 1
    · omega
    · congr 1; omega
end Go.Proofs.YtmofdnlefjfcfaaGreatDoor
