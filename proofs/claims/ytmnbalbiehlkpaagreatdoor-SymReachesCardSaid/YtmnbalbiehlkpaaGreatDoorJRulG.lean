/- The layer insn: Check of the program. -/
import Derived.Test.YtmnbalbiehlkpaaGreatDoorJMemA
set_option linter.unusedVariables false
set_option linter.unusedSimpArgs false
namespace Go.Proofs.YtmnbalbiehlkpaaGreatDoor
open Go.RowKit

/-- What is left of an instruction's error behind so many rules. -/
def restE (x : Ins) : Nat → Int
 | 0 => if decide (formN x.op < 0) then 6 else if regBad x then 12 else if fieldBad x then 12 else if !(regOk x.dst && regOk x.src) then 5 else if !(fits16 x.off && immOk x) then 4 else 0
 | 1 => if regBad x then 12 else if fieldBad x then 12 else if !(regOk x.dst && regOk x.src) then 5 else if !(fits16 x.off && immOk x) then 4 else 0
 | 2 => if fieldBad x then 12 else if !(regOk x.dst && regOk x.src) then 5 else if !(fits16 x.off && immOk x) then 4 else 0
 | 3 => if !(regOk x.dst && regOk x.src) then 5 else if !(fits16 x.off && immOk x) then 4 else 0
 | 4 => if !(fits16 x.off && immOk x) then 4 else 0
 | _ => 0
theorem insE_rest (x : Ins) : insE x = restE x 0 := by
 have h0 : restE x 0 = if decide (formN x.op < 0) = true then 6 else if regBad x = true then 12 else if fieldBad x = true then 12 else if (!(regOk x.dst && regOk x.src)) = true then 5 else if (!(fits16 x.off && immOk x)) = true then 4 else 0 := rfl
 rw [h0]
 unfold insE
 by_cases h : formN x.op = -1
 ·rw [if_pos h, if_pos (decide_eq_true (by omega))]
 ·have := form_cases x.op
  rw [if_neg h, if_neg (c := decide (formN x.op < 0) = true) (by rw [decide_eq_true_eq]; omega)]
set_option maxRecDepth 40000 in
set_option maxHeartbeats 8000000 in
theorem insnCheck_any (x : Ins) (w : World) (hx0 : x.Ok) (hO : OpsQ x.op w) (hW : WidN w) :
  Calls Tryz.prog 199 #[x.v] w fun e w' => e = .returned (.int .i64 (insE x)) ∧ Ext w w' := by
 have e0 := Ext.new w (xCells x)
 have HU := hx (insnUses_any x.op x.reg _ hx0.op (hO.ext e0))
 have H2 := hx fun (W : World) (h : Ext w W) => rule2_any x (usesDst x.op) (usesSrc x.op x.reg) (usesOff x.op) (usesImm x.op x.reg) W hx0 (hO.ext h)
 have H3 := hx fun (W : World) (h : Ext w W) => rule3_any x (usesDst x.op) (usesSrc x.op x.reg) (usesOff x.op) (usesImm x.op x.reg) W hx0 (hO.ext h)
 have H4 := hx fun (W : World) => rule4_any x (usesDst x.op) (usesSrc x.op x.reg) (usesOff x.op) (usesImm x.op x.reg) W
 have H5 := hx fun (g : Nat) (W : World) h => rule5_any x (usesDst x.op) (usesSrc x.op x.reg) (usesOff x.op) (usesImm x.op x.reg) g W h
 have H6 := hx fun (W : World) (h : Ext w W) => rule6_any x (usesDst x.op) (usesSrc x.op x.reg) (usesOff x.op) (usesImm x.op x.reg) W hx0 (hO.ext h) (hW.ext h)
 have HE := hx (insE_rest x)
 have hB4 : (fBad (usesDst x.op) x.dst || fBad (usesSrc x.op x.reg) x.src || fBad (usesOff x.op) x.off || fBad (usesImm x.op x.reg) x.imm) = fieldBad x := rfl
 rw [hB4] at H4
 have HR0 := hx (show restE x 0 = if decide (formN x.op < 0) then 6 else restE x 1 from rfl)
 have HR1 := hx (show restE x 1 = if regBad x then 12 else restE x 2 from rfl)
 have HR2 := hx (show restE x 2 = if fieldBad x then 12 else restE x 3 from rfl)
 have HR3 := hx (show restE x 3 = if !(regOk x.dst && regOk x.src) then 5 else restE x 4 from rfl)
 have HR4 := hx (show restE x 4 = if !(fits16 x.off && immOk x) then 4 else restE x 5 from rfl)
 have HR5 := hx (show restE x 5 = 0 from rfl)
 generalize insE x = E at *
 generalize restE x = rE at *
 generalize decide (formN x.op < 0) = b2 at *
 generalize regBad x = b3 at *
 generalize fieldBad x = b4 at *
 generalize (!(regOk x.dst && regOk x.src)) = b5 at *
 generalize (!(fits16 x.off && immOk x)) = b6 at *
 generalize usesDst x.op = u1 at *
 generalize usesSrc x.op x.reg = u2 at *
 generalize usesOff x.op = u3 at *
 generalize usesImm x.op x.reg = u4 at *
 have RX := hx (RowV.new w [.int .i64 x.op, .bool x.reg, .int .i64 x.dst, .int .i64 x.src, .int .i64 x.off, .int .i64 x.imm] 53)
 obtain ⟨op, reg, n1, n2, n3, n4⟩ := x
 unfold Ins.v xCells fV at *
 dsimp only at *
 have E0 := hx e0
 clear hO hW hx0 hB4 e0
 go_enter Tryz.func199, Tryz.ntmps199
 go_wp2_with fail
 refine HU.out.mono ?_
 rintro e w1 ⟨rfl, e1⟩
 go_wp2_with fail
 obtain ⟨W2, hW2⟩ : ∃ W2, W2 = w1.alloc (.cells #[.bool u1, .bool u2, .bool u3, .bool u4] 290) := ⟨_, rfl⟩
 have e2 : Ext w1 W2 := by rw [hW2]; exact Ext.new _ _
 have rf : RowV W2 w1.heap.size 290 [.bool u1, .bool u2, .bool u3, .bool u4] := by rw [hW2]; exact RowV.new _ _ _
 rw [← hW2]
 clear hW2
 refine (insRules_any W2).mono ?_
 rintro e w3 ⟨b, rfl, o3, r3, e3⟩
 have x3 := RX.out.ext ((e1.trans e2).trans e3)
 have f3 := rf.ext e3
 have E3 := E0.out.trans ((e1.trans e2).trans e3)
 clear e1 e2 e3 rf
 go_wp2
 go_loopw [13] (fun i wr => ∃ k : Nat, i = .int .i64 (k : Nat) ∧ k ≤ 5 ∧ E = rE k ∧ Ext w3 wr) (fun i _ => 5 - (RowKit.intOf i).toNat)
 case atStart => exact ⟨0, rfl, by omega, HE.out, Ext.refl _⟩
 case round =>
  obtain ⟨k, rfl, hk, hE, he⟩ := hrel
  have x4 := x3.ext he
  have f4 := f3.ext he
  have r4 := r3.ext he
  have o4 := o3.ext he
  have E4 := E3.trans he
  have HE4 := hx E4
  have hE' := hx hE
  have he' := hx he
  have R4 := hx r4
  have O4 := hx o4
  have X4 := hx x4
  have F4 := hx f4
  clear x4 f4 hE he E4 r4 o4 x3 f3 r3 o3 E3
  rcases k with _ | _ | _ | _ | _ | _ | k
  ·have q0 := R4.out.cell (i := 0) rfl
   have q1 := R4.out.cell (i := 1) rfl
   have e5 := Ext.new wr (.cells #[.func (.func 257) #[] #[], .int .i64 6] 296)
   have x5 := X4.out.ext e5
   have f5 := F4.out.ext e5
   have c0 := x5.cell (i := 0) rfl
   have c1 := x5.cell (i := 1) rfl
   have c2 := x5.cell (i := 2) rfl
   have c3 := x5.cell (i := 3) rfl
   have c4 := x5.cell (i := 4) rfl
   have c5 := x5.cell (i := 5) rfl
   have g0 := f5.cell (i := 0) rfl
   have g1 := f5.cell (i := 1) rfl
   have g2 := f5.cell (i := 2) rfl
   have g3 := f5.cell (i := 3) rfl
   clear x5 f5 e5
   cases b2 with
   | true =>
    go_wp2_with fail
    refine (H2.out _ (HE4.out.trans (Ext.new _ _))).mono ?_
    rintro e v ⟨rfl, ev⟩
    have z1 := ev.cell (a := ⟨wr.heap.size, 1, none⟩) (v := .int .i64 6) (by simp)
    go_wp2
    go_ret
    exact ⟨ret_int (by rw [hE'.out, HR0.out]; rfl), (HE4.out.trans (Ext.new _ _)).trans ev⟩
   | false =>
    go_wp2_with fail
    refine (H2.out _ (HE4.out.trans (Ext.new _ _))).mono ?_
    rintro e v ⟨rfl, ev⟩
    have z1 := ev.cell (a := ⟨wr.heap.size, 1, none⟩) (v := .int .i64 6) (by simp)
    have y := (he'.out.trans (Ext.new _ _)).trans ev
    clear z1 ev
    go_wp2
    go_roundw
    case rel => exact ⟨1, rfl, by omega, by rw [hE'.out, HR0.out]; rfl, y⟩
    case measure => simp [RowKit.intOf]
  ·have q0 := R4.out.cell (i := 2) rfl
   have q1 := R4.out.cell (i := 3) rfl
   have e5 := Ext.new wr (.cells #[.func (.func 258) #[] #[], .int .i64 12] 296)
   have x5 := X4.out.ext e5
   have f5 := F4.out.ext e5
   have c0 := x5.cell (i := 0) rfl
   have c1 := x5.cell (i := 1) rfl
   have c2 := x5.cell (i := 2) rfl
   have c3 := x5.cell (i := 3) rfl
   have c4 := x5.cell (i := 4) rfl
   have c5 := x5.cell (i := 5) rfl
   have g0 := f5.cell (i := 0) rfl
   have g1 := f5.cell (i := 1) rfl
   have g2 := f5.cell (i := 2) rfl
   have g3 := f5.cell (i := 3) rfl
   clear x5 f5 e5
   cases b3 with
   | true =>
    go_wp2_with fail
    refine (H3.out _ (HE4.out.trans (Ext.new _ _))).mono ?_
    rintro e v ⟨rfl, ev⟩
    have z1 := ev.cell (a := ⟨wr.heap.size, 1, none⟩) (v := .int .i64 12) (by simp)
    go_wp2
    go_ret
    exact ⟨ret_int (by rw [hE'.out, HR1.out]; rfl), (HE4.out.trans (Ext.new _ _)).trans ev⟩
   | false =>
    go_wp2_with fail
    refine (H3.out _ (HE4.out.trans (Ext.new _ _))).mono ?_
    rintro e v ⟨rfl, ev⟩
    have z1 := ev.cell (a := ⟨wr.heap.size, 1, none⟩) (v := .int .i64 12) (by simp)
    have y := (he'.out.trans (Ext.new _ _)).trans ev
    clear z1 ev
    go_wp2
    go_roundw
    case rel => exact ⟨2, rfl, by omega, by rw [hE'.out, HR1.out]; rfl, y⟩
    case measure => simp [RowKit.intOf]
  ·have q0 := R4.out.cell (i := 4) rfl
   have q1 := R4.out.cell (i := 5) rfl
   have e5 := Ext.new wr (.cells #[.func (.func 259) #[] #[], .int .i64 12] 296)
   have x5 := X4.out.ext e5
   have f5 := F4.out.ext e5
   have c0 := x5.cell (i := 0) rfl
   have c1 := x5.cell (i := 1) rfl
   have c2 := x5.cell (i := 2) rfl
   have c3 := x5.cell (i := 3) rfl
   have c4 := x5.cell (i := 4) rfl
   have c5 := x5.cell (i := 5) rfl
   have g0 := f5.cell (i := 0) rfl
   have g1 := f5.cell (i := 1) rfl
   have g2 := f5.cell (i := 2) rfl
   have g3 := f5.cell (i := 3) rfl
   clear x5 f5 e5
   cases b4 with
   | true =>
    go_wp2_with fail
    refine (H4.out _).mono ?_
    rintro e v ⟨rfl, ev⟩
    have z1 := ev.cell (a := ⟨wr.heap.size, 1, none⟩) (v := .int .i64 12) (by simp)
    go_wp2
    go_ret
    exact ⟨ret_int (by rw [hE'.out, HR2.out]; rfl), (HE4.out.trans (Ext.new _ _)).trans ev⟩
   | false =>
    go_wp2_with fail
    refine (H4.out _).mono ?_
    rintro e v ⟨rfl, ev⟩
    have z1 := ev.cell (a := ⟨wr.heap.size, 1, none⟩) (v := .int .i64 12) (by simp)
    have y := (he'.out.trans (Ext.new _ _)).trans ev
    clear z1 ev
    go_wp2
    go_roundw
    case rel => exact ⟨3, rfl, by omega, by rw [hE'.out, HR2.out]; rfl, y⟩
    case measure => simp [RowKit.intOf]
  ·have q0 := R4.out.cell (i := 6) rfl
   have q1 := R4.out.cell (i := 7) rfl
   have e5 := Ext.new wr (.cells #[.func (.func 260) #[] #[.pointer (some ⟨W2.heap.size, 0, none⟩)], .int .i64 5] 296)
   have x5 := X4.out.ext e5
   have f5 := F4.out.ext e5
   have c0 := x5.cell (i := 0) rfl
   have c1 := x5.cell (i := 1) rfl
   have c2 := x5.cell (i := 2) rfl
   have c3 := x5.cell (i := 3) rfl
   have c4 := x5.cell (i := 4) rfl
   have c5 := x5.cell (i := 5) rfl
   have g0 := f5.cell (i := 0) rfl
   have g1 := f5.cell (i := 1) rfl
   have g2 := f5.cell (i := 2) rfl
   have g3 := f5.cell (i := 3) rfl
   clear x5 f5 e5
   cases b5 with
   | true =>
    go_wp2_with fail
    refine (H5.out _ _ (O4.out.ext (Ext.new _ _))).mono ?_
    rintro e v ⟨rfl, ev⟩
    have z1 := ev.cell (a := ⟨wr.heap.size, 1, none⟩) (v := .int .i64 5) (by simp)
    go_wp2
    go_ret
    exact ⟨ret_int (by rw [hE'.out, HR3.out]; rfl), (HE4.out.trans (Ext.new _ _)).trans ev⟩
   | false =>
    go_wp2_with fail
    refine (H5.out _ _ (O4.out.ext (Ext.new _ _))).mono ?_
    rintro e v ⟨rfl, ev⟩
    have z1 := ev.cell (a := ⟨wr.heap.size, 1, none⟩) (v := .int .i64 5) (by simp)
    have y := (he'.out.trans (Ext.new _ _)).trans ev
    clear z1 ev
    go_wp2
    go_roundw
    case rel => exact ⟨4, rfl, by omega, by rw [hE'.out, HR3.out]; rfl, y⟩
    case measure => simp [RowKit.intOf]
  ·have q0 := R4.out.cell (i := 8) rfl
   have q1 := R4.out.cell (i := 9) rfl
   have e5 := Ext.new wr (.cells #[.func (.func 261) #[] #[], .int .i64 4] 296)
   have x5 := X4.out.ext e5
   have f5 := F4.out.ext e5
   have c0 := x5.cell (i := 0) rfl
   have c1 := x5.cell (i := 1) rfl
   have c2 := x5.cell (i := 2) rfl
   have c3 := x5.cell (i := 3) rfl
   have c4 := x5.cell (i := 4) rfl
   have c5 := x5.cell (i := 5) rfl
   have g0 := f5.cell (i := 0) rfl
   have g1 := f5.cell (i := 1) rfl
   have g2 := f5.cell (i := 2) rfl
   have g3 := f5.cell (i := 3) rfl
   clear x5 f5 e5
   cases b6 with
   | true =>
    go_wp2_with fail
    refine (H6.out _ (HE4.out.trans (Ext.new _ _))).mono ?_
    rintro e v ⟨rfl, ev⟩
    have z1 := ev.cell (a := ⟨wr.heap.size, 1, none⟩) (v := .int .i64 4) (by simp)
    go_wp2
    go_ret
    exact ⟨ret_int (by rw [hE'.out, HR4.out]; rfl), (HE4.out.trans (Ext.new _ _)).trans ev⟩
   | false =>
    go_wp2_with fail
    refine (H6.out _ (HE4.out.trans (Ext.new _ _))).mono ?_
    rintro e v ⟨rfl, ev⟩
    have z1 := ev.cell (a := ⟨wr.heap.size, 1, none⟩) (v := .int .i64 4) (by simp)
    have y := (he'.out.trans (Ext.new _ _)).trans ev
    clear z1 ev
    go_wp2
    go_roundw
    case rel => exact ⟨5, rfl, by omega, by rw [hE'.out, HR4.out]; rfl, y⟩
    case measure => simp [RowKit.intOf]
  ·go_wp2
   go_ret
   exact ⟨ret_int (by rw [hE'.out, ← HR5.out]), HE4.out⟩
  ·exact absurd hk (by omega)
end Go.Proofs.YtmnbalbiehlkpaaGreatDoor
