/- The layer insn, the reference: Check, its cases joined. -/
import Derived.Test.YtiaddncjghkajaaGreatDoorJRefChkB
import Derived.Test.YtiaddncjghkajaaGreatDoorJRefChkC
import Derived.Test.YtiaddncjghkajaaGreatDoorJRefChkD
import Derived.Test.YtiaddncjghkajaaGreatDoorJInsE
import Derived.Test.YtiaddncjghkajaaGreatDoorJDec
import Derived.Test.YtiaddncjghkajaaGreatDoorJTab
import Derived.RangeFuncNested
import Derived.RangeFuncBound
import Derived.RangeFuncCalls
import Derived.RangeFuncLeaves
import Derived.RangeFuncBox
import Derived.Shelf.Abstract
import Derived.Shelf.RegionOpen
import Derived.OwnWalkIn
import Derived.TacticsInMore
import Derived.LoopNIn
import Derived.LoopIn
import Derived.OrdersHeld
namespace Go.Proofs.YtiaddncjghkajaaGreatDoor
open Go.RowKit
theorem ref04Check_any (x : Ins) (w : World) (hx0 : x.Ok) : Calls Tryz.prog 126 #[x.v] w fun e w' => e = .returned (.int .i64 (insE x)) ∧ Ext w w' := by
 by_cases h : x.reg = true
 ·by_cases h0 : formN x.op = 0
  ·exact ref04Check_B x w hx0 ⟨h, h0⟩
  ·by_cases h4 : formN x.op = 4
   ·exact ref04Check_C x w hx0 ⟨h, h4⟩
   ·exact ref04Check_D x w hx0 ⟨h, h0, h4⟩
 ·exact ref04Check_A x w hx0 (by simpa using h)
end Go.Proofs.YtiaddncjghkajaaGreatDoor


set_option linter.unusedVariables false
set_option linter.unusedSimpArgs false
namespace Go.Proofs.YtiaddncjghkajaaGreatDoor
open Go.RowKit

theorem decR_end {w W : World} {x : Ins} {n e : Int} {a : Act} {g : Nat} (hp : a.tmps.getD 2 undef = .pointer (some ⟨g, 0, none⟩)) (hn : a.tmps.getD 3 undef = .int .i64 n) (he : a.tmps.getD 4 undef = .int .i64 e) (hd : a.defers = [])
  (hr : RowV W g 69 x.enc) (hx : Ext w W) :
  bodyPost Tryz.prog Tryz.f80 (fun e' w' => e' = .returned (.tuple #[x.v, .int .i64 n, .int .i64 e]) ∧ Ext w w') .ret a W := by
 have h := results_row_tmp2 (P := Tryz.prog) (fn := Tryz.f80) x.enc.toArray (by rfl) a.tmps W g 69 _ hp ⟨_, hr, rfl⟩ Tryz.underlying69 rfl (by kernel_rfl)
 rw [hn, he] at h
 exact bodyPost_ret h hd ⟨rfl, hx⟩
theorem mul_step32 {a b : Int} (h0 : 0 ≤ a) (h1 : a < 4294967296) (h2 : 0 ≤ b) (h3 : b < 4294967296) :
  IntKind.u64.wrap (a * 4294967296) = a * 4294967296 ∧ IntKind.u64.wrap (a * 4294967296 + b) = a * 4294967296 + b := ⟨wrap_u64 _ (by omega) (by omega), wrap_u64 _ (by omega) (by omega)⟩
abbrev zIns : Obj := .cells #[.int .i64 0, .bool false, .int .i64 0, .int .i64 0, .int .i64 0, .int .i64 0] 69
set_option maxRecDepth 40000 in
set_option maxHeartbeats 8000000 in
theorem refDecode_any (v : Value) (b : List Int) (w : World) (hv : IsB w v b) :
  Calls Tryz.prog 80 #[v] w fun e w' => e = .returned (.tuple #[(decX b).v, .int .i64 (decN b), .int .i64 (decE b)]) ∧ Ext w w' := by
 obtain ⟨A, c, rfl, hc, hL, hv1⟩ := hv.form
 have hB := IsB.byt hv1
 have hs : ∀ (o : Obj), (w.alloc o).heap.size = w.heap.size + 1 := fun o => by simp
 have e0 : Ext w ((w.alloc zIns).alloc zIns) := (Ext.new w zIns).alloc zIns
 have r0 : RowV ((w.alloc zIns).alloc zIns) w.heap.size 69 [.int .i64 0, .bool false, .int .i64 0, .int .i64 0, .int .i64 0, .int .i64 0] := (RowV.new w [.int .i64 0, .bool false, .int .i64 0, .int .i64 0, .int .i64 0, .int .i64 0] 69).ext (Ext.new _ _)
 have r1 : RowV ((w.alloc zIns).alloc zIns) (w.heap.size + 1) 69 [.int .i64 0, .bool false, .int .i64 0, .int .i64 0, .int .i64 0, .int .i64 0] := by
  have h := RowV.new (w.alloc zIns) [.int .i64 0, .bool false, .int .i64 0, .int .i64 0, .int .i64 0, .int .i64 0] 69
  rw [hs] at h
  exact h
 by_cases h8 : b.length < 8
 ·have d8 : decide ((b.length : Int) < 8) = true := decide_eq_true (by omega)
  have hE : decE b = 17 := if_pos h8
  have hX : decX b = insZ := if_neg (by rw [hE]; decide)
  have hN : decN b = 0 := if_neg (by rw [hE]; decide)
  rw [hE, hX, hN]
  have E0 := hx e0
  have R0 := hx r0
  generalize b.length = n at *
  clear hv hv1 hB h8 hE hX hN e0 r0 r1 hs
  go_enter Tryz.func80, Tryz.ntmps80
  go_wp2
  exact decR_end (by rfl) (by rfl) (by rfl) rfl R0.out E0.out
 ·obtain ⟨y0, hy0⟩ : ∃ y, b[0]? = some y := ⟨_, List.getElem?_eq_getElem (by omega)⟩
  obtain ⟨y1, hy1⟩ : ∃ y, b[1]? = some y := ⟨_, List.getElem?_eq_getElem (by omega)⟩
  obtain ⟨b0, o, rfl, d0, p0, q0⟩ := hv1.get hy0
  obtain ⟨b0', o', hb', d1, p1, q1⟩ := hv1.get hy1
  cases hb'
  have g0 : b.getD 0 0 = y0 := by simp [List.getD_eq_getElem?_getD, hy0]
  have g1 : b.getD 1 0 = y1 := by simp [List.getD_eq_getElem?_getD, hy1]
  have d8 : decide ((b.length : Int) < 8) = false := decide_eq_false (by omega)
  rw [Nat.mul_one] at d0 d1
  replace d0 := e0.cell d0
  replace d1 := e0.cell d1
  simp only [Nat.add_zero] at d0
  have hE0 : decE b = if (idOf b).2.2 = false then 6 else if slotsN (idOf b).1 = 2 ∧ b.length < 16 then 17 else if 10 < y1 % 16 ∨ 10 < y1 / 16 then 5
   else if slotsN (idOf b).1 = 2 ∧ lval (subL b 8 4) ≠ 0 then 12 else if insE (decI b) ≠ 0 then 12 else 0 := by unfold decE; rw [if_neg h8, g1]
  have hI0 : decI b = ⟨(idOf b).1, (idOf b).2.1, y1 % 16, y1 / 16 - (fixN (idOf b).1).1, sext 16 (lval (subL b 2 2)) - (fixN (idOf b).1).2.1,
   if slotsN (idOf b).1 = 2 then wrap64 (lval (subL b 12 4) * 4294967296 + lval (subL b 4 4)) else sext 32 (lval (subL b 4 4)) - (fixN (idOf b).1).2.2⟩ := by unfold decI; rw [g1]
  have hX0 : decX b = if decE b = 0 then decI b else insZ := rfl
  have hN0 : decN b = if decE b = 0 then slotsN (idOf b).1 else 0 := rfl
  have hid : idOf b = idR y0 (y1 / 16) (sext 16 (lval (subL b 2 2))) (sext 32 (lval (subL b 4 4))) := by unfold idOf; rw [g0, g1]
  have l2 := subL2_bd hB 2
  have l4 := subL_bd hB 4 (m := 4) (by omega)
  have l12 := subL_bd hB 12 (m := 4) (by omega)
  have G2 := hx fun W (h : Ext w W) => refGet22 _ b W (IsB.ext hv1 h) (by omega)
  have G4 := hx fun W (h : Ext w W) => refGet44 _ b W (IsB.ext hv1 h) (by omega)
  have G8 := hx fun W (h : Ext w W) hn => refGet84 _ b W (IsB.ext hv1 h) hn
  have G12 := hx fun W (h : Ext w W) hn => refGet124 _ b W (IsB.ext hv1 h) hn
  have n2 := fun W => refExtend16 (lval (subL b 2 2)) W l2.1 (by omega)
  have n4 := fun W => refExtend32 (lval (subL b 4 4)) W l4.1 (by omega)
  rw [Int.emod_eq_of_lt l2.1 l2.2] at n2
  rw [Int.emod_eq_of_lt l4.1 l4.2] at n4
  have N2 := hx n2
  have N4 := hx n4
  have s2 := sext16_bd l2.1 l2.2
  have s4 := sext32_bd l4.1 l4.2
  have HID := hx fun W => refIdent_any y0 (y1 / 16) (sext 16 (lval (subL b 2 2))) (sext 32 (lval (subL b 4 4))) W
  rw [← hid] at HID
  have hop := idR_op y0 (y1 / 16) (sext 16 (lval (subL b 2 2))) (sext 32 (lval (subL b 4 4)))
  rw [← hid] at hop
  have HSL := hx fun W => ref04Slots_any (idOf b).1 W (by unfold I64; omega)
  have HFX := hx fun W => refFixed_any (idOf b).1 W (by unfold I64; omega)
  have HCK := hx fun (x : Ins) (hx0 : x.Ok) W => ref04Check_any x W hx0
  have hfx := fixN_bd (idOf b).1
  have hDb : 0 ≤ y1 % 16 ∧ y1 % 16 < 16 := by omega
  have hSb : 0 ≤ y1 / 16 ∧ y1 / 16 < 16 := by omega
  have hD0 : Int.tmod y1 16 = y1 % 16 := Int.tmod_eq_emod_of_nonneg p1
  have hS0 : Int.tdiv y1 16 = y1 / 16 := Int.tdiv_eq_ediv_of_nonneg p1
  have E0 := hx e0
  have R0 := hx r0
  have R1 := hx r1
  generalize (fixN (idOf b).1).1 = f1 at *
  generalize (fixN (idOf b).1).2.1 = f2 at *
  generalize (fixN (idOf b).1).2.2 = f3 at *
  have hsc := slotsN_cases (idOf b).1
  generalize slotsN (idOf b).1 = ns at *
  generalize (idOf b).1 = op at *
  generalize (idOf b).2.1 = reg at *
  generalize (idOf b).2.2 = ok at *
  generalize sext 16 (lval (subL b 2 2)) = OF at *
  generalize sext 32 (lval (subL b 4 4)) = IM at *
  generalize lval (subL b 2 2) = L2 at *
  generalize lval (subL b 4 4) = L4 at *
  generalize lval (subL b 8 4) = L8 at *
  generalize lval (subL b 12 4) = L12 at *
  have HE0 := hx hE0
  have HI0 := hx hI0
  have HX0 := hx hX0
  have HN0 := hx hN0
  have HOP := hx hop
  have HFXB := hx hfx
  have HSC := hx hsc
  have HL12 := hx l12
  have HL4 := hx l4
  have HL2 := hx l2
  have HS2 := hx s2
  have HS4 := hx s4
  have HB8 := hx h8
  obtain ⟨D, hD⟩ : ∃ D, D = y1 % 16 := ⟨_, rfl⟩
  obtain ⟨S, hS⟩ : ∃ S, S = y1 / 16 := ⟨_, rfl⟩
  rw [← hD] at HE0 HI0 hDb hD0
  rw [← hS] at HE0 HI0 HID hSb hS0
  replace hS := hS.symm
  replace hD := hD.symm
  clear hE0 hI0 hX0 hN0 hop hfx hsc l12 l4 l2 hid hv hv1 n2 n4 hB e0 r0 r1 g0 g1 hy0 hy1 h8 hs s2 s4
  generalize decE b = DE at *
  generalize decX b = DX at *
  generalize decN b = DN at *
  generalize decI b = DI at *
  have hlen8 : (8 : Int) ≤ (b.length : Int) := by have := HB8.out; omega
  go_enter Tryz.func80, Tryz.ntmps80
  go_wp2_with fail
  refine (G2.out _ E0.out).mono ?_
  rintro e v ⟨rfl, rfl⟩
  go_wp2_with fail
  refine (N2.out _).mono ?_
  rintro e v ⟨rfl, rfl⟩
  go_wp2_with fail
  refine (G4.out _ E0.out).mono ?_
  rintro e v ⟨rfl, rfl⟩
  go_wp2_with fail
  refine (N4.out _).mono ?_
  rintro e v ⟨rfl, rfl⟩
  go_wp2_with fail
  refine (HID.out _).mono ?_
  rintro e w1 ⟨rfl, e1⟩
  have X3 := hx (E0.out.trans e1)
  have R3 := hx (R0.out.ext e1)
  have Z3 := hx (R1.out.ext e1)
  clear e1 d0 d1 hD hS hD0 hS0
  cases ok with
  | false =>
   have z0 := R3.out.frozen 0
   have k0 := R3.out.cell (i := 0) rfl
   have m0 := Z3.out.cell (i := 0) rfl
   have z1 := R3.out.frozen 1
   have k1 := R3.out.cell (i := 1) rfl
   have m1 := Z3.out.cell (i := 1) rfl
   have z2 := R3.out.frozen 2
   have k2 := R3.out.cell (i := 2) rfl
   have m2 := Z3.out.cell (i := 2) rfl
   have z3 := R3.out.frozen 3
   have k3 := R3.out.cell (i := 3) rfl
   have m3 := Z3.out.cell (i := 3) rfl
   have z4 := R3.out.frozen 4
   have k4 := R3.out.cell (i := 4) rfl
   have m4 := Z3.out.cell (i := 4) rfl
   have z5 := R3.out.frozen 5
   have k5 := R3.out.cell (i := 5) rfl
   have m5 := Z3.out.cell (i := 5) rfl
   go_wp2
   have hE : DE = 6 := HE0.out
   have hX : DX = insZ := by rw [HX0.out, hE]; rfl
   have hN : DN = 0 := by rw [HN0.out, hE]; rfl
   rw [hE, hX, hN]
   exact decR_end (by rfl) (by rfl) (by rfl) rfl (R3.out.setIns insZ) (X3.out.setIns (Nat.le_refl _) insZ)
  | true =>
  go_wp2_with fail
  refine (HSL.out _).mono ?_
  rintro e w2 ⟨rfl, rfl⟩
  by_cases h16 : ns = 2 ∧ b.length < 16
  ·obtain ⟨rfl, h17⟩ := h16
   have dl : decide ((b.length : Int) < 16) = true := decide_eq_true (by omega)
   have H17 := hx h17
   clear h17
   have z0 := R3.out.frozen 0
   have k0 := R3.out.cell (i := 0) rfl
   have m0 := Z3.out.cell (i := 0) rfl
   have z1 := R3.out.frozen 1
   have k1 := R3.out.cell (i := 1) rfl
   have m1 := Z3.out.cell (i := 1) rfl
   have z2 := R3.out.frozen 2
   have k2 := R3.out.cell (i := 2) rfl
   have m2 := Z3.out.cell (i := 2) rfl
   have z3 := R3.out.frozen 3
   have k3 := R3.out.cell (i := 3) rfl
   have m3 := Z3.out.cell (i := 3) rfl
   have z4 := R3.out.frozen 4
   have k4 := R3.out.cell (i := 4) rfl
   have m4 := Z3.out.cell (i := 4) rfl
   have z5 := R3.out.frozen 5
   have k5 := R3.out.cell (i := 5) rfl
   have m5 := Z3.out.cell (i := 5) rfl
   go_wp2
   have hE : DE = 17 := by rw [HE0.out, if_neg (by decide), if_pos ⟨trivial, H17.out⟩]
   have hX : DX = insZ := by rw [HX0.out, hE]; rfl
   have hN : DN = 0 := by rw [HN0.out, hE]; rfl
   rw [hE, hX, hN]
   exact decR_end (by rfl) (by rfl) (by rfl) rfl (R3.out.setIns insZ) (X3.out.setIns (Nat.le_refl _) insZ)
  ·have HE1 := hx (show DE = if 10 < D ∨ 10 < S then 5 else if ns = 2 ∧ L8 ≠ 0 then 12 else if insE DI ≠ 0 then 12 else 0 by rw [HE0.out, if_neg (by decide), if_neg h16])
   have H16 := hx h16
   clear h16 HE0
   have hns : (ns == 2) = true → decide ((b.length : Int) < 16) = false := by
    intro h
    have h2 : ns = 2 := by simpa using h
    have h3 := H16.out
    apply decide_eq_false
    omega
   go_upto_region 12 with fail
   go_cut [60] (fun s wx => s = .bool false ∧ wx = w2)
   case first =>
    cases hn : (ns == 2) with
    | true =>
     have hl := hns hn
     go_wp2
     go_meet
     exact ⟨rfl, rfl⟩
    | false =>
     go_wp2
     go_meet
     exact ⟨rfl, rfl⟩
   case rest =>
    obtain ⟨rfl, rfl⟩ := hcut
    clear hns
    by_cases h1 : D > 10
    ·have dr : decide (D > 10) = true := decide_eq_true h1
     have HRG := hx (show 10 < D ∨ 10 < S from .inl h1)
     clear h1
     have z0 := R3.out.frozen 0
     have k0 := R3.out.cell (i := 0) rfl
     have m0 := Z3.out.cell (i := 0) rfl
     have z1 := R3.out.frozen 1
     have k1 := R3.out.cell (i := 1) rfl
     have m1 := Z3.out.cell (i := 1) rfl
     have z2 := R3.out.frozen 2
     have k2 := R3.out.cell (i := 2) rfl
     have m2 := Z3.out.cell (i := 2) rfl
     have z3 := R3.out.frozen 3
     have k3 := R3.out.cell (i := 3) rfl
     have m3 := Z3.out.cell (i := 3) rfl
     have z4 := R3.out.frozen 4
     have k4 := R3.out.cell (i := 4) rfl
     have m4 := Z3.out.cell (i := 4) rfl
     have z5 := R3.out.frozen 5
     have k5 := R3.out.cell (i := 5) rfl
     have m5 := Z3.out.cell (i := 5) rfl
     go_wp2
     have hE : DE = 5 := by rw [HE1.out, if_pos HRG.out]
     have hX : DX = insZ := by rw [HX0.out, hE]; rfl
     have hN : DN = 0 := by rw [HN0.out, hE]; rfl
     rw [hE, hX, hN]
     exact decR_end (by rfl) (by rfl) (by rfl) rfl (R3.out.setIns insZ) (X3.out.setIns (Nat.le_refl _) insZ)
    have dr : decide (D > 10) = false := decide_eq_false h1
    by_cases h2 : S > 10
    ·have ds : decide (S > 10) = true := decide_eq_true h2
     have HRG := hx (show 10 < D ∨ 10 < S from .inr h2)
     clear h2 h1
     have z0 := R3.out.frozen 0
     have k0 := R3.out.cell (i := 0) rfl
     have m0 := Z3.out.cell (i := 0) rfl
     have z1 := R3.out.frozen 1
     have k1 := R3.out.cell (i := 1) rfl
     have m1 := Z3.out.cell (i := 1) rfl
     have z2 := R3.out.frozen 2
     have k2 := R3.out.cell (i := 2) rfl
     have m2 := Z3.out.cell (i := 2) rfl
     have z3 := R3.out.frozen 3
     have k3 := R3.out.cell (i := 3) rfl
     have m3 := Z3.out.cell (i := 3) rfl
     have z4 := R3.out.frozen 4
     have k4 := R3.out.cell (i := 4) rfl
     have m4 := Z3.out.cell (i := 4) rfl
     have z5 := R3.out.frozen 5
     have k5 := R3.out.cell (i := 5) rfl
     have m5 := Z3.out.cell (i := 5) rfl
     go_wp2
     have hE : DE = 5 := by rw [HE1.out, if_pos HRG.out]
     have hX : DX = insZ := by rw [HX0.out, hE]; rfl
     have hN : DN = 0 := by rw [HN0.out, hE]; rfl
     rw [hE, hX, hN]
     exact decR_end (by rfl) (by rfl) (by rfl) rfl (R3.out.setIns insZ) (X3.out.setIns (Nat.le_refl _) insZ)
    have ds : decide (S > 10) = false := decide_eq_false h2
    have HE2 := hx (show DE = if ns = 2 ∧ L8 ≠ 0 then 12 else if insE DI ≠ 0 then 12 else 0 by rw [HE1.out, if_neg (by omega)])
    have hdd : D ≤ 10 ∧ S ≤ 10 := by omega
    clear h1 h2 HE1
    go_wp2_with fail
    refine (HFX.out _).mono ?_
    rintro e w3 ⟨rfl, e3⟩
    have X6 := hx (X3.out.trans e3)
    have R6 := hx (R3.out.ext e3)
    have Z6 := hx (Z3.out.ext e3)
    obtain ⟨hf1, hf2, hf3⟩ := HFXB.out
    have hs2 := HS2.out
    have hs4 := HS4.out
    have v1 : wrap64 (S - f1) = S - f1 := wrapI _ (by omega) (by omega)
    have v2 : wrap64 (OF - f2) = OF - f2 := wrapI _ (by omega) (by omega)
    have v3 : wrap64 (IM - f3) = IM - f3 := wrapL _ (by omega) (by omega)
    clear e3 HFX hs2 hs4 hf1 hf2 hf3
    have hxok : Ins.Ok ⟨op, reg, D, S - f1, OF - f2, IM - f3⟩ := by
     obtain ⟨hf1, hf2, hf3⟩ := HFXB.out
     have hs2 := HS2.out
     have hs4 := HS4.out
     have ho := HOP.out
     constructor <;> unfold I64 <;> dsimp only <;> omega
    obtain ⟨W7, hW7⟩ : ∃ W7, W7 = w3.alloc (.cells #[.int .i64 op, .bool reg, .int .i64 D, .int .i64 (S - f1), .int .i64 (OF - f2), .int .i64 (IM - f3)] 69) := ⟨_, rfl⟩
    have x7 : Ext w3 W7 := by rw [hW7]; exact Ext.new _ _
    have RX := hx (show RowV W7 w3.heap.size 69 [.int .i64 op, .bool reg, .int .i64 D, .int .i64 (S - f1), .int .i64 (OF - f2), .int .i64 (IM - f3)] by rw [hW7]; exact RowV.new _ _ _)
    have R7 := hx (R6.out.ext x7)
    have Z7 := hx (Z6.out.ext x7)
    have X7 := hx (X6.out.trans x7)
    have HG := hx (show w.heap.size ≠ w3.heap.size ∧ w.heap.size + 1 ≠ w3.heap.size by have h1 := R6.out.lt; have h2 := Z6.out.lt; exact ⟨by omega, by omega⟩)
    have HG2 := hx (show w.heap.size ≤ w3.heap.size from X6.out.size)
    have HW7 := hx hW7
    clear x7 hW7 R6 Z6 X6
    by_cases h2 : ns = 2
    ·subst h2
     have HN2 := hx (show 16 ≤ b.length by have := H16.out; omega)
     by_cases hz : L8 = 0
     ·have C8 := hx (fun W h => G8.out W h HN2.out)
      rw [hz] at C8
      have HE3 := hx (show DE = if insE DI ≠ 0 then 12 else 0 by rw [HE2.out, if_neg (by rw [hz]; simp)])
      have HZ := hx hz
      clear hz v1
      have l12 := HL12.out
      have l4 := HL4.out
      obtain ⟨v4, v5⟩ := mul_step32 l12.1 l12.2 l4.1 l4.2
      clear l12 l4
      have v1 : wrap64 (S - f1) = S - f1 := by obtain ⟨hf1, hf2, hf3⟩ := HFXB.out; exact wrapI _ (by omega) (by omega)
      have IMb := wrap_i64_bd (L12 * 4294967296 + L4)
      generalize hIM2 : wrap64 (L12 * 4294967296 + L4) = IM2 at *
      go_wp2_with fail
      rw [← HW7.out]
      refine (C8.out _ X7.out).mono ?_
      rintro e v ⟨rfl, rfl⟩
      have z5 := RX.out.frozen 5
      have k5 := RX.out.cell (i := 5) rfl
      have R8 := hx (RX.out.set 5 (.int .i64 IM2))
      have j0 := R8.out.cell (i := 0) rfl
      have j1 := R8.out.cell (i := 1) rfl
      have j2 := R8.out.cell (i := 2) rfl
      have j3 := R8.out.cell (i := 3) rfl
      have j4 := R8.out.cell (i := 4) rfl
      have j5 := R8.out.cell (i := 5) rfl
      go_wp2_with fail
      refine (G12.out _ X7.out HN2.out).mono ?_
      rintro e v ⟨rfl, rfl⟩
      go_wp2_with fail
      refine (G4.out _ X7.out).mono ?_
      rintro e v ⟨rfl, rfl⟩
      go_wp2_with fail
      have X8 := hx (X7.out.setCell (a := ⟨w3.heap.size, 5, none⟩) (.int .i64 IM2) HG2.out)
      have R9 := hx (R7.out.keep (grown_setCell _ w3.heap.size 5 (.int .i64 IM2)) (by simpa using HG.out.1))
      have Z9 := hx (Z7.out.keep (grown_setCell _ w3.heap.size 5 (.int .i64 IM2)) (by simpa using HG.out.2))
      have RX9 := hx (show RowV _ w3.heap.size 69 [.int .i64 op, .bool reg, .int .i64 D, .int .i64 (S - f1), .int .i64 (OF - f2), .int .i64 IM2] from R8.out)
      replace hxok := Ins.Ok.imm2 hxok IMb
      clear z5 k5 j0 j1 j2 j3 j4 j5 IMb hIM2
      have HD := hx (show DI = ⟨op, reg, D, S - f1, OF - f2, IM2⟩ by exact HI0.out.trans (by simp))
      have hq := HCK.out ⟨op, reg, D, S - f1, OF - f2, IM2⟩ hxok
      rw [← HD.out] at hq
      generalize insE DI = q at *
      rw [HD.out] at hq
      refine (hq _).mono ?_
      clear hq hxok
      rintro e v ⟨rfl, ev⟩
      have XV := hx (X8.out.trans ev)
      have RV := hx (R9.out.ext ev)
      have ZV := hx (Z9.out.ext ev)
      have RXV := hx (RX9.out.ext ev)
      clear ev
      have z0 := RV.out.frozen 0
      have k0 := RV.out.cell (i := 0) rfl
      have m0 := ZV.out.cell (i := 0) rfl
      have z1 := RV.out.frozen 1
      have k1 := RV.out.cell (i := 1) rfl
      have m1 := ZV.out.cell (i := 1) rfl
      have z2 := RV.out.frozen 2
      have k2 := RV.out.cell (i := 2) rfl
      have m2 := ZV.out.cell (i := 2) rfl
      have z3 := RV.out.frozen 3
      have k3 := RV.out.cell (i := 3) rfl
      have m3 := ZV.out.cell (i := 3) rfl
      have z4 := RV.out.frozen 4
      have k4 := RV.out.cell (i := 4) rfl
      have m4 := ZV.out.cell (i := 4) rfl
      have z5 := RV.out.frozen 5
      have k5 := RV.out.cell (i := 5) rfl
      have m5 := ZV.out.cell (i := 5) rfl
      have q0 := RXV.out.cell (i := 0) rfl
      have q1 := RXV.out.cell (i := 1) rfl
      have q2 := RXV.out.cell (i := 2) rfl
      have q3 := RXV.out.cell (i := 3) rfl
      have q4 := RXV.out.cell (i := 4) rfl
      have q5 := RXV.out.cell (i := 5) rfl
      by_cases h0 : q = 0
      ·subst h0
       go_wp2
       have hE : DE = 0 := HE3.out.trans (if_neg (by simp))
       have hX : DX = ⟨op, reg, D, S - f1, OF - f2, IM2⟩ := by rw [HX0.out, hE, ← HD.out]; rfl
       have hN : DN = 2 := by rw [HN0.out, hE]; rfl
       rw [hE, hX, hN]
       exact decR_end (by rfl) (by rfl) (by rfl) rfl (RV.out.setIns ⟨op, reg, D, S - f1, OF - f2, IM2⟩) (XV.out.setIns (Nat.le_refl _) ⟨op, reg, D, S - f1, OF - f2, IM2⟩)
      ·have d0 : (q != 0) = true := by simpa using h0
       have H0 := hx h0
       clear h0
       go_wp2
       have hE : DE = 12 := HE3.out.trans (if_pos H0.out)
       have hX : DX = insZ := by rw [HX0.out, hE]; rfl
       have hN : DN = 0 := by rw [HN0.out, hE]; rfl
       rw [hE, hX, hN]
       exact decR_end (by rfl) (by rfl) (by rfl) rfl (RV.out.setIns insZ) (XV.out.setIns (Nat.le_refl _) insZ)
     ·have d : (L8 != 0) = true := by simpa using hz
      have HZ := hx hz
      clear hz
      go_wp2_with fail
      rw [← HW7.out]
      refine (G8.out _ X7.out HN2.out).mono ?_
      rintro e v ⟨rfl, rfl⟩
      have z0 := R7.out.frozen 0
      have k0 := R7.out.cell (i := 0) rfl
      have m0 := Z7.out.cell (i := 0) rfl
      have z1 := R7.out.frozen 1
      have k1 := R7.out.cell (i := 1) rfl
      have m1 := Z7.out.cell (i := 1) rfl
      have z2 := R7.out.frozen 2
      have k2 := R7.out.cell (i := 2) rfl
      have m2 := Z7.out.cell (i := 2) rfl
      have z3 := R7.out.frozen 3
      have k3 := R7.out.cell (i := 3) rfl
      have m3 := Z7.out.cell (i := 3) rfl
      have z4 := R7.out.frozen 4
      have k4 := R7.out.cell (i := 4) rfl
      have m4 := Z7.out.cell (i := 4) rfl
      have z5 := R7.out.frozen 5
      have k5 := R7.out.cell (i := 5) rfl
      have m5 := Z7.out.cell (i := 5) rfl
      go_wp2
      have hE : DE = 12 := HE2.out.trans (if_pos ⟨trivial, HZ.out⟩)
      have hX : DX = insZ := by rw [HX0.out, hE]; rfl
      have hN : DN = 0 := by rw [HN0.out, hE]; rfl
      rw [hE, hX, hN]
      exact decR_end (by rfl) (by rfl) (by rfl) rfl (R7.out.setIns insZ) (X7.out.setIns (Nat.le_refl _) insZ)
    ·have d2 : (ns == 2) = false := by simpa using h2
     have HNS := hx h2
     have HE3 := hx (show DE = if insE DI ≠ 0 then 12 else 0 by rw [HE2.out, if_neg (fun h => h2 h.1)])
     clear h2
     go_wp2_with fail
     rw [← HW7.out]
     have HD := hx (show DI = ⟨op, reg, D, S - f1, OF - f2, IM - f3⟩ by rw [HI0.out, if_neg HNS.out])
     have hq := HCK.out ⟨op, reg, D, S - f1, OF - f2, IM - f3⟩ hxok
     rw [← HD.out] at hq
     generalize insE DI = q at *
     rw [HD.out] at hq
     refine (hq _).mono ?_
     clear hq hxok
     rintro e v ⟨rfl, ev⟩
     have XV := hx (X7.out.trans ev)
     have RV := hx (R7.out.ext ev)
     have ZV := hx (Z7.out.ext ev)
     have RXV := hx (RX.out.ext ev)
     clear ev
     have z0 := RV.out.frozen 0
     have k0 := RV.out.cell (i := 0) rfl
     have m0 := ZV.out.cell (i := 0) rfl
     have z1 := RV.out.frozen 1
     have k1 := RV.out.cell (i := 1) rfl
     have m1 := ZV.out.cell (i := 1) rfl
     have z2 := RV.out.frozen 2
     have k2 := RV.out.cell (i := 2) rfl
     have m2 := ZV.out.cell (i := 2) rfl
     have z3 := RV.out.frozen 3
     have k3 := RV.out.cell (i := 3) rfl
     have m3 := ZV.out.cell (i := 3) rfl
     have z4 := RV.out.frozen 4
     have k4 := RV.out.cell (i := 4) rfl
     have m4 := ZV.out.cell (i := 4) rfl
     have z5 := RV.out.frozen 5
     have k5 := RV.out.cell (i := 5) rfl
     have m5 := ZV.out.cell (i := 5) rfl
     have q0 := RXV.out.cell (i := 0) rfl
     have q1 := RXV.out.cell (i := 1) rfl
     have q2 := RXV.out.cell (i := 2) rfl
     have q3 := RXV.out.cell (i := 3) rfl
     have q4 := RXV.out.cell (i := 4) rfl
     have q5 := RXV.out.cell (i := 5) rfl
     by_cases h0 : q = 0
     ·subst h0
      go_wp2
      have hE : DE = 0 := HE3.out.trans (if_neg (by simp))
      have hX : DX = ⟨op, reg, D, S - f1, OF - f2, IM - f3⟩ := by rw [HX0.out, hE, ← HD.out]; rfl
      have hN : DN = ns := by rw [HN0.out, hE]; rfl
      rw [hE, hX, hN]
      exact decR_end (by rfl) (by rfl) (by rfl) rfl (RV.out.setIns ⟨op, reg, D, S - f1, OF - f2, IM - f3⟩) (XV.out.setIns (Nat.le_refl _) ⟨op, reg, D, S - f1, OF - f2, IM - f3⟩)
     ·have d0 : (q != 0) = true := by simpa using h0
      have H0 := hx h0
      clear h0
      go_wp2
      have hE : DE = 12 := HE3.out.trans (if_pos H0.out)
      have hX : DX = insZ := by rw [HX0.out, hE]; rfl
      have hN : DN = 0 := by rw [HN0.out, hE]; rfl
      rw [hE, hX, hN]
      exact decR_end (by rfl) (by rfl) (by rfl) rfl (RV.out.setIns insZ) (XV.out.setIns (Nat.le_refl _) insZ)
end Go.Proofs.YtiaddncjghkajaaGreatDoor


set_option linter.unusedVariables false
set_option linter.unusedSimpArgs false
namespace Go.Proofs.YtiaddncjghkajaaGreatDoor
open Go.RowKit Go.Lib Go.Shelf Go.Proofs
attribute [local go_sem] Oper.semAt_some

def itemsA : Nat → List Int → List Int → List (Nat × List Int)
 | k, cur, [] => if cur = [] then [] else [(k, [])]
 | k, cur, x :: l => if x = 0 then (if cur = [] then [(k, [])] else (k, cur) :: itemsA (k + cur.length + 1) [] l) else itemsA k (cur ++ [x]) l
theorem itemsA_some {l t : List Int} (h : nulAt l = some t) (k : Nat) (cur : List Int) :
  itemsA k cur l = if cur ++ t = [] then [(k, [])] else (k, cur ++ t) :: itemsA (k + (cur ++ t).length + 1) [] (l.drop (t.length + 1)) := by
 induction l generalizing t cur with
 | nil => cases h
 | cons x l ih =>
  unfold nulAt at h
  split at h
  ·rename_i hx
   cases h
   rw [itemsA, if_pos hx]; simp
  ·rename_i hx
   obtain ⟨u, hu, rfl⟩ := Option.map_eq_some_iff.1 h
   rw [itemsA, if_neg hx, ih hu]
   simp
theorem itemsA_none {l : List Int} (h : nulAt l = none) (k : Nat) (cur : List Int) (hne : cur ++ l ≠ []) : itemsA k cur l = [(k, [])] := by
 induction l generalizing cur with
 | nil => rw [itemsA, if_neg (by simpa using hne)]
 | cons x l ih =>
  unfold nulAt at h
  split at h
  ·cases h
  ·rename_i hx
   rw [itemsA, if_neg hx]
   exact ih (by simpa using h) _ (by simp)
theorem itemsA_split (l : List Int) : ∀ (k : Nat) (cur : List Int), splitA cur l = if (itemsA k cur l).all (fun x => !x.2.isEmpty) then some ((itemsA k cur l).map (·.2)) else none := by
 induction l with
 | nil => intro k cur; rw [splitA, itemsA]; by_cases h : cur = [] <;> simp [h]
 | cons x l ih =>
  intro k cur
  rw [splitA, itemsA]
  by_cases hx : x = 0
  ·rw [if_pos hx, if_pos hx]
   by_cases h : cur = []
   ·simp [h]
   ·rw [if_neg h, if_neg h, ih (k + cur.length + 1) []]
    have hc : cur.isEmpty = false := by cases cur <;> simp_all
    simp only [List.all_cons, hc, Bool.not_false, Bool.true_and, List.map_cons]
    split <;> rfl
  ·rw [if_neg hx, if_neg hx]; exact ih _ _
/-- What the iterator yields from a place on. -/
def items (k : Nat) (b : List Int) : List (Nat × List Int) := itemsA k [] (b.drop k)
def encTx (x : Nat × List Int) : Array Value := #[.int .i64 x.1, .string (strOfNums x.2)]
def KpT (n₀ B : Nat) (W W' : World) : Prop := Below n₀ W W' ∧ W'.heap[B]? = W.heap[B]?
theorem KpT.refl (n₀ B : Nat) (W : World) : KpT n₀ B W W := ⟨Below.refl _ _, rfl⟩
theorem KpT.trans {n₀ B : Nat} {W W1 W2 : World} (h : KpT n₀ B W W1) (k : KpT n₀ B W1 W2) : KpT n₀ B W W2 := ⟨h.1.trans k.1, k.2.trans h.2⟩

theorem items_none {k : Nat} {b : List Int} (hk : k < b.length) (h : nulAt (b.drop k) = none) : items k b = [(k, [])] := itemsA_none h k [] (by intro e; have := congrArg List.length e; simp at this; omega)
theorem items_empty {k : Nat} {b : List Int} (h : nulAt (b.drop k) = some []) : items k b = [(k, [])] := by unfold items; rw [itemsA_some h]; simp
theorem items_some {k : Nat} {b t : List Int} (h : nulAt (b.drop k) = some t) (ht : t ≠ []) : items k b = (k, t) :: items (k + (t.length + 1)) b := by
 unfold items
 rw [itemsA_some h, if_neg (by simpa using ht), List.drop_drop]; simp [Nat.add_assoc]
theorem items_end {k : Nat} {b : List Int} (hk : b.length ≤ k) : items k b = [] := by unfold items; rw [List.drop_eq_nil_of_le hk]; rfl
theorem isB_below {n₀ : Nat} {w W : World} {v : Value} {l : List Int} (h : IsB w v l) (hb : Below n₀ w W) (hn : w.heap.size ≤ n₀) : IsB W v l := Sl.ext h fun b o x k => ⟨(Below.cell hb (Nat.lt_of_lt_of_le (World.block_lt_of_cell? w _ k.1) hn)).trans k.1, k.2⟩

set_option maxRecDepth 100000 in
set_option maxHeartbeats 1000000 in
theorem texts1_in (n : Nat) (hn : 2 ≤ n) (l B n₀ : Nat) (v : Value) (b : List Int) (hbl : b.length ≤ 1000000000) (J Jx : List (Nat × List Int) → World → Prop)
  (hY : ∀ pre x W, J pre W → pre.length < (items 1 b).length → YieldAt Fence.wide (n - 1) Tryz.prog l (encTx x) W fun e W' =>
   (e = .returned (.bool true) ∧ J (pre ++ [x]) W' ∧ KpT n₀ B W W') ∨ (e = .returned (.bool false) ∧ Jx (pre ++ [x]) W'))
  (n₁ : Nat) (hJ : AbidesFrom n₁ J)
  (W : World) (hB : Boxed W B 23 v) (w0 : World) (hv : IsB w0 v b) (hw0 : w0.heap.size = n₀) (hW0 : Below n₀ w0 W) (h0 : J [] W) :
  CallsIn Fence.wide n Tryz.prog 133 #[.func (.yield l) #[] #[], .pointer (some ⟨B, 0, none⟩)] W fun e W' => (∃ v, e = .returned v) ∧
   ((∃ ys, ys = items 1 b ∧ J ys W') ∨ (∃ pre, pre <+: items 1 b ∧ Jx pre W')) := by
 obtain ⟨A, c, rfl, hc, -, hv'⟩ := hv.form
 refine callsIn_of_wp Tryz.func133 rfl trivial ?_ rfl
 simp only [Tryz.ntmps133, List.size_toArray, List.length_cons, List.length_nil, Nat.reduceAdd, Nat.reduceSub, Array.replicate_succ, Array.replicate_zero, List.push_toArray, List.append_toArray, List.nil_append, List.cons_append]
 have h1n : 1 ≤ n := by omega
 gi_wp2
 gi_loopw [3] (fun a wr => ∃ (k : Nat) (pre : List (Nat × List Int)), a = .int .i64 k ∧ 1 ≤ k ∧ k ≤ b.length + 1 ∧ items 1 b = pre ++ items k b ∧ J pre wr ∧ Boxed wr B 23 (.slice A b.length c) ∧ Below n₀ w0 wr)
  (fun a wr => b.length + 1 - (RowKit.intOf a).toNat)
 case atStart => exact ⟨1, [], rfl, by omega, by omega, by simp, h0, hB, hW0⟩
 case round =>
  obtain ⟨k, pre, rfl, hk1, hk2, hi, hJ1, hBx, hbe⟩ := hrel
  have HI := hx hi
  clear hi
  have hcell := hBx.cell
  have HBL := hx hbl
  by_cases hlt : k < b.length
  ·have hGet := strtab_Get_any _ b k wr (isB_below hv hbe (Nat.le_of_eq hw0)) hbl (by omega) (by omega)
   have hg := getT_in hlt
   cases hT : nulAt (b.drop k) with
   | none =>
    have hs : getS b k = ⟨#[]⟩ := by unfold getS; rw [hg, hT]
    rw [hs] at hGet
    have hit := items_none hlt hT
    have HIT := hx hit
    have hpl : pre.length < (items 1 b).length := by rw [HI.out, hit]; simp
    have hpx : pre ++ [((k : Nat), ([] : List Int))] = items 1 b := by rw [HI.out, hit]
    have HPX := hx hpx
    clear hT hg hs hit hpx
    have hem : (ByteArray.mk #[]).toList.isEmpty = true := by rw [Go.ByteArray.toList_eq]; rfl
    have hYk : ∀ W1, J pre W1 → YieldAt Fence.wide (n - 1) Tryz.prog l #[.int .i64 (k : Int), .string ⟨#[]⟩] W1 fun e W' =>
      (e = .returned (.bool true) ∧ J (pre ++ [(k, [])]) W' ∧ KpT n₀ B W1 W') ∨ (e = .returned (.bool false) ∧ Jx (pre ++ [(k, [])]) W') := fun W1 h => hY pre (k, []) W1 h hpl
    have HYk := hx hYk
    clear hYk hpl
    gi_wp2_with (first | (refine ⟨trivial, ?_⟩; gi_at_call 134; refine (callsIn_wide.2 hGet).mono ?_; rintro e w1 ⟨rfl, e1⟩; have hJ2 := hJ pre wr w1 none hJ1 (e1.toGrown none) (fun r h => by cases h); obtain ⟨fn, tmps, assign, body, hy, hR⟩ := HYk.out w1 hJ2))
    refine hR.mono ?_
    rintro e W3 (⟨rfl, hJ3, hk3⟩ | ⟨rfl, hJx3⟩)
    ·gi_wp2
     all_goals first
      | (refine bodyPost_ret (results_none rfl _ _ _) rfl ?_; exact ⟨⟨_, rfl⟩, .inl ⟨_, HPX.out, hJ3⟩⟩)
      | (simp at *; done)
    ·gi_wp2
     refine bodyPost_ret (results_none rfl _ _ _) rfl ?_
     exact ⟨⟨_, rfl⟩, .inr ⟨_, by rw [← HPX.out]; exact ⟨[], by simp⟩, hJx3⟩⟩
   | some t =>
    have hs : getS b k = strOfNums t := by unfold getS; rw [hg, hT]
    rw [hs] at hGet
    have htl := (nulAt_take hT).2
    rw [List.length_drop] at htl
    by_cases hte : t = []
    ·subst hte
     have hit := items_empty hT
     have HIT := hx hit
     have hpl : pre.length < (items 1 b).length := by rw [HI.out, hit]; simp
     have hpx : pre ++ [((k : Nat), ([] : List Int))] = items 1 b := by rw [HI.out, hit]
     have HPX := hx hpx
     clear hT hg hs hit hpx
     have hem : (strOfNums []).toList.isEmpty = true := by rw [Go.ByteArray.toList_eq]; rfl
     have hYk : ∀ W1, J pre W1 → YieldAt Fence.wide (n - 1) Tryz.prog l #[.int .i64 (k : Int), .string (strOfNums [])] W1 fun e W' =>
       (e = .returned (.bool true) ∧ J (pre ++ [(k, [])]) W' ∧ KpT n₀ B W1 W') ∨ (e = .returned (.bool false) ∧ Jx (pre ++ [(k, [])]) W') := fun W1 h => hY pre (k, []) W1 h hpl
     have HYk := hx hYk
     clear hYk hpl
     obtain ⟨S, hS⟩ : ∃ S, S = strOfNums [] := ⟨_, rfl⟩
     rw [← hS] at hGet hem HYk
     clear hS
     gi_wp2_with (first | (refine ⟨trivial, ?_⟩; gi_at_call 134; refine (callsIn_wide.2 hGet).mono ?_; rintro e w1 ⟨rfl, e1⟩; have hJ2 := hJ pre wr w1 none hJ1 (e1.toGrown none) (fun r h => by cases h); obtain ⟨fn, tmps, assign, body, hy, hR⟩ := HYk.out w1 hJ2))
     refine hR.mono ?_
     rintro e W3 (⟨rfl, hJ3, hk3⟩ | ⟨rfl, hJx3⟩)
     ·gi_wp2
      all_goals first
       | (refine bodyPost_ret (results_none rfl _ _ _) rfl ?_; exact ⟨⟨_, rfl⟩, .inl ⟨_, HPX.out, hJ3⟩⟩)
       | (simp at *; done)
     ·gi_wp2
      refine bodyPost_ret (results_none rfl _ _ _) rfl ?_
      exact ⟨⟨_, rfl⟩, .inr ⟨_, by rw [← HPX.out]; exact ⟨[], by simp⟩, hJx3⟩⟩
    ·have hit := items_some hT hte
     have HIT := hx hit
     have hpl : pre.length < (items 1 b).length := by rw [HI.out, hit]; simp
     have hpx : pre ++ [(k, t)] ++ items (k + (t.length + 1)) b = items 1 b := by rw [HI.out, hit]; simp
     have HPX := hx hpx
     clear hT hg hs hit hpx
     have hem := toList_nums hte
     have hYk : ∀ W1, J pre W1 → YieldAt Fence.wide (n - 1) Tryz.prog l #[.int .i64 (k : Int), .string (strOfNums t)] W1 fun e W' =>
       (e = .returned (.bool true) ∧ J (pre ++ [(k, t)]) W' ∧ KpT n₀ B W1 W') ∨ (e = .returned (.bool false) ∧ Jx (pre ++ [(k, t)]) W') := fun W1 h => hY pre (k, t) W1 h hpl
     have HYk := hx hYk
     clear hYk hpl
     have hsz := strOfNums_size t
     obtain ⟨S, hS⟩ : ∃ S, S = strOfNums t := ⟨_, rfl⟩
     rw [← hS] at hGet hem HYk hsz
     clear hS
     gi_wp2_with (first | (refine ⟨trivial, ?_⟩; gi_at_call 134; refine (callsIn_wide.2 hGet).mono ?_; rintro e w1 ⟨rfl, e1⟩; have hJ2 := hJ pre wr w1 none hJ1 (e1.toGrown none) (fun r h => by cases h); obtain ⟨fn, tmps, assign, body, hy, hR⟩ := HYk.out w1 hJ2))
     refine hR.mono ?_
     rintro e W3 (⟨rfl, hJ3, hk3⟩ | ⟨rfl, hJx3⟩)
     ·have hBx1 : Boxed w1 B 23 (.slice A b.length c) := e1.obj hBx
      have hbe3 : Below n₀ w0 W3 := (hbe.trans (e1.below.mono (by have := hbe.size; omega))).trans hk3.1
      have hBx3 : Boxed W3 B 23 (.slice A b.length c) := hk3.2.trans hBx1
      gi_wp2
      go_roundw
      case rel => exact ⟨k + (t.length + 1), pre ++ [(k, t)], by simp, by omega, by omega, HPX.out.symm, hJ3, hBx3, hbe3⟩
      case measure => simp [RowKit.intOf]; omega
     ·gi_wp2
      refine bodyPost_ret (results_none rfl _ _ _) rfl ?_
      exact ⟨⟨_, rfl⟩, .inr ⟨_, ⟨_, HPX.out⟩, hJx3⟩⟩
  ·have he := items_end (k := k) (b := b) (by omega)
   gi_wp2
   go_end0
   exact ⟨⟨_, rfl⟩, .inl ⟨pre, by rw [HI.out, he]; simp, hJ1⟩⟩

/-- texts hands back a value that yields the items. -/
theorem texts_stops (n : Nat) (hn : 2 ≤ n) (B : Nat) (v : Value) (b : List Int) (hbl : b.length ≤ 1000000000) (w w0 : World) (hB : Boxed w B 23 v) (hBl : B < w.heap.size) (hv : IsB w0 v b) (hw : Below w0.heap.size w0 w) :
  SeqStopsK Fence.wide n Tryz.prog 133 #[.pointer (some ⟨B, 0, none⟩)] encTx (KpT w0.heap.size B) (fun ys => ys = items 1 b) (fun pre => pre <+: items 1 b) (items 1 b).length w := fun l J Jx W hW hJ _ hY h0 =>
 texts1_in n hn l B w0.heap.size v b hbl J Jx hY W.heap.size hJ W ((Below.block hW B hBl).trans hB) w0 hv rfl (hw.trans (hW.mono hw.size)) h0
end Go.Proofs.YtiaddncjghkajaaGreatDoor


set_option linter.unusedVariables false
set_option linter.unusedSimpArgs false
namespace Go.Proofs.YtiaddncjghkajaaGreatDoor
open Go.RowKit Go.Lib Go.Shelf Go.Proofs

theorem rowsIn_of {n : Nat} {P : Program} {row : String} {args : Array Value} {w : World} {R : Value → World → Prop} {l : Nat} (h : Rows P row args w R) : RowsIn (Fence.wide.inRound l) n P row args w R :=
 fun c cs _ => let ⟨v, w', r, s⟩ := h c cs; ⟨v, w', r, stepsIn_wide.2 s⟩
theorem upon_round {P : Program} {o : Oper} {a : Act} {K : Act → World → Prop} {Q : Exit → Act → World → Prop} {l n : Nat} {r : Result Next} (h : o.upon P a K Q r) : o.uponIn (Fence.wide.inRound l) n P a K Q r := by
 cases r with
 | ok x w' =>
  cases x <;> first
   | exact h
   | exact ⟨fun h => (by cases h), CallsIn.inRound l (callsIn_wide.2 h)⟩
   | exact ⟨fun h => (by cases h), rowsIn_of h⟩
   | exact h.elim
 | halt x w' => cases x <;> first | exact h | exact h.elim
def noDefer (ops : Array Oper) : Bool := ops.all fun o => match o.op with | .defer _ => false | _ => true
theorem noDefer_spec {ops : Array Oper} (h : noDefer ops = true) {i : Nat} {o : Oper} (hi : ops[i]? = some o) : ∀ c, o.op ≠ .defer c := by
 unfold noDefer at h
 rw [Array.all_eq_true'] at h
 have := h o (Array.mem_of_getElem? hi)
 intro c hc
 rw [hc] at this; cases this
theorem wpOps_round {P : Program} {ops : Array Oper} {Q : Exit → Act → World → Prop} {l n : Nat} (hd : noDefer ops = true) (hL : ¬ LetsOut Q) : ∀ (is : List Nat) (a : Act) (w : World), wpOps P ops Q is a w → wpOpsIn (Fence.wide.inRound l) n P ops Q is a w
 | [], a, w, h => h
 | i :: rest, a, w, h => by
  unfold wpOps at h
  unfold wpOpsIn
  cases hi : ops[i]? with
  | none => simp only [hi] at h ⊢; exact wpOps_round hd hL rest a w h
  | some o =>
   simp only [hi] at h ⊢
   split
   ·rename_i hw
    rw [if_pos hw] at h
    rcases h with h | ⟨_, h⟩
    ·have h := Oper.wp_mono (K' := wpOpsIn (Fence.wide.inRound l) n P ops Q rest) (fun a w => wpOps_round hd hL rest a w) h
     refine ⟨fun _ _ => trivial, ?_⟩
     rw [show (Fence.wide.inRound l).round = some l from rfl, Oper.semAt_some l a.eval o (noDefer_spec hd hi)]
     exact upon_round h
    ·exact absurd h hL
   ·rename_i hw
    rw [if_neg hw] at h
    exact ⟨fun _ _ => trivial, wpOps_round hd hL rest _ w h⟩
theorem wpIn_region_round {P : Program} {ops : Array Oper} {Q : Exit → Act → World → Prop} {l n id : Nat} {a : Act} {w : World} (hm : P.follows .mixedOrders = true) (hd : noDefer ops = true) (hL : ¬ LetsOut Q)
  (h : wpAny P .any ops Q ops.size (Array.replicate ops.size false) a w.drew) : (Code.region id ops true).wpIn (Fence.wide.inRound l) n P Q a w :=
 wpIn_region_draw fun t => by
  simp only [Region.schedule, hm, Bool.true_or, if_true]
  exact wpOps_round hd hL _ _ _ (wpAny_sound ops.size t _ a _ h)
/-- The same, loads under a condition on the world. -/
theorem wpIn_region_roundH {P : Program} {ops : Array Oper} {Q : Exit → Act → World → Prop} {S : World → Prop} {l n id : Nat} {a : Act} {w : World} (hm : P.follows .mixedOrders = true) (hd : noDefer ops = true) (hL : ¬ LetsOut Q)
  (h : wpAnyH P .any ops Q S ops.size (Array.replicate ops.size false) a w.drew) : (Code.region id ops true).wpIn (Fence.wide.inRound l) n P Q a w :=
 wpIn_region_round hm hd hL (wpAny_of_held _ _ _ _ h)

/-- append(v, y), y's cells in a box somewhere: as a step of a region that draws. -/
theorem step_app {P : Program} {ops : Array Oper} {o : Oper} {a : Act} {Q : Exit → Act → World → Prop} {K : Act → World → Prop} {E : Prop} {α : Type} {e : TypeId} {sz bytes : Nat} {enc : α → List Value} {z : Value} {t : TypeId} {w : World}
  (T : TyOk P t e sz bytes z) (C : EncOk sz enc) {base : Nat} {v : Value} {l : List α} (HO : Own e sz enc w base v l) (y : α) {gb : Nat} (hS : ∀ j u, (enc y)[j]? = some u → w.cell? ⟨gb, j, none⟩ = some u) (hgd : o.guard = none) {s x : Operand}
  (ho : o.op = .call { callee := .builtin .append, args := #[s, x], argTypes := #[t, t] }) (hs : a.eval s = v) (hx : a.eval x = .slice (some ⟨gb, 0, none⟩) 1 1) (hbase : base ≤ w.heap.size) (hb0 : 0 < bytes) (hl : (l.length + 1) * bytes ≤ 140737488355328)
  (h : ∀ g cap w', Own e sz enc w' base (.slice (some ⟨g, 0, none⟩) (l.length + 1) cap) (l ++ [y]) → w.grownBy w' v.ownBlock → K (a.put o.dst (.slice (some ⟨g, 0, none⟩) (l.length + 1) cap)) w') :
  if Region.wanted o (yielded ops a.tmps) = true then Oper.wp P o a w K Q else E := by
 have hlen : l.length + 1 ≤ 140737488355328 := Nat.le_trans (Nat.le_mul_of_pos_right _ hb0) hl
 have hw : Region.wanted o (yielded ops a.tmps) = true := by simp [Region.wanted, hgd]
 rw [if_pos hw]
 have hSrc : Src w (.slice (some ⟨gb, 0, none⟩) 1 1) [y].length ([y].flatMap enc) := ⟨_, 1, rfl, fun h => (by cases h), fun j u hu => ⟨gb, 0, rfl, by rw [Nat.zero_add]; exact hS j u (by simpa using hu)⟩⟩
 obtain ⟨v', w', hr, h2, h3, h4⟩ := run_appS (P := P) T C o.type base v l _ [y] HO hSrc hbase (by simpa using hl) (by simpa using hlen)
 obtain ⟨g, cap, hv, _⟩ := World.ownsRow.form h2 (by simp)
 simp only [List.length_append, List.length_cons, List.length_nil, Nat.zero_add] at hv
 subst hv
 unfold Oper.wp
 simp [execOp, ho, resolve, invoke, builtin, hs, hx, hr, Result.andThen]
 exact h g cap w' h2 h3
/-- From one world to another only rows of some types have turned. -/
structure Mid (B : Nat) (W X : World) : Prop where
 box : ∀ b t v, Boxed W b t v → t ≠ 9 → t ≠ 3 → Boxed X b t v
 ko : KeepsOthers W X
 bel : Below B W X
theorem Mid.refl (B : Nat) (W : World) : Mid B W W := ⟨fun _ _ _ h _ _ => h, KeepsOthers.refl _, Below.refl _ _⟩
theorem Mid.drew {B : Nat} {W X : World} (h : Mid B W X) : Mid B W X.drew := ⟨h.box, h.ko.trans (KeepsOthers.drew X), h.bel.drew⟩
theorem Mid.alloc {B : Nat} {W X : World} (h : Mid B W X) (hB : B ≤ X.heap.size) (o : Obj) : Mid B W (X.alloc o) := ⟨fun b t v hb h1 h2 => (h.box b t v hb h1 h2).alloc o, h.ko.trans (KeepsOthers.alloc X o), h.bel.alloc hB o⟩
theorem Mid.app {B : Nat} {W X X' : World} {α : Type} {e : TypeId} {sz : Nat} {enc : α → List Value} {v : Value} {l : List α} (h : Mid B W X) (ho : Own e sz enc X B v l) (he : e = 9 ∨ e = 3) (hg : X.grownBy X' v.ownBlock) (hB : B ≤ X.heap.size) : Mid B W X' := by
 refine ⟨fun b t u hb h1 h2 => ?_, h.ko.trans (KeepsOthers.of_grownBy hg fun j o ej hj => ?_), h.bel.grown hg hB ho.base_le⟩
 ·have hx := h.box b t u hb h1 h2
  exact hx.kept hg (hx.not_row (by rcases he with rfl | rfl <;> assumption) ho)
 ·rcases ho.2 with ⟨rfl, _⟩ | ⟨g, cap, cur, rfl, _, hgb, _⟩
  ·simp [Value.ownBlock] at ej
  ·obtain rfl : g = j := by simpa [Value.ownBlock] using ej
   rw [hgb] at hj; cases hj; rfl
end Go.Proofs.YtiaddncjghkajaaGreatDoor
