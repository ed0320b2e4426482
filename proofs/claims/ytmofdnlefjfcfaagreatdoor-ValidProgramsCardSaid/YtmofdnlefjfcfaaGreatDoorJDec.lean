/- The layer slot: Decode of the program. -/
import Derived.Test.YtmofdnlefjfcfaaGreatDoorJInsE
import Derived.Deep.QuietTactic
import Derived.BigQuiet
import Derived.StillTailTactics
set_option linter.unusedVariables false
set_option linter.unusedSimpArgs false
namespace Go.Proofs.YtmofdnlefjfcfaaGreatDoor
open Go.RowKit

theorem wp_still_drew2 {P : Program} {id : Nat} {Q : Exit → Act → World → Prop} {a : Act} {w : World} {l : List Oper} (n : Nat) (hm : P.follows .mixedOrders = true) (hB : Region.lexTailB .any l.toArray n = true)
  (h : wpStill P l.toArray w.drew (fun a' => wpList P l.toArray Q (l.drop n) a' w.drew) (l.take n) a) : (Code.region id l.toArray true).wp P Q a w := wp_region_still_tail n hm hB h
set_option maxRecDepth 20000 in
theorem wrap_i64_bd (z : Int) : I64 (wrap64 z) := by
 unfold I64 wrap64
 omega
theorem Ins.Ok.imm2 {op : Int} {reg : Bool} {d s o i i' : Int} (h : Ins.Ok ⟨op, reg, d, s, o, i⟩) (hi : I64 i') : Ins.Ok ⟨op, reg, d, s, o, i'⟩ := ⟨h.op, h.dst, h.src, h.off, hi⟩
set_option maxRecDepth 20000 in
theorem or_step32 {a b : Int} (h0 : 0 ≤ a) (h1 : a < 4294967296) (h2 : 0 ≤ b) (h3 : b < 4294967296) :
  IntKind.u64.wrap (a * 4294967296) = a * 4294967296 ∧ bits BinOp.or IntKind.u64 (a * 4294967296) b = a * 4294967296 + b := by
 obtain ⟨x, rfl⟩ := Int.eq_ofNat_of_zero_le h0
 obtain ⟨y, rfl⟩ := Int.eq_ofNat_of_zero_le h2
 have h32 : ((2 ^ 32 : Nat) : Int) = 4294967296 := by decide
 have hc : ((x : Int) * 4294967296) = ((x * 2 ^ 32 : Nat) : Int) := by rw [Int.natCast_mul, h32]
 have ho := bits_or_u64 y x 32 (by omega) (by omega)
 refine ⟨?_, ?_⟩
 ·exact wrap_u64 _ (by omega) (by omega)
 ·rw [hc]
  have hcm : bits BinOp.or IntKind.u64 ((x * 2 ^ 32 : Nat) : Int) (y : Int) = bits BinOp.or IntKind.u64 (y : Int) ((x * 2 ^ 32 : Nat) : Int) := by
   show IntKind.u64.wrap ((BitVec.ofInt 64 _ ||| BitVec.ofInt 64 _).toNat : Int) = IntKind.u64.wrap ((BitVec.ofInt 64 _ ||| BitVec.ofInt 64 _).toNat : Int)
   rw [BitVec.or_comm]
  rw [hcm, ho, Int.natCast_add, Int.add_comm]
theorem wrapL (z : Int) (h : -5000000000 ≤ z) (h' : z ≤ 5000000000) : wrap64 z = z := by unfold wrap64; omega
theorem and15 {y : Int} (h0 : 0 ≤ y) (h1 : y < 256) : bits BinOp.and IntKind.u8 y 15 = y % 16 := by
 obtain ⟨n, rfl⟩ := Int.eq_ofNat_of_zero_le h0
 have h : ∀ n : Fin 256, bits BinOp.and IntKind.u8 (n.val : Nat) 15 = ((n.val : Nat) : Int) % 16 := by decide +kernel
 exact h ⟨n, by omega⟩
theorem results_row_tmp2 {P : Program} {fn : Func} {p u v : Tmp} {ty : TypeId} (cs : Array Value) (h : fn.results = #[.cell p ty, .tmp u, .tmp v]) (tmps : Array Value) (w : World) (g : Nat) (t : TypeId) (d : TypeDesc)
  (hp : tmps.getD p undef = .pointer (some ⟨g, 0, none⟩)) (hg : ∃ l, RowV w g t l ∧ l.toArray = cs)
  (hu : P.underlying ty = some d) (hd : (match d with | .struct _ | .array _ _ => true | _ => false) = true) (hi : (P.info? ty).map (·.size) = some cs.size) :
  (results fn tmps).run P w = .ok (.tuple #[.agg cs, tmps.getD u undef, tmps.getD v undef]) w := by
 obtain ⟨l, hg, rfl⟩ := hg
 have hl := run_loadVar_row w g t ty l.toArray (0, 0) d hg hu hd hi
 have h1 : tmps[p]?.getD undef = .pointer (some ⟨g, 0, none⟩) := by simpa using hp
 simp [results, h, h1, asAddr, hl]
theorem RowV.setIns {W : World} {g : Nat} {a0 a1 a2 a3 a4 a5 : Value} (h : RowV W g 53 [a0, a1, a2, a3, a4, a5]) (x : Ins) :
  RowV ((((((W.setCell ⟨g, 0, none⟩ (.int .i64 x.op)).setCell ⟨g, 1, none⟩ (.bool x.reg)).setCell ⟨g, 2, none⟩ (.int .i64 x.dst)).setCell ⟨g, 3, none⟩ (.int .i64 x.src)).setCell ⟨g, 4, none⟩ (.int .i64 x.off)).setCell ⟨g, 5, none⟩ (.int .i64 x.imm)) g 53 x.enc :=
 (((((h.set 0 _).set 1 _).set 2 _).set 3 _).set 4 _).set 5 _
theorem Ext.setIns {w W : World} {g : Nat} (h : Ext w W) (hg : w.heap.size ≤ g) (x : Ins) :
  Ext w ((((((W.setCell ⟨g, 0, none⟩ (.int .i64 x.op)).setCell ⟨g, 1, none⟩ (.bool x.reg)).setCell ⟨g, 2, none⟩ (.int .i64 x.dst)).setCell ⟨g, 3, none⟩ (.int .i64 x.src)).setCell ⟨g, 4, none⟩ (.int .i64 x.off)).setCell ⟨g, 5, none⟩ (.int .i64 x.imm)) :=
 (((((h.setCell _ hg).setCell _ hg).setCell _ hg).setCell _ hg).setCell _ hg).setCell _ hg
theorem dec_end {w W : World} {x : Ins} {n e : Int} {a : Act} {g : Nat} (hp : a.tmps.getD 2 undef = .pointer (some ⟨g, 0, none⟩)) (hn : a.tmps.getD 3 undef = .int .i64 n) (he : a.tmps.getD 4 undef = .int .i64 e) (hd : a.defers = [])
  (hr : RowV W g 53 x.enc) (hx : Ext w W) :
  bodyPost Tryz.prog Tryz.f139 (fun e' w' => e' = .returned (.tuple #[x.v, .int .i64 n, .int .i64 e]) ∧ Ext w w') .ret a W := by
 have h := results_row_tmp2 (P := Tryz.prog) (fn := Tryz.f139) x.enc.toArray (by rfl) a.tmps W g 53 _ hp ⟨_, hr, rfl⟩ Tryz.underlying53 rfl (by kernel_rfl)
 rw [hn, he] at h
 exact bodyPost_ret h hd ⟨rfl, hx⟩
set_option maxRecDepth 40000 in
set_option maxHeartbeats 8000000 in
theorem slotDecode_any (v : Value) (b : List Int) (w : World) (hv : IsB w v b) (hO : OpsN w) (hW : WidN w) :
  Calls Tryz.prog 139 #[v] w fun e w' => e = .returned (.tuple #[(decX b).v, .int .i64 (decN b), .int .i64 (decE b)]) ∧ Ext w w' := by
 obtain ⟨A, c, rfl, hc, hL, hv1⟩ := hv.form
 have hB := IsB.byt hv1
 have e0 := Ext.new w (.cells #[.int .i64 0, .bool false, .int .i64 0, .int .i64 0, .int .i64 0, .int .i64 0] 53)
 have r0 := RowV.new w [.int .i64 0, .bool false, .int .i64 0, .int .i64 0, .int .i64 0, .int .i64 0] 53
 by_cases h8 : b.length < 8
 ·have d8 : decide ((b.length : Int) < 8) = true := decide_eq_true (by omega)
  have hE : decE b = 17 := if_pos h8
  have hX : decX b = insZ := if_neg (by rw [hE]; decide)
  have hN : decN b = 0 := if_neg (by rw [hE]; decide)
  rw [hE, hX, hN]
  have E0 := hx e0
  have R0 := hx r0
  generalize b.length = n at *
  clear hv hv1 hB h8 hE hX hN e0 r0 hO hW
  go_enter Tryz.func139, Tryz.ntmps139
  go_wp2
  exact dec_end (by rfl) (by rfl) (by rfl) rfl R0.out E0.out
 ·obtain ⟨y0, hy0⟩ : ∃ y, b[0]? = some y := ⟨_, List.getElem?_eq_getElem (by omega)⟩
  obtain ⟨y1, hy1⟩ : ∃ y, b[1]? = some y := ⟨_, List.getElem?_eq_getElem (by omega)⟩
  obtain ⟨b0, o, rfl, d0, p0, q0⟩ := hv1.get hy0
  obtain ⟨b0', o', hb', d1, p1, q1⟩ := hv1.get hy1
  cases hb'
  have g0 : b.getD 0 0 = y0 := by simp [List.getD_eq_getElem?_getD, hy0]
  have g1 : b.getD 1 0 = y1 := by simp [List.getD_eq_getElem?_getD, hy1]
  have d8 : decide ((b.length : Int) < 8) = false := decide_eq_false (by omega)
  rw [Nat.mul_one] at d0 d1
  replace d0 := e0.cell d0
  replace d1 := e0.cell d1
  have hE0 : decE b = if (idOf b).2.2 = false then 6 else if slotsN (idOf b).1 = 2 ∧ b.length < 16 then 17 else if 10 < y1 % 16 ∨ 10 < y1 / 16 then 5
   else if slotsN (idOf b).1 = 2 ∧ lval (subL b 8 4) ≠ 0 then 12 else if insE (decI b) ≠ 0 then 12 else 0 := by unfold decE; rw [if_neg h8, g1]
  have hI0 : decI b = ⟨(idOf b).1, (idOf b).2.1, y1 % 16, y1 / 16 - (fixN (idOf b).1).1, sext 16 (lval (subL b 2 2)) - (fixN (idOf b).1).2.1,
   if slotsN (idOf b).1 = 2 then wrap64 (lval (subL b 12 4) * 4294967296 + lval (subL b 4 4)) else sext 32 (lval (subL b 4 4)) - (fixN (idOf b).1).2.2⟩ := by unfold decI; rw [g1]
  have hX0 : decX b = if decE b = 0 then decI b else insZ := rfl
  have hN0 : decN b = if decE b = 0 then slotsN (idOf b).1 else 0 := rfl
  have hid : idOf b = idR y0 (y1 / 16) (sext 16 (lval (subL b 2 2))) (sext 32 (lval (subL b 4 4))) := by unfold idOf; rw [g0, g1]
  have hsub : ∀ (i m : Nat), i + m ≤ b.length → i < b.length → ∀ W, Ext w W → IsB W (.slice (some ⟨b0, o + i, none⟩) m (c - i)) (subL b i m) := fun i m hm hi W hW => by
   have h := IsB.sub (IsB.ext hv1 hW) i m hm
   have e : subA (some ⟨b0, o, none⟩) c i = some ⟨b0, o + i, none⟩ := by unfold subA; rw [if_neg (by omega)]; simp [add_plain]
   rw [e] at h
   exact h
  have l2 := subL2_bd hB 2
  have l4 := subL_bd hB 4 (m := 4) (by omega)
  have l8 := subL_bd hB 8 (m := 4) (by omega)
  have l12 := subL_bd hB 12 (m := 4) (by omega)
  have G2 := hx fun W (h : Ext w W) => slotGet_any _ _ W (hsub 2 2 (by omega) (by omega) W h) (by unfold subL; rw [List.length_take]; omega)
  have G4 := hx fun W (h : Ext w W) => slotGet_any _ _ W (hsub 4 4 (by omega) (by omega) W h) (by unfold subL; rw [List.length_take]; omega)
  have G8 := hx fun W (h : Ext w W) (hn : 16 ≤ b.length) => slotGet_any _ _ W (hsub 8 4 (by omega) (by omega) W h) (by unfold subL; rw [List.length_take]; omega)
  have G12 := hx fun W (h : Ext w W) (hn : 16 ≤ b.length) => slotGet_any _ _ W (hsub 12 4 (by omega) (by omega) W h) (by unfold subL; rw [List.length_take]; omega)
  have n2 := fun W (h : Ext w W) => numExtend16g (lval (subL b 2 2)) W (hW.ext h) l2.1 (by omega)
  have n4 := fun W (h : Ext w W) => numExtend32g (lval (subL b 4 4)) W (hW.ext h) l4.1 (by omega)
  rw [Int.emod_eq_of_lt l2.1 l2.2] at n2
  rw [Int.emod_eq_of_lt l4.1 l4.2] at n4
  have N2 := hx n2
  have N4 := hx n4
  have s2 := sext16_bd l2.1 l2.2
  have s4 := sext32_bd l4.1 l4.2
  have HID := hx fun W (h : Ext w W) => opIdent_any y0 (y1 / 16) (sext 16 (lval (subL b 2 2))) (sext 32 (lval (subL b 4 4))) W (hO.ext h)
  rw [← hid] at HID
  have hop := idR_op y0 (y1 / 16) (sext 16 (lval (subL b 2 2))) (sext 32 (lval (subL b 4 4)))
  rw [← hid] at hop
  have HSL := hx fun W (h : Ext w W) => insnSlots_any (idOf b).1 W (by unfold I64; omega) (hO.ext h)
  have HFX := hx fun W (h : Ext w W) => opFixed_any (idOf b).1 W (by unfold I64; omega) (hO.ext h)
  have HCK := hx fun (x : Ins) (hx0 : x.Ok) W (h : Ext w W) => insnCheck_any x W hx0 (hO.ext h) (hW.ext h)
  have hfx := fixN_bd (idOf b).1
  have hsc := slotsN_cases (idOf b).1
  have hand : bits BinOp.and IntKind.u8 y1 15 = y1 % 16 := and15 p1 q1
  have hDb : 0 ≤ y1 % 16 ∧ y1 % 16 < 16 := by omega
  have hSb : 0 ≤ y1 / 16 ∧ y1 / 16 < 16 := by omega
  have HV := hx hv1
  have E0 := hx e0
  have R0 := hx r0
  generalize (fixN (idOf b).1).1 = f1 at *
  generalize (fixN (idOf b).1).2.1 = f2 at *
  generalize (fixN (idOf b).1).2.2 = f3 at *
  generalize slotsN (idOf b).1 = ns at *
  generalize (idOf b).1 = op at *
  generalize (idOf b).2.1 = reg at *
  generalize (idOf b).2.2 = ok at *
  generalize sext 16 (lval (subL b 2 2)) = OF at *
  generalize sext 32 (lval (subL b 4 4)) = IM at *
  generalize lval (subL b 2 2) = L2 at *
  generalize lval (subL b 4 4) = L4 at *
  generalize lval (subL b 8 4) = L8 at *
  generalize lval (subL b 12 4) = L12 at *
  have HE0 := hx hE0
  have HI0 := hx hI0
  have HX0 := hx hX0
  have HN0 := hx hN0
  have HOP := hx hop
  have HFXB := hx hfx
  have HSC := hx hsc
  have HL8 := hx l8
  have HL12 := hx l12
  have HL4 := hx l4
  have HL2 := hx l2
  have HS2 := hx s2
  have HS4 := hx s4
  clear hE0 hI0 hX0 hN0 hop hfx hsc l8 l12 l4 l2 hid hv hv1 hsub n2 n4 hO hW hB e0 r0 g0 g1 hy0 hy1
  generalize decE b = DE at *
  generalize decX b = DX at *
  generalize decN b = DN at *
  generalize decI b = DI at *
  obtain ⟨D, hD⟩ : ∃ D, D = y1 % 16 := ⟨_, rfl⟩
  rw [← hD] at HE0 HI0 hDb hand
  clear hD
  obtain ⟨S, hS⟩ : ∃ S, S = y1 / 16 := ⟨_, rfl⟩
  rw [← hS] at HE0 HI0 HID hSb
  replace hS := hS.symm
  obtain ⟨W0, hW0⟩ : ∃ W0, W0 = w.alloc (.cells #[.int .i64 0, .bool false, .int .i64 0, .int .i64 0, .int .i64 0, .int .i64 0] 53) := ⟨_, rfl⟩
  rw [← hW0] at E0 R0 d0 d1
  have hc8 : 8 ≤ c := by omega
  have hlen8 : (8 : Int) ≤ (b.length : Int) := by omega
  go_enter Tryz.func139, Tryz.ntmps139
  go_wp2_with fail
  rw [← hW0]
  clear hW0
  go_cut [5, 6] (fun s5 s6 wx => s5 = .int .i64 D ∧ s6 = .int .i64 S ∧ Ext W0 wx)
  case first =>
   go_quiet (fail)
   go_wp2
   go_meet
   exact ⟨rfl, rfl, (Ext.refl _).drewN _⟩
  case rest =>
   obtain ⟨rfl, rfl, x1⟩ := hcut
   clear hand d1 hS
   have D0 := hx d0
   clear d0
   go_upto_region 4 with fail
   go_cut [7, 8] (fun s7 s8 wx => s7 = .int .i64 OF ∧ s8 = .int .i64 IM ∧ Ext W0 wx)
   case first =>
    have X1 := hx (E0.out.trans x1)
    have Y1 := hx x1
    clear x1
    go_quiet (first | (go_at_call 162; with_reducible refine Calls.quiet_of_same (G2.out _ ?_); exact X1.out.drewN _) | (go_at_call 162; with_reducible refine Calls.quiet_of_same (G4.out _ ?_); exact X1.out.drewN _) | (go_at_call 92; with_reducible refine Calls.quiet_of_same (N2.out _ ?_); exact X1.out.drewN _) | (go_at_call 92; with_reducible refine Calls.quiet_of_same (N4.out _ ?_); exact X1.out.drewN _))
    go_wp2
    go_meet
    exact ⟨rfl, rfl, Y1.out.drewN _⟩
   case rest =>
    obtain ⟨rfl, rfl, x2⟩ := hcut
    have k0 := x2.cell D0.out
    simp only [Nat.add_zero] at k0
    have X2 := hx (E0.out.trans x2)
    have RR := hx (R0.out.ext x2)
    clear x1 x2 G2 N2 N4
    have hlen0 : (0 : Int) < (b.length : Int) := by omega
    go_wp2_with fail
    refine (HID.out _ X2.out).mono ?_
    rintro e w1 ⟨rfl, e1⟩
    have X3 := hx (X2.out.trans e1)
    have R3 := hx (RR.out.ext e1)
    clear k0 e1 RR
    cases ok with
    | false =>
     have z0 := R3.out.frozen 0
     have z1 := R3.out.frozen 1
     have z2 := R3.out.frozen 2
     have z3 := R3.out.frozen 3
     have z4 := R3.out.frozen 4
     have z5 := R3.out.frozen 5
     have k0 := R3.out.cell (i := 0) rfl
     have k1 := R3.out.cell (i := 1) rfl
     have k2 := R3.out.cell (i := 2) rfl
     have k3 := R3.out.cell (i := 3) rfl
     have k4 := R3.out.cell (i := 4) rfl
     have k5 := R3.out.cell (i := 5) rfl
     go_wp2
     have hE : DE = 6 := HE0.out
     have hX : DX = insZ := by rw [HX0.out, hE]; rfl
     have hN : DN = 0 := by rw [HN0.out, hE]; rfl
     rw [hE, hX, hN]
     exact dec_end (by rfl) (by rfl) (by rfl) rfl (R3.out.setIns insZ) (X3.out.setIns (Nat.le_refl _) insZ)
    | true =>
     go_wp2_with fail
     refine (HSL.out _ X3.out).mono ?_
     rintro e w2 ⟨rfl, e2⟩
     have X4 := hx (X3.out.trans e2)
     have R4 := hx (R3.out.ext e2)
     clear e2
     by_cases h16 : ns = 2 ∧ b.length < 16
     ·have dl : decide ((b.length : Int) < wrap64 (ns * 8)) = true := by
       rw [h16.1, show (2 : Int) * 8 = 16 from rfl, wrapI 16 (by omega) (by omega)]; exact decide_eq_true (by omega)
      have z0 := R4.out.frozen 0
      have z1 := R4.out.frozen 1
      have z2 := R4.out.frozen 2
      have z3 := R4.out.frozen 3
      have z4 := R4.out.frozen 4
      have z5 := R4.out.frozen 5
      have k0 := R4.out.cell (i := 0) rfl
      have k1 := R4.out.cell (i := 1) rfl
      have k2 := R4.out.cell (i := 2) rfl
      have k3 := R4.out.cell (i := 3) rfl
      have k4 := R4.out.cell (i := 4) rfl
      have k5 := R4.out.cell (i := 5) rfl
      go_wp2
      have hE : DE = 17 := by rw [HE0.out, if_neg (by decide), if_pos h16]
      have hX : DX = insZ := by rw [HX0.out, hE]; rfl
      have hN : DN = 0 := by rw [HN0.out, hE]; rfl
      rw [hE, hX, hN]
      exact dec_end (by rfl) (by rfl) (by rfl) rfl (R4.out.setIns insZ) (X4.out.setIns (Nat.le_refl _) insZ)
     ·have dl : decide ((b.length : Int) < wrap64 (ns * 8)) = false := by
       apply decide_eq_false
       rw [wrapI (ns * 8) (by have := HSC.out; omega) (by have := HSC.out; omega)]
       have := HSC.out
       omega
      have HE1 := hx (show DE = if 10 < D ∨ 10 < S then 5 else if ns = 2 ∧ L8 ≠ 0 then 12 else if insE DI ≠ 0 then 12 else 0 by rw [HE0.out, if_neg (by decide), if_neg h16])
      have H16 := hx h16
      clear h16 HE0
      go_upto_region 11 with fail
      go_cut [62] (fun s wx => s = .bool (decide (10 < D ∨ 10 < S)) ∧ Ext w wx ∧ RowV wx w.heap.size 53 [.int .i64 0, .bool false, .int .i64 0, .int .i64 0, .int .i64 0, .int .i64 0])
      case first =>
       go_wp2
       go_meet
       exact ⟨congrArg Value.bool (by rw [decide_eq_decide]; omega), X4.out, R4.out⟩
      case rest =>
       obtain ⟨rfl, x5, r5⟩ := hcut
       have X5 := hx x5
       have R5 := hx r5
       clear X4 R4 X3 R3 X2 x5 r5
       by_cases hr : 10 < D ∨ 10 < S
       ·have dr : decide (10 < D ∨ 10 < S) = true := decide_eq_true hr
        have HRG := hx hr
        clear hr
        rw [dr]
        clear dr
        have z0 := R5.out.frozen 0
        have k0 := R5.out.cell (i := 0) rfl
        have z1 := R5.out.frozen 1
        have k1 := R5.out.cell (i := 1) rfl
        have z2 := R5.out.frozen 2
        have k2 := R5.out.cell (i := 2) rfl
        have z3 := R5.out.frozen 3
        have k3 := R5.out.cell (i := 3) rfl
        have z4 := R5.out.frozen 4
        have k4 := R5.out.cell (i := 4) rfl
        have z5 := R5.out.frozen 5
        have k5 := R5.out.cell (i := 5) rfl
        go_wp2
        have hE : DE = 5 := by rw [HE1.out, if_pos HRG.out]
        have hX : DX = insZ := by rw [HX0.out, hE]; rfl
        have hN : DN = 0 := by rw [HN0.out, hE]; rfl
        rw [hE, hX, hN]
        exact dec_end (by rfl) (by rfl) (by rfl) rfl (R5.out.setIns insZ) (X5.out.setIns (Nat.le_refl _) insZ)
       ·have dr : decide (10 < D ∨ 10 < S) = false := decide_eq_false hr
        have HE2 := hx (show DE = if ns = 2 ∧ L8 ≠ 0 then 12 else if insE DI ≠ 0 then 12 else 0 by rw [HE1.out, if_neg hr])
        have hdd : D ≤ 10 ∧ S ≤ 10 := by omega
        clear hr HE1
        rw [dr]
        clear dr
        go_wp2_with fail
        refine (HFX.out _ X5.out).mono ?_
        rintro e w3 ⟨rfl, e3⟩
        have X6 := hx (X5.out.trans e3)
        have r6 := R5.out.ext e3
        have z0 := r6.frozen 0
        have k0 := r6.cell (i := 0) rfl
        have z1 := r6.frozen 1
        have k1 := r6.cell (i := 1) rfl
        have z2 := r6.frozen 2
        have k2 := r6.cell (i := 2) rfl
        have z3 := r6.frozen 3
        have k3 := r6.cell (i := 3) rfl
        have z4 := r6.frozen 4
        have k4 := r6.cell (i := 4) rfl
        have z5 := r6.frozen 5
        have k5 := r6.cell (i := 5) rfl
        have R6 := hx r6
        obtain ⟨hf1, hf2, hf3⟩ := HFXB.out
        have hs2 := HS2.out
        have hs4 := HS4.out
        have v1 : wrap64 (S - f1) = S - f1 := wrapI _ (by omega) (by omega)
        have v2 : wrap64 (OF - f2) = OF - f2 := wrapI _ (by omega) (by omega)
        have v3 : wrap64 (IM - f3) = IM - f3 := wrapL _ (by omega) (by omega)
        clear r6 e3 HFX hs2 hs4 hf1 hf2 hf3
        go_upto_region 15 with fail
        have r7 := R6.out.setIns ⟨op, reg, D, S - f1, OF - f2, IM - f3⟩
        have x7 := X6.out.setIns (Nat.le_refl _) ⟨op, reg, D, S - f1, OF - f2, IM - f3⟩
        dsimp only at r7 x7
        generalize ((((((w3.setCell { block := w.heap.size, off := 0 } (.int .i64 op)).setCell { block := w.heap.size, off := 1 } (.bool reg)).setCell { block := w.heap.size, off := 2 } (.int .i64 D)).setCell { block := w.heap.size, off := 3 } (.int .i64 (S - f1))).setCell { block := w.heap.size, off := 4 } (.int .i64 (OF - f2))).setCell { block := w.heap.size, off := 5 } (.int .i64 (IM - f3))) = W5 at r7 x7 ⊢
        have hxok : Ins.Ok ⟨op, reg, D, S - f1, OF - f2, IM - f3⟩ := by
         obtain ⟨hf1, hf2, hf3⟩ := HFXB.out
         have hs2 := HS2.out
         have hs4 := HS4.out
         have ho := HOP.out
         constructor <;> unfold I64 <;> dsimp only <;> omega
        clear v1 v2 v3 z0 z1 z2 z3 z4 z5 k0 k1 k2 k3 k4 k5
        by_cases h2 : ns = 2
        ·subst h2
         have HN2 := hx (show (16 : Int) ≤ (b.length : Int) by have := H16.out; omega)
         have hc16 : 16 ≤ c := by have := HN2.out; omega
         have C8 := hx (show ∀ W, Ext w W → Calls Tryz.prog 162 #[.slice (some ⟨b0, o + 8, none⟩) 4 (c - 8)] W fun e w' => e = .returned (.int .u64 L8) ∧ w' = W from fun W h => G8.out W h (by have := HN2.out; omega))
         have C12 := hx (show ∀ W, Ext w W → Calls Tryz.prog 162 #[.slice (some ⟨b0, o + 12, none⟩) 4 (c - 12)] W fun e w' => e = .returned (.int .u64 L12) ∧ w' = W from fun W h => G12.out W h (by have := HN2.out; omega))
         have hn2 := HN2.out
         have X7 := hx x7
         have R7 := hx r7
         clear r7 x7
         by_cases hz : L8 = 0
         ·have C80 := C8
          rw [hz] at C80
          have HE3 := hx (show DE = if insE DI ≠ 0 then 12 else 0 by rw [HE2.out, if_neg (by rw [hz]; simp)])
          clear hz
          go_wp2_with fail
          refine (C80.out _ X7.out).mono ?_
          rintro e w4 ⟨rfl, rfl⟩
          go_upto_region 18 with fail
          have l12 := HL12.out
          have l4 := HL4.out
          obtain ⟨v4, v5⟩ := or_step32 l12.1 l12.2 l4.1 l4.2
          clear l12 l4
          have IMb := wrap_i64_bd (L12 * 4294967296 + L4)
          generalize hIM2 : wrap64 (L12 * 4294967296 + L4) = IM2 at *
          have z5 := R7.out.frozen 5
          go_cut [] (fun wx => Ext w wx ∧ RowV wx w.heap.size 53 [.int .i64 op, .bool reg, .int .i64 D, .int .i64 (S - f1), .int .i64 (OF - f2), .int .i64 IM2])
          case first =>
           refine wp_still_drew2 10 (by kernel_rfl) (by kernel_rfl) ?_
           simp only [List.take_succ_cons, List.take_zero, List.drop_succ_cons, List.drop_zero]
           have X8 := hx (X7.out.drew)
           have i1 : (16 : Int) ≤ (c : Int) := by omega
           have i2 : (8 : Int) ≤ (c : Int) := by omega
           have i3 : (c = 12) = False := eq_false (by omega)
           have i4 : (c = 4) = False := eq_false (by omega)
           still_step
           still_step
           still_call (C12.out _ X8.out)
           still_step
           still_step
           still_step
           still_call (G4.out _ X8.out)
           still_step
           still_step
           still_step
           refine wpStill_nil ?_
           have Rd := hx (show RowV w4.drew w.heap.size 53 [.int .i64 op, .bool reg, .int .i64 D, .int .i64 (S - f1), .int .i64 (OF - f2), .int .i64 (IM - f3)] from R7.out)
           clear z5
           have z5 := Rd.out.frozen 5
           have k5 := Rd.out.cell (i := 5) rfl
           generalize w4.drew = W8 at *
           go_wp2
           go_meet
           exact ⟨X8.out.setCell _ (Nat.le_refl _), by rw [← hIM2]; exact Rd.out.set 5 _⟩
          case rest =>
           obtain ⟨x8, r8⟩ := hcut
           have X8 := hx x8
           have R8 := hx r8
           have hxok := Ins.Ok.imm2 hxok IMb
           clear x8 r8
           have z0 := R8.out.frozen 0
           have k0 := R8.out.cell (i := 0) rfl
           have z1 := R8.out.frozen 1
           have k1 := R8.out.cell (i := 1) rfl
           have z2 := R8.out.frozen 2
           have k2 := R8.out.cell (i := 2) rfl
           have z3 := R8.out.frozen 3
           have k3 := R8.out.cell (i := 3) rfl
           have z4 := R8.out.frozen 4
           have k4 := R8.out.cell (i := 4) rfl
           have z5 := R8.out.frozen 5
           have k5 := R8.out.cell (i := 5) rfl
           have HD := hx (show DI = ⟨op, reg, D, S - f1, OF - f2, IM2⟩ by exact HI0.out.trans (by simp))
           have hq := HCK.out ⟨op, reg, D, S - f1, OF - f2, IM2⟩ hxok
           rw [← HD.out] at hq
           have HQ := hx hq
           generalize insE DI = q at *
           clear hq hxok
           by_cases h0 : q = 0
           ·subst h0
            go_wp2_with fail
            rw [HD.out] at HQ
            refine (HQ.out _ X8.out).mono ?_
            rintro e v ⟨rfl, ev⟩
            have XV := hx (X8.out.trans ev)
            have RV := hx (R8.out.ext ev)
            clear z0 z1 z2 z3 z4 z5 k0 k1 k2 k3 k4 k5 ev
            have z0 := RV.out.frozen 0
            have k0 := RV.out.cell (i := 0) rfl
            have z1 := RV.out.frozen 1
            have k1 := RV.out.cell (i := 1) rfl
            have z2 := RV.out.frozen 2
            have k2 := RV.out.cell (i := 2) rfl
            have z3 := RV.out.frozen 3
            have k3 := RV.out.cell (i := 3) rfl
            have z4 := RV.out.frozen 4
            have k4 := RV.out.cell (i := 4) rfl
            have z5 := RV.out.frozen 5
            have k5 := RV.out.cell (i := 5) rfl
            go_wp2
            have hE : DE = 0 := HE3.out.trans (if_neg (by simp))
            have hX : DX = ⟨op, reg, D, S - f1, OF - f2, IM2⟩ := by rw [HX0.out, hE, ← HD.out]; rfl
            have hN : DN = 2 := by rw [HN0.out, hE]; rfl
            rw [hE, hX, hN]
            exact dec_end (by rfl) (by rfl) (by rfl) rfl (RV.out.setIns ⟨op, reg, D, S - f1, OF - f2, IM2⟩) (XV.out.setIns (Nat.le_refl _) ⟨op, reg, D, S - f1, OF - f2, IM2⟩)
           ·have d0 : (q != 0) = true := by simpa using h0
            have H0 := hx h0
            clear h0
            go_wp2_with fail
            rw [HD.out] at HQ
            refine (HQ.out _ X8.out).mono ?_
            rintro e v ⟨rfl, ev⟩
            have XV := hx (X8.out.trans ev)
            have RV := hx (R8.out.ext ev)
            clear z0 z1 z2 z3 z4 z5 k0 k1 k2 k3 k4 k5 ev
            have z0 := RV.out.frozen 0
            have k0 := RV.out.cell (i := 0) rfl
            have z1 := RV.out.frozen 1
            have k1 := RV.out.cell (i := 1) rfl
            have z2 := RV.out.frozen 2
            have k2 := RV.out.cell (i := 2) rfl
            have z3 := RV.out.frozen 3
            have k3 := RV.out.cell (i := 3) rfl
            have z4 := RV.out.frozen 4
            have k4 := RV.out.cell (i := 4) rfl
            have z5 := RV.out.frozen 5
            have k5 := RV.out.cell (i := 5) rfl
            go_wp2
            have hE : DE = 12 := HE3.out.trans (if_pos H0.out)
            have hX : DX = insZ := by rw [HX0.out, hE]; rfl
            have hN : DN = 0 := by rw [HN0.out, hE]; rfl
            rw [hE, hX, hN]
            exact dec_end (by rfl) (by rfl) (by rfl) rfl (RV.out.setIns insZ) (XV.out.setIns (Nat.le_refl _) insZ)
         ·have d : (L8 != 0) = true := by simpa using hz
          have HZ := hx hz
          clear hz
          go_wp2_with fail
          refine (C8.out _ X7.out).mono ?_
          rintro e w4 ⟨rfl, rfl⟩
          have z0 := R7.out.frozen 0
          have k0 := R7.out.cell (i := 0) rfl
          have z1 := R7.out.frozen 1
          have k1 := R7.out.cell (i := 1) rfl
          have z2 := R7.out.frozen 2
          have k2 := R7.out.cell (i := 2) rfl
          have z3 := R7.out.frozen 3
          have k3 := R7.out.cell (i := 3) rfl
          have z4 := R7.out.frozen 4
          have k4 := R7.out.cell (i := 4) rfl
          have z5 := R7.out.frozen 5
          have k5 := R7.out.cell (i := 5) rfl
          go_wp2
          have hE : DE = 12 := HE2.out.trans (if_pos ⟨trivial, HZ.out⟩)
          have hX : DX = insZ := by rw [HX0.out, hE]; rfl
          have hN : DN = 0 := by rw [HN0.out, hE]; rfl
          rw [hE, hX, hN]
          exact dec_end (by rfl) (by rfl) (by rfl) rfl (R7.out.setIns insZ) (X7.out.setIns (Nat.le_refl _) insZ)
        ·have d2 : (ns == 2) = false := by simpa using h2
         have HNS := hx h2
         have HE3 := hx (show DE = if insE DI ≠ 0 then 12 else 0 by rw [HE2.out, if_neg (fun h => h2 h.1)])
         have X7 := hx x7
         have R7 := hx r7
         clear r7 x7 h2
         have z0 := R7.out.frozen 0
         have k0 := R7.out.cell (i := 0) rfl
         have z1 := R7.out.frozen 1
         have k1 := R7.out.cell (i := 1) rfl
         have z2 := R7.out.frozen 2
         have k2 := R7.out.cell (i := 2) rfl
         have z3 := R7.out.frozen 3
         have k3 := R7.out.cell (i := 3) rfl
         have z4 := R7.out.frozen 4
         have k4 := R7.out.cell (i := 4) rfl
         have z5 := R7.out.frozen 5
         have k5 := R7.out.cell (i := 5) rfl
         have HD := hx (show DI = ⟨op, reg, D, S - f1, OF - f2, IM - f3⟩ by rw [HI0.out, if_neg HNS.out])
         have hq := HCK.out ⟨op, reg, D, S - f1, OF - f2, IM - f3⟩ hxok
         rw [← HD.out] at hq
         have HQ := hx hq
         generalize insE DI = q at *
         clear hq hxok
         by_cases h0 : q = 0
         ·subst h0
          go_wp2_with fail
          rw [HD.out] at HQ
          refine (HQ.out _ X7.out).mono ?_
          rintro e v ⟨rfl, ev⟩
          have XV := hx (X7.out.trans ev)
          have RV := hx (R7.out.ext ev)
          clear z0 z1 z2 z3 z4 z5 k0 k1 k2 k3 k4 k5 ev
          have z0 := RV.out.frozen 0
          have k0 := RV.out.cell (i := 0) rfl
          have z1 := RV.out.frozen 1
          have k1 := RV.out.cell (i := 1) rfl
          have z2 := RV.out.frozen 2
          have k2 := RV.out.cell (i := 2) rfl
          have z3 := RV.out.frozen 3
          have k3 := RV.out.cell (i := 3) rfl
          have z4 := RV.out.frozen 4
          have k4 := RV.out.cell (i := 4) rfl
          have z5 := RV.out.frozen 5
          have k5 := RV.out.cell (i := 5) rfl
          go_wp2
          have hE : DE = 0 := HE3.out.trans (if_neg (by simp))
          have hX : DX = ⟨op, reg, D, S - f1, OF - f2, IM - f3⟩ := by rw [HX0.out, hE, ← HD.out]; rfl
          have hN : DN = ns := by rw [HN0.out, hE]; rfl
          rw [hE, hX, hN]
          exact dec_end (by rfl) (by rfl) (by rfl) rfl (RV.out.setIns ⟨op, reg, D, S - f1, OF - f2, IM - f3⟩) (XV.out.setIns (Nat.le_refl _) ⟨op, reg, D, S - f1, OF - f2, IM - f3⟩)
         ·have d0 : (q != 0) = true := by simpa using h0
          have H0 := hx h0
          clear h0
          go_wp2_with fail
          rw [HD.out] at HQ
          refine (HQ.out _ X7.out).mono ?_
          rintro e v ⟨rfl, ev⟩
          have XV := hx (X7.out.trans ev)
          have RV := hx (R7.out.ext ev)
          clear z0 z1 z2 z3 z4 z5 k0 k1 k2 k3 k4 k5 ev
          have z0 := RV.out.frozen 0
          have k0 := RV.out.cell (i := 0) rfl
          have z1 := RV.out.frozen 1
          have k1 := RV.out.cell (i := 1) rfl
          have z2 := RV.out.frozen 2
          have k2 := RV.out.cell (i := 2) rfl
          have z3 := RV.out.frozen 3
          have k3 := RV.out.cell (i := 3) rfl
          have z4 := RV.out.frozen 4
          have k4 := RV.out.cell (i := 4) rfl
          have z5 := RV.out.frozen 5
          have k5 := RV.out.cell (i := 5) rfl
          go_wp2
          have hE : DE = 12 := HE3.out.trans (if_pos H0.out)
          have hX : DX = insZ := by rw [HX0.out, hE]; rfl
          have hN : DN = 0 := by rw [HN0.out, hE]; rfl
          rw [hE, hX, hN]
          exact dec_end (by rfl) (by rfl) (by rfl) rfl (RV.out.setIns insZ) (XV.out.setIns (Nat.le_refl _) insZ)
end Go.Proofs.YtmofdnlefjfcfaaGreatDoor
