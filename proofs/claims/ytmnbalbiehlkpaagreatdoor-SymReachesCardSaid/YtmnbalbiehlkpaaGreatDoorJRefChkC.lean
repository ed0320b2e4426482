/- The layer insn, the reference: Check. -/
import Derived.Test.YtmnbalbiehlkpaaGreatDoorJRefChkA
import Derived.Deep.QuietTactic
import Derived.BigQuiet
set_option linter.unusedVariables false
set_option linter.unusedSimpArgs false
namespace Go.Proofs.YtmnbalbiehlkpaaGreatDoor
open Go.RowKit

set_option maxRecDepth 40000 in
set_option maxHeartbeats 16000000 in
theorem ref04Check_C (x : Ins) (w : World) (hx0 : x.Ok) (hA : x.reg = true ∧ formN x.op = 4) :
  Calls Tryz.prog 80 #[x.v] w fun e w' => e = .returned (.int .i64 (insE x)) ∧ Ext w w' := by
 have hF := fun W => refForm_any x.op W hx0.op
 simp only [← formN_eq] at hF
 have HF := hx hF
 have HD := hx fun W => ref04Dst_any x.op W hx0.op
 have HS := hx fun W => ref04Src_any x.op x.reg W hx0.op
 have HO := hx fun W => ref04Off_any x.op W hx0.op
 have HI := hx fun W => ref04Imm_any x.op x.reg W hx0.op
 have HR1 := hx fun W => ref04register_any x.dst W
 have HR2 := hx fun W => ref04register_any x.src W
 have hu : 0 ≤ IntKind.u64.wrap x.imm ∧ IntKind.u64.wrap x.imm < 18446744073709551616 := by
  simp [IntKind.wrap, IntKind.signed, IntKind.bits]; omega
 have hE := fun W => refExtend32 (IntKind.u64.wrap x.imm) W hu.1 hu.2
 have hsx := sext_fits32 x.imm hx0.imm
 generalize sext 32 (IntKind.u64.wrap x.imm % 4294967296) = SX at hE hsx
 have hsx' : (SX != x.imm) = !(fits32 x.imm) := by rw [← hsx]; rfl
 have HE := hx hE
 have hq : insE x = if formN x.op = -1 then 6 else if (x.reg && !(formN x.op == 0) && !(formN x.op == 4)) || (fBad (usesDst x.op) x.dst || fBad (usesSrc x.op x.reg) x.src || fBad (usesOff x.op) x.off || fBad (usesImm x.op x.reg) x.imm) then 12 else
   if !(regOk x.dst && regOk x.src) then 5 else if !(fits16 x.off) then 4 else if !(immB (formN x.op) x.imm (fits32 x.imm)) then 4 else 0 := by
  unfold insE regBad fieldBad immOk immB
  generalize (x.reg && !(formN x.op == 0) && !(formN x.op == 4)) = P
  generalize (fBad (usesDst x.op) x.dst || fBad (usesSrc x.op x.reg) x.src || fBad (usesOff x.op) x.off || fBad (usesImm x.op x.reg) x.imm) = Q
  generalize (if formN x.op = 10 then true else if formN x.op = 5 then decide (1 ≤ x.imm ∧ x.imm ≤ 3) else if formN x.op = 11 then decide (0 ≤ x.imm ∧ x.imm < 255) else fits32 x.imm) = R
  cases P <;> cases Q <;> cases fits16 x.off <;> cases R <;> simp
 have hfc := form_cases x.op
 have hf3 : fits32 x.imm = decide (-2147483648 ≤ x.imm ∧ x.imm ≤ 2147483647) := rfl
 obtain ⟨op, reg, n1, n2, n3, n4⟩ := x
 unfold Ins.v
 dsimp only at *
 have E0 := hx (Ext.new w (.cells #[.int .i64 op, .bool reg, .int .i64 n1, .int .i64 n2, .int .i64 n3, .int .i64 n4] 53))
 have R0 := hx (RowV.new w [.int .i64 op, .bool reg, .int .i64 n1, .int .i64 n2, .int .i64 n3, .int .i64 n4] 53)
 generalize formN op = F at *
 generalize usesDst op = u1 at *
 generalize usesSrc op reg = u2 at *
 generalize usesOff op = u3 at *
 generalize usesImm op reg = u4 at *
 generalize regOk n1 = g1 at *
 generalize regOk n2 = g2 at *
 generalize fits32 n4 = FB at *
 have HQ := hx hq
 have HFB := hx hf3
 have HSX := hx hsx'
 have HFC := hx hfc
 clear hF hx0 hu hE hsx hsx' hq hfc hf3
 obtain ⟨rfl, rfl⟩ := hA
 obtain ⟨B, hB⟩ : ∃ B, B = ((true && !((4 : Int) == 0) && !((4 : Int) == 4)) || (fBad u1 n1 || fBad u2 n2 || fBad u3 n3 || fBad u4 n4)) := ⟨_, rfl⟩
 have hq := HQ.out
 rw [← hB] at hq
 replace HQ := hx hq
 have HB := hx hB
 clear hq hB
 have hm : ¬ (((4 : Int) : Int) = -1) := by decide
 have hlt : decide ((4 : Int) < 0) = false := decide_eq_false (by decide)
 have HM := hx hm
 clear hm
 go_enter Tryz.func80, Tryz.ntmps80
 go_wp2_with fail
 refine (HF.out _).mono ?_
 rintro e w1 ⟨rfl, rfl⟩
 go_upto_region 4 with fail
 go_cut [66] (fun s66 wx => s66 = .bool B ∧ Ext (w.alloc (.cells #[.int .i64 op, .bool true, .int .i64 n1, .int .i64 n2, .int .i64 n3, .int .i64 n4] 53)) wx)
 case first =>
  go_wp2_with fail
  refine (HD.out _).mono ?_
  rintro e v1 ⟨rfl, e1⟩
  have a1 := e1
  have r1 := R0.out.ext a1
  have c0 := r1.cell (i := 0) rfl
  have c1 := r1.cell (i := 1) rfl
  have c2 := r1.cell (i := 2) rfl
  have c3 := r1.cell (i := 3) rfl
  have c4 := r1.cell (i := 4) rfl
  have c5 := r1.cell (i := 5) rfl
  clear r1
  rcases fBad_key u1 n1 with ⟨rfl, z1, y1, b1⟩ | ⟨rfl, b1⟩ | ⟨rfl, rfl, b1⟩
  ·have B1 := hx b1
   clear b1
   go_wp2
   go_meet
   exact ⟨congrArg Value.bool (HB.out.trans (by simp [B1.out])).symm, a1⟩
  all_goals
   have B1 := hx b1
   clear b1
   go_wp2_with fail
   refine (HS.out _).mono ?_
   rintro e v2 ⟨rfl, e2⟩
   have a2 := a1.trans e2
   clear c0 c1 c2 c3 c4 c5 e2 a1
   have r2 := R0.out.ext a2
   have c0 := r2.cell (i := 0) rfl
   have c1 := r2.cell (i := 1) rfl
   have c2 := r2.cell (i := 2) rfl
   have c3 := r2.cell (i := 3) rfl
   have c4 := r2.cell (i := 4) rfl
   have c5 := r2.cell (i := 5) rfl
   clear r2
   rcases fBad_key u2 n2 with ⟨rfl, z2, y2, b2⟩ | ⟨rfl, b2⟩ | ⟨rfl, rfl, b2⟩
   ·have B2 := hx b2
    clear b2
    go_wp2
    go_meet
    exact ⟨congrArg Value.bool (HB.out.trans (by simp [B1.out, B2.out])).symm, a2⟩
   all_goals
    have B2 := hx b2
    clear b2
    go_wp2_with fail
    refine (HO.out _).mono ?_
    rintro e v3 ⟨rfl, e3⟩
    have a3 := a2.trans e3
    clear c0 c1 c2 c3 c4 c5 e3 a2
    have r3 := R0.out.ext a3
    have c0 := r3.cell (i := 0) rfl
    have c1 := r3.cell (i := 1) rfl
    have c2 := r3.cell (i := 2) rfl
    have c3 := r3.cell (i := 3) rfl
    have c4 := r3.cell (i := 4) rfl
    have c5 := r3.cell (i := 5) rfl
    clear r3
    rcases fBad_key u3 n3 with ⟨rfl, z3, y3, b3⟩ | ⟨rfl, b3⟩ | ⟨rfl, rfl, b3⟩
    ·have B3 := hx b3
     clear b3
     go_wp2
     go_meet
     exact ⟨congrArg Value.bool (HB.out.trans (by simp [B1.out, B2.out, B3.out])).symm, a3⟩
    all_goals
     have B3 := hx b3
     clear b3
     go_wp2_with fail
     refine (HI.out _).mono ?_
     rintro e v4 ⟨rfl, e4⟩
     have a4 := a3.trans e4
     clear c0 c1 c2 c3 c4 c5 e4 a3
     have r4 := R0.out.ext a4
     have c0 := r4.cell (i := 0) rfl
     have c1 := r4.cell (i := 1) rfl
     have c2 := r4.cell (i := 2) rfl
     have c3 := r4.cell (i := 3) rfl
     have c4 := r4.cell (i := 4) rfl
     have c5 := r4.cell (i := 5) rfl
     clear r4
     rcases fBad_key u4 n4 with ⟨rfl, z4, y4, b4⟩ | ⟨rfl, b4⟩ | ⟨rfl, rfl, b4⟩
     ·have B4 := hx b4
      clear b4
      go_wp2
      go_meet
      exact ⟨congrArg Value.bool (HB.out.trans (by simp [B1.out, B2.out, B3.out, B4.out])).symm, a4⟩
     all_goals
      have B4 := hx b4
      clear b4
      go_wp2
      go_meet
      exact ⟨congrArg Value.bool (HB.out.trans (by simp [B1.out, B2.out, B3.out, B4.out])).symm, a4⟩
 case rest =>
  obtain ⟨rfl, a⟩ := hcut
  have r := R0.out.ext a
  have c0 := r.cell (i := 0) rfl
  have c1 := r.cell (i := 1) rfl
  have c2 := r.cell (i := 2) rfl
  have c3 := r.cell (i := 3) rfl
  have c4 := r.cell (i := 4) rfl
  have c5 := r.cell (i := 5) rfl
  have A := hx (E0.out.trans a)
  clear r a HB
  cases B with
  | true =>
   go_wp2
   go_ret
   exact ⟨ret_int (by rw [HQ.out, if_neg HM.out]; rfl), A.out⟩
  | false =>
  cases g1 with
  | false =>
   go_wp2_with fail
   refine (HR1.out _).mono ?_
   rintro e v1 ⟨rfl, rfl⟩
   go_wp2
   go_ret
   exact ⟨ret_int (by rw [HQ.out, if_neg HM.out]; rfl), A.out⟩
  | true =>
  cases g2 with
  | false =>
   go_wp2_with fail
   refine (HR1.out _).mono ?_
   rintro e v1 ⟨rfl, rfl⟩
   go_wp2_with fail
   refine (HR2.out _).mono ?_
   rintro e v1 ⟨rfl, rfl⟩
   go_wp2
   go_ret
   exact ⟨ret_int (by rw [HQ.out, if_neg HM.out]; rfl), A.out⟩
  | true =>
  by_cases h1 : n3 < -32768
  ·have d1 : decide (n3 < -32768) = true := decide_eq_true h1
   have HFT := hx (show fits16 n3 = false from decide_eq_false (by omega))
   clear h1
   go_wp2_with fail
   refine (HR1.out _).mono ?_
   rintro e v1 ⟨rfl, rfl⟩
   go_wp2_with fail
   refine (HR2.out _).mono ?_
   rintro e v1 ⟨rfl, rfl⟩
   go_wp2
   go_ret
   exact ⟨ret_int (by rw [HQ.out, if_neg HM.out, HFT.out]; rfl), A.out⟩
  have d1 : decide (n3 < -32768) = false := decide_eq_false h1
  by_cases h2 : n3 > 32767
  ·have d2 : decide (n3 > 32767) = true := decide_eq_true h2
   have HFT := hx (show fits16 n3 = false from decide_eq_false (by omega))
   clear h1 h2
   go_wp2_with fail
   refine (HR1.out _).mono ?_
   rintro e v1 ⟨rfl, rfl⟩
   go_wp2_with fail
   refine (HR2.out _).mono ?_
   rintro e v1 ⟨rfl, rfl⟩
   go_wp2
   go_ret
   exact ⟨ret_int (by rw [HQ.out, if_neg HM.out, HFT.out]; rfl), A.out⟩
  have d2 : decide (n3 > 32767) = false := decide_eq_false h2
  have HFT := hx (show fits16 n3 = true from decide_eq_true (by omega))
  clear h1 h2
  go_wp2_with fail
  refine (HR1.out _).mono ?_
  rintro e v1 ⟨rfl, rfl⟩
  go_wp2_with fail
  refine (HR2.out _).mono ?_
  rintro e v1 ⟨rfl, rfl⟩
  go_upto_region 10 with fail
  go_cut [123] (fun s wx => s = .bool (!(immB (4 : Int) n4 FB)) ∧ Ext w wx)
  case first =>
   have hs := HSX.out
   cases FB with
   | true =>
    have j3 : (SX != n4) = false := hs
    clear hs
    go_quiet (first | (go_at_call 61; refine Calls.quiet_of_same (HE.out _)))
    go_wp2
    go_meet
    exact ⟨congrArg Value.bool (by simp [immB]), A.out.drewN _⟩
   | false =>
    have j3 : (SX != n4) = true := hs
    clear hs
    go_quiet (first | (go_at_call 61; refine Calls.quiet_of_same (HE.out _)))
    go_wp2
    go_meet
    exact ⟨congrArg Value.bool (by simp [immB]), A.out.drewN _⟩
  case rest =>
   obtain ⟨rfl, A2⟩ := hcut
   generalize immB (4 : Int) n4 FB = Z at *
   cases Z with
   | true =>
    go_wp2
    go_ret
    exact ⟨ret_int (by rw [HQ.out, if_neg HM.out, HFT.out]; rfl), A2⟩
   | false =>
    go_wp2
    go_ret
    exact ⟨ret_int (by rw [HQ.out, if_neg HM.out, HFT.out]; rfl), A2⟩
end Go.Proofs.YtmnbalbiehlkpaaGreatDoor
