/- The statement ValidTargets, walked. -/
import Derived.Test.YtiaddncjghkajaaGreatDoorJPaBig
set_option linter.unusedVariables false
set_option linter.unusedSimpArgs false
namespace Go.Proofs.YtiaddncjghkajaaGreatDoor
open Go.RowKit Go.Lib

set_option maxRecDepth 40000 in
set_option maxHeartbeats 8000000 in
theorem validTargets_any (v : Value) (L : List Ins) (w : World) (h : IsIns w v L) (hG : Glob w) (hN : NoneV w) (hO : OpsN w) (hWd : WidN w) :
  Calls Tryz.prog 11 #[v] w fun e w' => e = .returned (.bool true) ∧ Ext w w' := by
 obtain ⟨A, c, rfl, hc, -, hv⟩ := h.form
 have CA := hx fun (W : World) (hW : Ext w W) => alive17_any W (hG.ext hW) (hN.ext hW) (hO.ext hW) (hWd.ext hW)
 obtain ⟨m, hm⟩ : ∃ m, m = L.length := ⟨_, rfl⟩
 rw [← hm] at hv hc ⊢
 by_cases hl : m ≤ 100
 ·have d1 : decide ((m : Int) > 100) = false := decide_eq_false (by omega)
  have CT := hx fun (W : World) (hW : Ext w W) (ho : OffOk L) => Targets_any _ L W (IsIns.ext hv hW) (by omega) ho (hO.ext hW)
  have CR := hx fun (W : World) (hW : Ext w W) (ho : OffOk L) => refTargets_any _ L W (IsIns.ext hv hW) (by omega) ho
  have CE := hx fun (va vb : Value) (W : World) (ha : IsInts W va (tgtL L)) (hb : IsInts W vb (tgtL L)) => (equalI_any va vb _ _ W ha hb).mono (R' := fun e w' => e = .returned (.bool true) ∧ Ext W w') fun e w' h => by simpa using h
  have HM := hx hm
  clear hm hG hN hO hWd h
  go_enter Tryz.func11, Tryz.ntmps11
  go_wp2
  go_loopw [15] (fun i wr => ∃ k : Nat, k ≤ m ∧ i = .int .i64 (k : Nat) ∧ (∀ j, j < k → -1000000 ≤ (L.getD j default).off ∧ (L.getD j default).off ≤ 1000000) ∧ Ext w wr) (fun i _ => m - (RowKit.intOf i).toNat)
  case atStart => exact ⟨0, by omega, rfl, by intro j hj; omega, Ext.refl _⟩
  case round =>
   obtain ⟨k, hk, rfl, hn, he⟩ := hrel
   have HN := Go.Proofs.YtiaddncjghkajaaGreatDoor.hx hn
   clear hn
   by_cases hlt : k < m
   ·obtain ⟨x, hx0⟩ : ∃ x, L[k]? = some x := ⟨_, List.getElem?_eq_getElem (by have := HM.out; omega)⟩
    have hg : L.getD k default = x := by rw [List.getD_eq_getElem?_getD, hx0]; rfl
    obtain ⟨bx, ox, rfl, hE⟩ := (IsIns.ext hv he).get hx0
    obtain ⟨⟨k0, k1, k2, k3, k4, k5⟩, hok⟩ := hE
    have hkm : (k : Int) < (m : Int) := by omega
    have ex := he.trans (Ext.new wr (.cells #[.int .i64 x.op, .bool x.reg, .int .i64 x.dst, .int .i64 x.src, .int .i64 x.off, .int .i64 x.imm] 69))
    have HA := hx (CA.out _ ex)
    have EX := hx ex
    have HG := hx (congrArg Ins.off hg)
    have HLT := hx hlt
    obtain ⟨op, reg, n1, n2, n3, n4⟩ := x
    dsimp only at *
    clear hx0 hg hok ex he hlt
    by_cases h1 : n3 < -1000000
    ·have q1 : decide (n3 < -1000000) = true := decide_eq_true h1
     clear h1
     go_wp2_with fail
     refine HA.out.mono ?_
     rintro e w5 ⟨rfl, e5⟩
     go_wp2
     go_ret
     exact ⟨rfl, EX.out.trans e5⟩
    ·have q1 : decide (n3 < -1000000) = false := decide_eq_false h1
     have H1 := hx h1
     clear h1
     by_cases h2 : n3 > 1000000
     ·have q2 : decide (n3 > 1000000) = true := decide_eq_true h2
      clear h2
      go_wp2_with fail
      refine HA.out.mono ?_
      rintro e w5 ⟨rfl, e5⟩
      go_wp2
      go_ret
      exact ⟨rfl, EX.out.trans e5⟩
     ·have q2 : decide (n3 > 1000000) = false := decide_eq_false h2
      have H2 := hx h2
      clear h2
      go_wp2
      go_roundw
      case rel => exact ⟨k + 1, HLT.out, by go_num, fun j hj => (Nat.lt_succ_iff_lt_or_eq.1 hj).elim (HN.out j) (fun h => by rw [h, HG.out]; have := H1.out; have := H2.out; omega), EX.out⟩
      case measure => simp [RowKit.intOf]; omega
   ·obtain rfl : k = m := by omega
    have hof : OffOk L := fun x hx => by
     obtain ⟨i, hi, rfl⟩ := List.mem_iff_getElem.1 hx
     have h1 := HN.out i (by rw [HM.out]; exact hi)
     rwa [List.getD_eq_getElem?_getD, List.getElem?_eq_getElem hi] at h1
    have HOF := hx hof
    have HTB := hx (show tgtBad L = tgtBad L from rfl)
    generalize tgtBad L = TB at *
    have hTT : (tgtL L).length ≤ 281474976710656 := by
     unfold tgtL
     split
     ·rw [List.length_map, List.length_range, ← HM.out]; omega
     ·simp
    generalize tgtL L = TT at *
    clear hof hTT
    go_wp2_with fail
    refine (CT.out _ he HOF.out).mono ?_
    rintro e w2 ⟨v2, rfl, i2, e2⟩
    obtain ⟨A2, c2, rfl, -, -, i3⟩ := i2.form
    have E2 := he.trans e2
    clear CT e2 he i2
    go_wp2_with fail
    refine (CR.out _ E2 HOF.out).mono ?_
    rintro e w3 ⟨v3, rfl, i4, e3⟩
    obtain ⟨A3, c3, rfl, -, -, i5⟩ := i4.form
    have i6 := IsInts.ext i3 e3
    have E3 := E2.trans e3
    clear CR E2 e3 i3 i4
    go_wp2_with fail
    refine (CA.out w3 E3).mono ?_
    rintro e w4 ⟨rfl, e4⟩
    have HQ := hx (CE.out _ _ w4 (IsInts.ext i6 e4) (IsInts.ext i5 e4))
    have E4 := hx (E3.trans e4)
    clear CE i6 i5 e4 E3
    go_wp2_with fail
    refine HQ.out.mono ?_
    rintro e w5 ⟨rfl, e5⟩
    go_wp2
    go_ret
    exact ⟨ret_bool (by simp), E4.out.trans e5⟩
 ·have d1 : decide ((m : Int) > 100) = true := decide_eq_true (by omega)
  clear hm hG hN hO hWd h hv hc hl
  go_enter Tryz.func11, Tryz.ntmps11
  go_wp2_with fail
  refine (CA.out w (Ext.refl _)).mono ?_
  rintro e w4 ⟨rfl, e4⟩
  go_wp2
  go_ret
  exact ⟨rfl, e4⟩
end Go.Proofs.YtiaddncjghkajaaGreatDoor


set_option linter.unusedVariables false
set_option linter.unnecessarySimpa false
set_option linter.unusedSimpArgs false
namespace Go.Proofs.YtiaddncjghkajaaGreatDoor
open Go.Joins Go.ChangeShapes Go.WideShapes Go.RowKit Go.Deep

section
variable {H : Type} {enc : TypeId × Value → H} {w : World} {base : Nat} {spare : Nat → Bool} {held : Bool}
set_option maxRecDepth 100000 in
theorem isIns_of_trod {fuel : Nat} {v : Value} {x : DataW H × List MemPlace} (h : DataW.trod enc Tryz.prog w base spare held fuel 62 [v] = some x) (hw : (x.1.weights Tryz.prog 62).all (· ≤ reachBytes) = true) : ∃ l, IsIns w v l :=
 sl_of_trod (sz := 6) (bytes := 48) Tryz.underlying62 (by kernel_rfl) (by decide) (by kernel_rfl) (by decide) (fun n cs' d ps ht hl hwd => by
  obtain ⟨xs, n', _, hx, _, hxl, hf⟩ := DataW.trod_struct Tryz.underlying69 ht
  match cs', hl with
  | [c0, c1, c2, c3, c4, c5], _ =>
   match xs, hxl with
   | [y0, y1, y2, y3, y4, y5], _ =>
    have k3 : Tryz.prog.cellsOf 3 = 1 := by kernel_rfl
    have k4 : Tryz.prog.cellsOf 4 = 1 := by kernel_rfl
    have k2 : Tryz.prog.cellsOf 2 = 1 := by kernel_rfl
    have h0 := hf 0 _ rfl
    have h1 := hf 1 _ rfl
    have h2 := hf 2 _ rfl
    have h3 := hf 3 _ rfl
    have h4 := hf 4 _ rfl
    have h5 := hf 5 _ rfl
    simp only [k3, k4, k2, List.drop_zero, List.drop_succ_cons, List.take_succ_cons, List.take_zero, List.getElem?_cons_zero, List.getElem?_cons_succ] at h0 h1 h2 h3 h4 h5
    obtain ⟨z0, e0, f0, w0⟩ := DataW.trod_int Tryz.underlying3 h0
    obtain ⟨b1, e1, f1⟩ := DataW.trod_bool Tryz.underlying4 h1
    obtain ⟨z2, e2, f2, w2⟩ := DataW.trod_int Tryz.underlying3 h2
    obtain ⟨z3, e3, f3, w3⟩ := DataW.trod_int Tryz.underlying3 h3
    obtain ⟨z4, e4, f4, w4⟩ := DataW.trod_int Tryz.underlying3 h4
    obtain ⟨z5, e5, f5, w5⟩ := DataW.trod_int Tryz.underlying2 h5
    obtain rfl : c0 = .int .i64 z0 := by simpa [k3] using e0
    obtain rfl : c1 = .bool b1 := by simpa [k4] using e1
    obtain rfl : c2 = .int .i64 z2 := by simpa [k3] using e2
    obtain rfl : c3 = .int .i64 z3 := by simpa [k3] using e3
    obtain rfl : c4 = .int .i64 z4 := by simpa [k3] using e4
    obtain rfl : c5 = .int .i64 z5 := by simpa [k2] using e5
    exact ⟨⟨z0, b1, z2, z3, z4, z5⟩, fun b o hc => ⟨⟨by simpa using hc 0 (by decide), by simpa using hc 1 (by decide), by simpa using hc 2 (by decide), by simpa using hc 3 (by decide), by simpa using hc 4 (by decide), by simpa using hc 5 (by decide)⟩, ⟨wf_i64 w0, wf_i64 w2, wf_i64 w3, wf_i64 w4, wf_i64 w5⟩⟩⟩) h hw
end
end Go.Proofs.YtiaddncjghkajaaGreatDoor
