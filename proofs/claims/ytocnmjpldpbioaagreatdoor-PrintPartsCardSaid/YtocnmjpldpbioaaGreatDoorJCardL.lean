/- Proved: the tied card of the statement slotcodelaw11.PrintParts: for every argument that the row lets in, the law function returns true and every argument reads as before.
   Conditions: those of the row and no others: the listed package variables read as the card says, and the argument's weight is within reach. -/
import Derived.Test.YtocnmjpldpbioaaGreatDoorJPrnL
import Derived.Test.YtocnmjpldpbioaaGreatDoorCards
import Derived.Test.YtocnmjpldpbioaaGreatDoorTie
import Derived.Lay
import Derived.LaidOnce
import Derived.SevenTiedAt
import Derived.Carry
import Derived.ProofKit
set_option linter.unusedVariables false
set_option linter.unnecessarySimpa false
set_option linter.unusedSimpArgs false
namespace Go.Proofs.YtocnmjpldpbioaaGreatDoor
open Go.RowKit Go.Lib Go.ChangeShapes Go.WideShapes Go.ChangeAt
set_option maxRecDepth 100000
theorem printParts_w1 (os : Os) : ((World.laidAll Tryz.prog os Rows.printPartsRow.laid).forCall (fun _ _ => 0) ⟨#[], #[.int .i64 0, .int .i64 0, .int .i64 0], []⟩).Shaped Tryz.checked.prog := World.shaped_of_ZipB (by kernel_rfl) (by kernel_rfl)
theorem printParts_w2 (os : Os) : Input.okWideB Tryz.checked.prog ((World.laidAll Tryz.prog os Rows.printPartsRow.laid).forCall (fun _ _ => 0) ⟨#[], #[.int .i64 0, .int .i64 0, .int .i64 0], []⟩) 3 ⟨#[], #[.int .i64 0, .int .i64 0, .int .i64 0], []⟩ = true := by kernel_rfl
theorem printParts_w3 (os : Os) (H : Type) (enc : TypeId × Value → H) : Rows.printPartsSpec.preB enc Tryz.checked.prog Tryz.f3 [] false ((World.laidAll Tryz.prog os Rows.printPartsRow.laid).forCall (fun _ _ => 0) ⟨#[], #[.int .i64 0, .int .i64 0, .int .i64 0], []⟩).memory #[.int .i64 0, .int .i64 0, .int .i64 0] 8 = true := by kernel_rfl
theorem printParts_w4 (os : Os) (H : Type) (enc : TypeId × Value → H) : Rows.printPartsSpec.sizedB enc Tryz.checked.prog Tryz.f3 false ((World.laidAll Tryz.prog os Rows.printPartsRow.laid).forCall (fun _ _ => 0) ⟨#[], #[.int .i64 0, .int .i64 0, .int .i64 0], []⟩).memory #[.int .i64 0, .int .i64 0, .int .i64 0] 8 = true := by kernel_rfl
theorem printParts_w5 (os : Os) : laidMetH Tryz.prog Rows.printPartsRow.laid ((World.laidAll Tryz.prog os Rows.printPartsRow.laid).forCall (fun _ _ => 0) ⟨#[], #[.int .i64 0, .int .i64 0, .int .i64 0], []⟩).memory := by
 rw [MakeChecks.laidMetH_plain _ _ _ plainH]
 exact laidMet_laidAll _ (by kernel_rfl) (by kernel_rfl)
theorem printParts_lifted (os : Os) (started : os.Started) (H : Type) (enc : TypeId × Value → H) :
  ReturnsInHanded {} Tryz.checked os 3 .any (fun w args => (Rows.printPartsSpec.pre enc Tryz.prog Tryz.f3 [] false w args ∧ laidMetH Tryz.prog Rows.printPartsRow.laid w) ∧ sizedMet enc Tryz.prog Tryz.f3 (OpenSpec.ofChange Rows.printPartsSpec) false w args)
   (Rows.printPartsSpec.post enc Tryz.prog Tryz.f3 false true false false) := by
 refine returnsInHanded_of_change_and (C := Tryz.checked) (X := fun w _ => laidMetH Tryz.prog Rows.printPartsRow.laid w) (fun _ _ _ hh h => h.of_heap hh) own started (by kernel_rfl) Tryz.func3
  (ChangeSpec.witness_shaped (enc := enc) (C := Tryz.checked) (os := os) (X := fun w _ => laidMetH Tryz.prog Rows.printPartsRow.laid w) false (World.laidAll Tryz.prog os Rows.printPartsRow.laid) #[.int .i64 0, .int .i64 0, .int .i64 0] 8 (World.laidAll_os _ _ _)
   (printParts_w1 os) (printParts_w2 os) (printParts_w3 os H enc) (printParts_w4 os H enc) (printParts_w5 os)) ?_
 intro W base args ds gs before hval0 hW _ _ hL _
 have hval : ∀ (j : Nat) t v, Tryz.f3.params[j]? = some t → args[j]? = some v → Value.okWide Tryz.prog W .any base t v := hval0
 have hW' := hW
 obtain ⟨p, q, hA0, hV, rfl, _, _⟩ := hW
 have hA : DataW.TrodAll enc Tryz.prog W 0 (fun _ => true) true Tryz.f3.params.toList args.toList ds p := hA0
 rw [Tryz.params3] at hA hval
 obtain ⟨v0, v1, v2, d0, d1, d2, p0, p1, p2, rfl, rfl, rfl, h0, h1, h2⟩ := trodAll_three hA
 obtain ⟨rfl, rfl⟩ := trodVars_none hV
 obtain ⟨x0, rfl, rfl, rfl, i0⟩ := open_int Tryz.underlying2 (hval 0 2 v0 rfl rfl) h0
 obtain ⟨x1, rfl, rfl, rfl, i1⟩ := open_int Tryz.underlying3 (hval 1 3 v1 rfl rfl) h1
 obtain ⟨x2, rfl, rfl, rfl, i2⟩ := open_int Tryz.underlying3 (hval 2 3 v2 rfl rfl) h2
 simp only [List.append_nil] at hW'
 have b : ∀ n, (Lit.int .i64 n).wf = true → I64 n := fun n h => by
  simp only [Lit.wf, Bool.and_eq_true, decide_eq_true_eq] at h
  exact ⟨h.1, h.2⟩
 rw [MakeChecks.laidMetH_plain _ _ _ plainH] at hL
 refine (printParts_any x0 x1 x2 W (b _ i0) (b _ i1) (b _ i2) (props_of_laid hL) (none_of_laid hL) (wid_of_laid hL) (pow_of_laid hL)).mono fun e W' ⟨he, hb⟩ => ?_
 subst he
 exact ⟨_, rfl, _, _, _, [], _, [], hW', trodAll_mk1 (shut_bool Tryz.underlying4 _), trodAll_mk3 (shut_int Tryz.underlying2 i0) (shut_int Tryz.underlying3 i1) (shut_int Tryz.underlying3 i2), rfl, hb.frame _, fun h => by cases h⟩
theorem printParts_ip : (Rows.printPartsRow.inPlace == Tryz.pinned.checked.prog.inPlace 3) = true := by kernel_rfl
theorem printParts_un : (Rows.printPartsRow.unfollowed == Tryz.pinned.checked.prog.unfollowed 3) = true := by kernel_rfl
theorem printParts_re : (Rows.printPartsRow.recurses == Tryz.pinned.checked.prog.recurses 3) = true := by kernel_rfl
theorem printParts_na : (Rows.printPartsRow.named == Tryz.pinned.checked.prog.varsNamed 3) = true := by kernel_rfl
theorem printParts_pk : (Rows.printPartsRow.plainKeys == Tryz.pinned.checked.prog.plainKeys) = true := p_pk
theorem printParts_lf : (Rows.printPartsRow.lifted == Tryz.pinned.checked.prog.liftsFinal) = true := p_lf
theorem printParts_mk : (Tryz.pinned.checked.prog.make == some Rows.printPartsRow.make) = true := p_mk
theorem printParts_closed : joinedFacts Tryz.pinned.checked.prog 3 Tryz.f3 Rows.printPartsSpec Rows.printPartsRow = true := by
 simp only [joinedFacts, p_lay, p_mr, p_sh, p_me, printParts_ip, printParts_un, printParts_re, printParts_na, printParts_pk, printParts_lf, printParts_mk, Bool.and_true, Bool.true_and]
 kernel_rfl
theorem printParts_nm : Tryz.pinned.checked.prog.funcNamed Rows.printPartsRow.func = some 3 := by kernel_rfl
theorem printParts_holds : Rows.printPartsRow.holds Tryz.pinned (OpenSpec.ofChange Rows.printPartsSpec) :=
 OpenClaim.holds_of_wide 3 Tryz.f3 rfl rfl rfl rfl rfl rfl rfl ⟨rfl, rfl, rfl, rfl, rfl⟩ rfl rfl rfl rfl rfl printParts_nm Tryz.func3 printParts_closed
  (of_decide_eq_true (by kernel_rfl)) (by unfold Func.isWrapper; first | (rw [if_pos (by decide +kernel)]; kernel_rfl) | (rw [if_neg (by decide +kernel)]; exact ⟨rfl, rfl⟩))
  (fun os started H enc _ => printParts_lifted os started H enc)
theorem printParts_card : Rows.PrintPartsCardSaid :=
 Claim7.holds_tied_plain_at .later [] [.data, .data, .data, .data, .widerDeep, .data] true (true, "3bba62a95287e7e38d6be09d68aa6373903498c9b0568151da4ef3cde2336068") true printParts_holds (fun _ h => by cases h) (by kernel_rfl) (fun _ h => by cases h) printParts_row_tie rfl ⟨rfl, rfl⟩ (by kernel_rfl) rfl
  (fun f fn hf hfn => by
   obtain rfl : f = 3 := Option.some.inj ((show Tryz.prog.funcNamed "slotcode/slotcodelaw11.PrintParts" = some 3 by kernel_rfl).symm.trans hf) |>.symm
   obtain rfl : fn = Tryz.f3 := (Option.some.inj (Tryz.func3.symm.trans hfn)).symm
   exact ⟨by kernel_rfl, fun j t ht => by
    rw [Tryz.params3] at ht
    have hm : t ∈ [2, 3, 3] := by simpa using Array.mem_of_getElem? ht
    have hall : ([2, 3, 3].all fun u => !Tryz.prog.wantsStandIn u) = true := by kernel_rfl
    exact (show Tryz.prog.wantsStandIn t = false by simpa using List.all_eq_true.1 hall t hm)⟩)
  (by kernel_rfl)
end Go.Proofs.YtocnmjpldpbioaaGreatDoor
