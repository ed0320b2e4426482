/- Proved: the tied card of the statement slotcodelaw17.ValidPrograms: for every argument that the row lets in, the law function returns true and every argument reads as before.
   Conditions: those of the row and no others: the listed package variables read as the card says, and the argument's weight is within reach. -/
import Derived.Test.YtmofdnlefjfcfaaGreatDoorJSameI
import Derived.Test.YtmofdnlefjfcfaaGreatDoorJLawO
import Derived.Test.YtmofdnlefjfcfaaGreatDoorCards
import Derived.Test.YtmofdnlefjfcfaaGreatDoorTie
import Derived.Lay
import Derived.LaidOnce
import Derived.SevenTiedAt
import Derived.Carry
import Derived.ProofKit
set_option linter.unusedVariables false
set_option linter.unnecessarySimpa false
set_option linter.unusedSimpArgs false
namespace Go.Proofs.YtmofdnlefjfcfaaGreatDoor
open Go.RowKit Go.Lib Go.ChangeShapes Go.WideShapes Go.ChangeAt
set_option maxRecDepth 100000
theorem validPrograms_w1 (os : Os) : ((World.laidAll Tryz.prog os Rows.objectProgramsRow.laid).forCall (fun _ _ => 0) ⟨#[], #[.agg #[.slice none 0 0, .slice none 0 0]], []⟩).Shaped Tryz.checked.prog := World.shaped_of_ZipB (by kernel_rfl) (by kernel_rfl)
theorem validPrograms_w2 (os : Os) : Input.okWideB Tryz.checked.prog ((World.laidAll Tryz.prog os Rows.objectProgramsRow.laid).forCall (fun _ _ => 0) ⟨#[], #[.agg #[.slice none 0 0, .slice none 0 0]], []⟩) 4 ⟨#[], #[.agg #[.slice none 0 0, .slice none 0 0]], []⟩ = true := by kernel_rfl
theorem validPrograms_w3 (os : Os) (H : Type) (enc : TypeId × Value → H) : Rows.validProgramsSpec.preB enc Tryz.checked.prog Tryz.f4 [] false ((World.laidAll Tryz.prog os Rows.objectProgramsRow.laid).forCall (fun _ _ => 0) ⟨#[], #[.agg #[.slice none 0 0, .slice none 0 0]], []⟩).memory #[.agg #[.slice none 0 0, .slice none 0 0]] 8 = true := by kernel_rfl
theorem validPrograms_w4 (os : Os) (H : Type) (enc : TypeId × Value → H) : Rows.validProgramsSpec.sizedB enc Tryz.checked.prog Tryz.f4 false ((World.laidAll Tryz.prog os Rows.objectProgramsRow.laid).forCall (fun _ _ => 0) ⟨#[], #[.agg #[.slice none 0 0, .slice none 0 0]], []⟩).memory #[.agg #[.slice none 0 0, .slice none 0 0]] 8 = true := by kernel_rfl
theorem validPrograms_w5 (os : Os) : laidMetH Tryz.prog Rows.objectProgramsRow.laid ((World.laidAll Tryz.prog os Rows.objectProgramsRow.laid).forCall (fun _ _ => 0) ⟨#[], #[.agg #[.slice none 0 0, .slice none 0 0]], []⟩).memory := by
 rw [MakeChecks.laidMetH_plain _ _ _ plainH]
 exact laidMet_laidAll _ (by kernel_rfl) (by kernel_rfl)
theorem validPrograms_lifted (os : Os) (started : os.Started) (H : Type) (enc : TypeId × Value → H) :
  ReturnsInHanded {} Tryz.checked os 4 .any (fun w args => (Rows.validProgramsSpec.pre enc Tryz.prog Tryz.f4 [] false w args ∧ laidMetH Tryz.prog Rows.objectProgramsRow.laid w) ∧ sizedMet enc Tryz.prog Tryz.f4 (OpenSpec.ofChange Rows.validProgramsSpec) false w args)
   (Rows.validProgramsSpec.post enc Tryz.prog Tryz.f4 false true false false) := by
 refine returnsInHanded_of_change_and (C := Tryz.checked) (X := fun w _ => laidMetH Tryz.prog Rows.objectProgramsRow.laid w) (fun _ _ _ hh h => h.of_heap hh) own started (by kernel_rfl) Tryz.func4
  (ChangeSpec.witness_shaped (enc := enc) (C := Tryz.checked) (os := os) (X := fun w _ => laidMetH Tryz.prog Rows.objectProgramsRow.laid w) false (World.laidAll Tryz.prog os Rows.objectProgramsRow.laid) #[.agg #[.slice none 0 0, .slice none 0 0]] 8 (World.laidAll_os _ _ _)
   (validPrograms_w1 os) (validPrograms_w2 os) (validPrograms_w3 os H enc) (validPrograms_w4 os H enc) (validPrograms_w5 os)) ?_
 intro W base args ds gs before hval0 hW _ hsz hL _
 have hval : ∀ (j : Nat) t v, Tryz.f4.params[j]? = some t → args[j]? = some v → Value.okWide Tryz.prog W .any base t v := hval0
 have hW' := hW
 obtain ⟨p, q, hA0, hV, rfl, _, _⟩ := hW
 have hA : DataW.TrodAll enc Tryz.prog W 0 (fun _ => true) true Tryz.f4.params.toList args.toList ds p := hA0
 rw [Tryz.params4] at hA hval
 obtain ⟨v0, d0, rfl, rfl, h0⟩ := trodAll_one hA
 obtain ⟨rfl, rfl⟩ := trodVars_none hV
 simp only [List.append_nil] at hW'
 have hsz' : (DataW.weightsEach Tryz.prog [25] [d0]).all (· ≤ reachBytes) = true := by
  have h1 : DataW.weightsEach Tryz.prog (Tryz.f4.params.toList ++ Rows.validProgramsSpec.plain.varTypes Tryz.prog) ([d0] ++ []) = DataW.weightsEach Tryz.prog [25] [d0] := by
   rw [Tryz.params4]; rfl
  rw [← h1]; exact hsz
 have hw0 : (d0.weights Tryz.prog 25).all (· ≤ reachBytes) = true := by
  rw [DataW.weightsEach] at hsz'
  exact (all_split hsz').1
 rw [MakeChecks.laidMetH_plain _ _ _ plainH] at hL
 obtain ⟨o, ho⟩ := isPr_of_trod (hval 0 25 v0 rfl rfl) h0 hw0
 have hlt : ∀ x ∈ p, x.block < W.heap.size := fun x hx => hW'.lt x hx
 refine (validPrograms_any v0 o W ho (glob_of_laid hL) (none_of_laid hL) (ops_of_laid hL) (wid_of_laid hL)).mono fun e W' ⟨he, hb⟩ => ?_
 subst he
 exact ⟨_, rfl, _, _, _, [], _, [], hW', trodAll_mk1 (shut_bool Tryz.underlying4 _), trodAll_mk1 (Below.trod laidOut (by kernel_rfl) (of_decide_eq_true (by kernel_rfl)) h0 hb hlt), rfl, hb.frame _, fun h => by cases h⟩
theorem validPrograms_ip : (Rows.validProgramsRow.inPlace == Tryz.pinned.checked.prog.inPlace 4) = true := by kernel_rfl
theorem validPrograms_un : (Rows.validProgramsRow.unfollowed == Tryz.pinned.checked.prog.unfollowed 4) = true := by kernel_rfl
theorem validPrograms_re : (Rows.validProgramsRow.recurses == Tryz.pinned.checked.prog.recurses 4) = true := by kernel_rfl
theorem validPrograms_na : (Rows.validProgramsRow.named == Tryz.pinned.checked.prog.varsNamed 4) = true := by kernel_rfl
theorem validPrograms_pk : (Rows.validProgramsRow.plainKeys == Tryz.pinned.checked.prog.plainKeys) = true := p_pk
theorem validPrograms_lf : (Rows.validProgramsRow.lifted == Tryz.pinned.checked.prog.liftsFinal) = true := p_lf
theorem validPrograms_mk : (Tryz.pinned.checked.prog.make == some Rows.validProgramsRow.make) = true := p_mk
theorem validPrograms_closed : joinedFacts Tryz.pinned.checked.prog 4 Tryz.f4 Rows.validProgramsSpec Rows.validProgramsRow = true := by
 simp only [joinedFacts, p_lay, p_mr, p_sh, p_me, validPrograms_ip, validPrograms_un, validPrograms_re, validPrograms_na, validPrograms_pk, validPrograms_lf, validPrograms_mk, Bool.and_true, Bool.true_and]
 kernel_rfl
theorem validPrograms_nm : Tryz.pinned.checked.prog.funcNamed Rows.validProgramsRow.func = some 4 := by kernel_rfl
theorem validPrograms_holds : Rows.validProgramsRow.holds Tryz.pinned (OpenSpec.ofChange Rows.validProgramsSpec) :=
 OpenClaim.holds_of_wide 4 Tryz.f4 rfl rfl rfl rfl rfl rfl rfl ⟨rfl, rfl, rfl, rfl, rfl⟩ rfl rfl rfl rfl rfl validPrograms_nm Tryz.func4 validPrograms_closed
  (of_decide_eq_true (by kernel_rfl)) (by unfold Func.isWrapper; first | (rw [if_pos (by decide +kernel)]; kernel_rfl) | (rw [if_neg (by decide +kernel)]; exact ⟨rfl, rfl⟩))
  (fun os started H enc _ => validPrograms_lifted os started H enc)
theorem validPrograms_card : Rows.ValidProgramsCardSaid :=
 Claim7.holds_tied_plain_at .later [] [.data, .data, .data, .sentinel, .sentinel, .data, .data, .widerDeep, .data, .pinned, .pinned] true (true, "1048327d93722b48b19983cf21cab0543a974b4e9890764b65e51f79a095c64d") true validPrograms_holds (fun _ h => by cases h) (by kernel_rfl) (fun _ h => by cases h) validPrograms_row_tie rfl ⟨rfl, rfl⟩ (by kernel_rfl) rfl
  (fun f fn hf hfn => by
   obtain rfl : f = 4 := Option.some.inj ((show Tryz.prog.funcNamed "slotcode/slotcodelaw17.ValidPrograms" = some 4 by kernel_rfl).symm.trans hf) |>.symm
   obtain rfl : fn = Tryz.f4 := (Option.some.inj (Tryz.func4.symm.trans hfn)).symm
   exact ⟨by kernel_rfl, fun j t ht => by
    rw [Tryz.params4] at ht
    have hm : t ∈ [25] := by simpa using Array.mem_of_getElem? ht
    have hall : ([25].all fun u => !Tryz.prog.wantsStandIn u) = true := by kernel_rfl
    exact (show Tryz.prog.wantsStandIn t = false by simpa using List.all_eq_true.1 hall t hm)⟩)
  (by kernel_rfl)
end Go.Proofs.YtmofdnlefjfcfaaGreatDoor
