/- Proved: the tied card of the statement slotcodelaw17.ValidTargets: for every argument that the row lets in, the law function returns true and every argument reads as before.
   Conditions: those of the row and no others: the listed package variables read as the card says, and the argument's weight is within reach. -/
import Derived.Test.YtiaddncjghkajaaGreatDoorJLawT
import Derived.Test.YtiaddncjghkajaaGreatDoorJPaBig
import Derived.Test.YtiaddncjghkajaaGreatDoorCards
import Derived.Test.YtiaddncjghkajaaGreatDoorTie
import Derived.Lay
import Derived.LaidOnce
import Derived.SevenTiedAt
import Derived.Carry
import Derived.ProofKit
set_option linter.unusedVariables false
set_option linter.unnecessarySimpa false
set_option linter.unusedSimpArgs false
namespace Go.Proofs.YtiaddncjghkajaaGreatDoor
open Go.RowKit Go.Lib Go.ChangeShapes Go.WideShapes Go.ChangeAt
set_option maxRecDepth 100000
theorem validTargets_w1 (os : Os) : ((World.laidAll Tryz.prog os Rows.objectChecksRow.laid).forCall (fun _ _ => 0) ⟨#[], #[.slice none 0 0], []⟩).Shaped Tryz.checked.prog := World.shaped_of_ZipB (by kernel_rfl) (by kernel_rfl)
theorem validTargets_w2 (os : Os) : Input.okWideB Tryz.checked.prog ((World.laidAll Tryz.prog os Rows.objectChecksRow.laid).forCall (fun _ _ => 0) ⟨#[], #[.slice none 0 0], []⟩) 11 ⟨#[], #[.slice none 0 0], []⟩ = true := by kernel_rfl
theorem validTargets_w3 (os : Os) (H : Type) (enc : TypeId × Value → H) : Rows.validTargetsSpec.preB enc Tryz.checked.prog Tryz.f11 [] false ((World.laidAll Tryz.prog os Rows.objectChecksRow.laid).forCall (fun _ _ => 0) ⟨#[], #[.slice none 0 0], []⟩).memory #[.slice none 0 0] 8 = true := by kernel_rfl
theorem validTargets_w4 (os : Os) (H : Type) (enc : TypeId × Value → H) : Rows.validTargetsSpec.sizedB enc Tryz.checked.prog Tryz.f11 false ((World.laidAll Tryz.prog os Rows.objectChecksRow.laid).forCall (fun _ _ => 0) ⟨#[], #[.slice none 0 0], []⟩).memory #[.slice none 0 0] 8 = true := by kernel_rfl
theorem validTargets_w5 (os : Os) : laidMetH Tryz.prog Rows.objectChecksRow.laid ((World.laidAll Tryz.prog os Rows.objectChecksRow.laid).forCall (fun _ _ => 0) ⟨#[], #[.slice none 0 0], []⟩).memory := by
 rw [MakeChecks.laidMetH_plain _ _ _ plainH]
 exact laidMet_laidAll _ (by kernel_rfl) (by kernel_rfl)
theorem validTargets_lifted (os : Os) (started : os.Started) (H : Type) (enc : TypeId × Value → H) :
  ReturnsInHanded {} Tryz.checked os 11 .any (fun w args => (Rows.validTargetsSpec.pre enc Tryz.prog Tryz.f11 [] false w args ∧ laidMetH Tryz.prog Rows.objectChecksRow.laid w) ∧ sizedMet enc Tryz.prog Tryz.f11 (OpenSpec.ofChange Rows.validTargetsSpec) false w args)
   (Rows.validTargetsSpec.post enc Tryz.prog Tryz.f11 false true false false) := by
 refine returnsInHanded_of_change_and (C := Tryz.checked) (X := fun w _ => laidMetH Tryz.prog Rows.objectChecksRow.laid w) (fun _ _ _ hh h => h.of_heap hh) own started (by kernel_rfl) Tryz.func11
  (ChangeSpec.witness_shaped (enc := enc) (C := Tryz.checked) (os := os) (X := fun w _ => laidMetH Tryz.prog Rows.objectChecksRow.laid w) false (World.laidAll Tryz.prog os Rows.objectChecksRow.laid) #[.slice none 0 0] 8 (World.laidAll_os _ _ _)
   (validTargets_w1 os) (validTargets_w2 os) (validTargets_w3 os H enc) (validTargets_w4 os H enc) (validTargets_w5 os)) ?_
 intro W base args ds gs before hval0 hW _ hsz hL _
 have hval : ∀ (j : Nat) t v, Tryz.f11.params[j]? = some t → args[j]? = some v → Value.okWide Tryz.prog W .any base t v := hval0
 have hW' := hW
 obtain ⟨p, q, hA0, hV, rfl, _, _⟩ := hW
 have hA : DataW.TrodAll enc Tryz.prog W 0 (fun _ => true) true Tryz.f11.params.toList args.toList ds p := hA0
 rw [Tryz.params11] at hA hval
 obtain ⟨v0, d0, rfl, rfl, h0⟩ := trodAll_one hA
 obtain ⟨rfl, rfl⟩ := trodVars_none hV
 simp only [List.append_nil] at hW'
 have hsz' : (DataW.weightsEach Tryz.prog [62] [d0]).all (· ≤ reachBytes) = true := by
  have h1 : DataW.weightsEach Tryz.prog (Tryz.f11.params.toList ++ Rows.validTargetsSpec.plain.varTypes Tryz.prog) ([d0] ++ []) = DataW.weightsEach Tryz.prog [62] [d0] := by
   rw [Tryz.params11]; rfl
  rw [← h1]; exact hsz
 have hw0 : (d0.weights Tryz.prog 62).all (· ≤ reachBytes) = true := by
  rw [DataW.weightsEach] at hsz'
  exact (all_split hsz').1
 rw [MakeChecks.laidMetH_plain _ _ _ plainH] at hL
 obtain ⟨o, ho⟩ : ∃ o, IsIns W v0 o := by
  obtain ⟨_, _, _, hv0⟩ := okWide_slice Tryz.underlying62 (hval 0 62 v0 rfl rfl)
  obtain ⟨fu, h0f⟩ := h0
  rw [hv0] at h0f ⊢
  exact isIns_of_trod (x := (d0, p)) (by simpa [Value.cells] using h0f) hw0
 have hlt : ∀ x ∈ p, x.block < W.heap.size := fun x hx => hW'.lt x hx
 refine (validTargets_any v0 o W ho (glob_of_laid hL) (none_of_laid hL) (ops_of_laid hL) (wid_of_laid hL)).mono fun e W' ⟨he, hb⟩ => ?_
 subst he
 exact ⟨_, rfl, _, _, _, [], _, [], hW', trodAll_mk1 (shut_bool Tryz.underlying4 _), trodAll_mk1 (Below.trod laidOut (by kernel_rfl) (of_decide_eq_true (by kernel_rfl)) h0 hb hlt), rfl, hb.frame _, fun h => by cases h⟩
theorem validTargets_ip : (Rows.validTargetsRow.inPlace == Tryz.pinned.checked.prog.inPlace 11) = true := by kernel_rfl
theorem validTargets_un : (Rows.validTargetsRow.unfollowed == Tryz.pinned.checked.prog.unfollowed 11) = true := by kernel_rfl
theorem validTargets_re : (Rows.validTargetsRow.recurses == Tryz.pinned.checked.prog.recurses 11) = true := by kernel_rfl
theorem validTargets_na : (Rows.validTargetsRow.named == Tryz.pinned.checked.prog.varsNamed 11) = true := by kernel_rfl
theorem validTargets_pk : (Rows.validTargetsRow.plainKeys == Tryz.pinned.checked.prog.plainKeys) = true := p_pk
theorem validTargets_lf : (Rows.validTargetsRow.lifted == Tryz.pinned.checked.prog.liftsFinal) = true := p_lf
theorem validTargets_mk : (Tryz.pinned.checked.prog.make == some Rows.validTargetsRow.make) = true := p_mk
theorem validTargets_closed : joinedFacts Tryz.pinned.checked.prog 11 Tryz.f11 Rows.validTargetsSpec Rows.validTargetsRow = true := by
 simp only [joinedFacts, p_lay, p_mr, p_sh, p_me, validTargets_ip, validTargets_un, validTargets_re, validTargets_na, validTargets_pk, validTargets_lf, validTargets_mk, Bool.and_true, Bool.true_and]
 kernel_rfl
theorem validTargets_nm : Tryz.pinned.checked.prog.funcNamed Rows.validTargetsRow.func = some 11 := by kernel_rfl
theorem validTargets_holds : Rows.validTargetsRow.holds Tryz.pinned (OpenSpec.ofChange Rows.validTargetsSpec) :=
 OpenClaim.holds_of_wide 11 Tryz.f11 rfl rfl rfl rfl rfl rfl rfl ⟨rfl, rfl, rfl, rfl, rfl⟩ rfl rfl rfl rfl rfl validTargets_nm Tryz.func11 validTargets_closed
  (of_decide_eq_true (by kernel_rfl)) (by unfold Func.isWrapper; first | (rw [if_pos (by decide +kernel)]; kernel_rfl) | (rw [if_neg (by decide +kernel)]; exact ⟨rfl, rfl⟩))
  (fun os started H enc _ => validTargets_lifted os started H enc)
theorem validTargets_card : Rows.ValidTargetsCardSaid :=
 Claim7.holds_tied_plain_at .later [] [.data, .data, .data, .sentinel, .sentinel, .data, .data, .widerDeep, .data, .pinned, .pinned] true (true, "8052720306b2697fc996d2aead457a34f0e0499eb9d68265617c37f07823bd5c") true validTargets_holds (fun _ h => by cases h) (by kernel_rfl) (fun _ h => by cases h) validTargets_row_tie rfl ⟨rfl, rfl⟩ (by kernel_rfl) rfl
  (fun f fn hf hfn => by
   obtain rfl : f = 11 := Option.some.inj ((show Tryz.prog.funcNamed "slotcode/slotcodelaw17.ValidTargets" = some 11 by kernel_rfl).symm.trans hf) |>.symm
   obtain rfl : fn = Tryz.f11 := (Option.some.inj (Tryz.func11.symm.trans hfn)).symm
   exact ⟨by kernel_rfl, fun j t ht => by
    rw [Tryz.params11] at ht
    have hm : t ∈ [62] := by simpa using Array.mem_of_getElem? ht
    have hall : ([62].all fun u => !Tryz.prog.wantsStandIn u) = true := by kernel_rfl
    exact (show Tryz.prog.wantsStandIn t = false by simpa using List.all_eq_true.1 hall t hm)⟩)
  (by kernel_rfl)
end Go.Proofs.YtiaddncjghkajaaGreatDoor
