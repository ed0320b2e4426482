/- Proved: the tied card of the statement slotcodelaw17.ValidSlots: for every argument that the row lets in, the law function returns true and every argument reads as before.
   Conditions: those of the row and no others: the listed package variables read as the card says, and the argument's weight is within reach. -/
import Derived.Test.YtiaddncjghkajaaGreatDoorJSlotsP
import Derived.Test.YtiaddncjghkajaaGreatDoorJPaBig
import Derived.Test.YtiaddncjghkajaaGreatDoorCards
import Derived.Test.YtiaddncjghkajaaGreatDoorTie
import Derived.Lay
import Derived.LaidOnce
import Derived.SevenTiedAt
import Derived.Carry
import Derived.ProofKit
set_option linter.unusedVariables false
set_option linter.unnecessarySimpa false
set_option linter.unusedSimpArgs false
namespace Go.Proofs.YtiaddncjghkajaaGreatDoor
open Go.RowKit Go.Lib Go.ChangeShapes Go.WideShapes Go.ChangeAt
set_option maxRecDepth 100000
theorem validSlots_w1 (os : Os) : ((World.laidAll Tryz.prog os Rows.objectChecksRow.laid).forCall (fun _ _ => 0) ⟨#[], #[.agg #[.slice none 0 0, .slice none 0 0, .slice none 0 0]], []⟩).Shaped Tryz.checked.prog := World.shaped_of_ZipB (by kernel_rfl) (by kernel_rfl)
theorem validSlots_w2 (os : Os) : Input.okWideB Tryz.checked.prog ((World.laidAll Tryz.prog os Rows.objectChecksRow.laid).forCall (fun _ _ => 0) ⟨#[], #[.agg #[.slice none 0 0, .slice none 0 0, .slice none 0 0]], []⟩) 12 ⟨#[], #[.agg #[.slice none 0 0, .slice none 0 0, .slice none 0 0]], []⟩ = true := by kernel_rfl
theorem validSlots_w3 (os : Os) (H : Type) (enc : TypeId × Value → H) : Rows.validSlotsSpec.preB enc Tryz.checked.prog Tryz.f12 [] false ((World.laidAll Tryz.prog os Rows.objectChecksRow.laid).forCall (fun _ _ => 0) ⟨#[], #[.agg #[.slice none 0 0, .slice none 0 0, .slice none 0 0]], []⟩).memory #[.agg #[.slice none 0 0, .slice none 0 0, .slice none 0 0]] 8 = true := by kernel_rfl
theorem validSlots_w4 (os : Os) (H : Type) (enc : TypeId × Value → H) : Rows.validSlotsSpec.sizedB enc Tryz.checked.prog Tryz.f12 false ((World.laidAll Tryz.prog os Rows.objectChecksRow.laid).forCall (fun _ _ => 0) ⟨#[], #[.agg #[.slice none 0 0, .slice none 0 0, .slice none 0 0]], []⟩).memory #[.agg #[.slice none 0 0, .slice none 0 0, .slice none 0 0]] 8 = true := by kernel_rfl
theorem validSlots_w5 (os : Os) : laidMetH Tryz.prog Rows.objectChecksRow.laid ((World.laidAll Tryz.prog os Rows.objectChecksRow.laid).forCall (fun _ _ => 0) ⟨#[], #[.agg #[.slice none 0 0, .slice none 0 0, .slice none 0 0]], []⟩).memory := by
 rw [MakeChecks.laidMetH_plain _ _ _ plainH]
 exact laidMet_laidAll _ (by kernel_rfl) (by kernel_rfl)
theorem validSlots_lifted (os : Os) (started : os.Started) (H : Type) (enc : TypeId × Value → H) :
  ReturnsInHanded {} Tryz.checked os 12 .any (fun w args => (Rows.validSlotsSpec.pre enc Tryz.prog Tryz.f12 [] false w args ∧ laidMetH Tryz.prog Rows.objectChecksRow.laid w) ∧ sizedMet enc Tryz.prog Tryz.f12 (OpenSpec.ofChange Rows.validSlotsSpec) false w args)
   (Rows.validSlotsSpec.post enc Tryz.prog Tryz.f12 false true false false) := by
 refine returnsInHanded_of_change_and (C := Tryz.checked) (X := fun w _ => laidMetH Tryz.prog Rows.objectChecksRow.laid w) (fun _ _ _ hh h => h.of_heap hh) own started (by kernel_rfl) Tryz.func12
  (ChangeSpec.witness_shaped (enc := enc) (C := Tryz.checked) (os := os) (X := fun w _ => laidMetH Tryz.prog Rows.objectChecksRow.laid w) false (World.laidAll Tryz.prog os Rows.objectChecksRow.laid) #[.agg #[.slice none 0 0, .slice none 0 0, .slice none 0 0]] 8 (World.laidAll_os _ _ _)
   (validSlots_w1 os) (validSlots_w2 os) (validSlots_w3 os H enc) (validSlots_w4 os H enc) (validSlots_w5 os)) ?_
 intro W base args ds gs before hval0 hW _ hsz hL _
 have hval : ∀ (j : Nat) t v, Tryz.f12.params[j]? = some t → args[j]? = some v → Value.okWide Tryz.prog W .any base t v := hval0
 have hW' := hW
 obtain ⟨p, q, hA0, hV, rfl, _, _⟩ := hW
 have hA : DataW.TrodAll enc Tryz.prog W 0 (fun _ => true) true Tryz.f12.params.toList args.toList ds p := hA0
 rw [Tryz.params12] at hA hval
 obtain ⟨v0, d0, rfl, rfl, h0⟩ := trodAll_one hA
 obtain ⟨rfl, rfl⟩ := trodVars_none hV
 simp only [List.append_nil] at hW'
 have hsz' : (DataW.weightsEach Tryz.prog [26] [d0]).all (· ≤ reachBytes) = true := by
  have h1 : DataW.weightsEach Tryz.prog (Tryz.f12.params.toList ++ Rows.validSlotsSpec.plain.varTypes Tryz.prog) ([d0] ++ []) = DataW.weightsEach Tryz.prog [26] [d0] := by
   rw [Tryz.params12]; rfl
  rw [← h1]; exact hsz
 have hw0 : (d0.weights Tryz.prog 26).all (· ≤ reachBytes) = true := by
  rw [DataW.weightsEach] at hsz'
  exact (all_split hsz').1
 rw [MakeChecks.laidMetH_plain _ _ _ plainH] at hL
 obtain ⟨o, ho⟩ := isOb_of_trod (hval 0 26 v0 rfl rfl) h0 hw0
 have hlt : ∀ x ∈ p, x.block < W.heap.size := fun x hx => hW'.lt x hx
 refine (validSlots_any v0 o W ho (glob_of_laid hL) (none_of_laid hL) (ops_of_laid hL) (wid_of_laid hL)).mono fun e W' ⟨he, hb⟩ => ?_
 subst he
 exact ⟨_, rfl, _, _, _, [], _, [], hW', trodAll_mk1 (shut_bool Tryz.underlying4 _), trodAll_mk1 (Below.trod laidOut (by kernel_rfl) (of_decide_eq_true (by kernel_rfl)) h0 hb hlt), rfl, hb.frame _, fun h => by cases h⟩
theorem validSlots_ip : (Rows.validSlotsRow.inPlace == Tryz.pinned.checked.prog.inPlace 12) = true := by kernel_rfl
theorem validSlots_un : (Rows.validSlotsRow.unfollowed == Tryz.pinned.checked.prog.unfollowed 12) = true := by kernel_rfl
theorem validSlots_re : (Rows.validSlotsRow.recurses == Tryz.pinned.checked.prog.recurses 12) = true := by kernel_rfl
theorem validSlots_na : (Rows.validSlotsRow.named == Tryz.pinned.checked.prog.varsNamed 12) = true := by kernel_rfl
theorem validSlots_pk : (Rows.validSlotsRow.plainKeys == Tryz.pinned.checked.prog.plainKeys) = true := p_pk
theorem validSlots_lf : (Rows.validSlotsRow.lifted == Tryz.pinned.checked.prog.liftsFinal) = true := p_lf
theorem validSlots_mk : (Tryz.pinned.checked.prog.make == some Rows.validSlotsRow.make) = true := p_mk
theorem validSlots_closed : joinedFacts Tryz.pinned.checked.prog 12 Tryz.f12 Rows.validSlotsSpec Rows.validSlotsRow = true := by
 simp only [joinedFacts, p_lay, p_mr, p_sh, p_me, validSlots_ip, validSlots_un, validSlots_re, validSlots_na, validSlots_pk, validSlots_lf, validSlots_mk, Bool.and_true, Bool.true_and]
 kernel_rfl
theorem validSlots_nm : Tryz.pinned.checked.prog.funcNamed Rows.validSlotsRow.func = some 12 := by kernel_rfl
theorem validSlots_holds : Rows.validSlotsRow.holds Tryz.pinned (OpenSpec.ofChange Rows.validSlotsSpec) :=
 OpenClaim.holds_of_wide 12 Tryz.f12 rfl rfl rfl rfl rfl rfl rfl ⟨rfl, rfl, rfl, rfl, rfl⟩ rfl rfl rfl rfl rfl validSlots_nm Tryz.func12 validSlots_closed
  (of_decide_eq_true (by kernel_rfl)) (by unfold Func.isWrapper; first | (rw [if_pos (by decide +kernel)]; kernel_rfl) | (rw [if_neg (by decide +kernel)]; exact ⟨rfl, rfl⟩))
  (fun os started H enc _ => validSlots_lifted os started H enc)
theorem validSlots_card : Rows.ValidSlotsCardSaid :=
 Claim7.holds_tied_plain_at .later [] [.data, .data, .data, .sentinel, .sentinel, .data, .data, .widerDeep, .data, .pinned, .pinned] true (true, "8052720306b2697fc996d2aead457a34f0e0499eb9d68265617c37f07823bd5c") true validSlots_holds (fun _ h => by cases h) (by kernel_rfl) (fun _ h => by cases h) validSlots_row_tie rfl ⟨rfl, rfl⟩ (by kernel_rfl) rfl
  (fun f fn hf hfn => by
   obtain rfl : f = 12 := Option.some.inj ((show Tryz.prog.funcNamed "slotcode/slotcodelaw17.ValidSlots" = some 12 by kernel_rfl).symm.trans hf) |>.symm
   obtain rfl : fn = Tryz.f12 := (Option.some.inj (Tryz.func12.symm.trans hfn)).symm
   exact ⟨by kernel_rfl, fun j t ht => by
    rw [Tryz.params12] at ht
    have hm : t ∈ [26] := by simpa using Array.mem_of_getElem? ht
    have hall : ([26].all fun u => !Tryz.prog.wantsStandIn u) = true := by kernel_rfl
    exact (show Tryz.prog.wantsStandIn t = false by simpa using List.all_eq_true.1 hall t hm)⟩)
  (by kernel_rfl)
end Go.Proofs.YtiaddncjghkajaaGreatDoor
