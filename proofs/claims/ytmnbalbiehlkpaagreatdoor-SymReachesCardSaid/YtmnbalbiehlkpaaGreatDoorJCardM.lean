/- Proved: the tied card of the statement slotcodelaw24.SymReaches: for every argument that the row lets in, the law function returns true and every argument reads as before.
   Conditions: those of the row and no others: the listed package variables read as the card says, and the argument's weight is within reach. -/
import Derived.Test.YtmnbalbiehlkpaaGreatDoorJEqI
import Derived.Test.YtmnbalbiehlkpaaGreatDoorCards
import Derived.Test.YtmnbalbiehlkpaaGreatDoorTie
import Derived.Lay
import Derived.LaidOnce
import Derived.SevenTiedAt
import Derived.Carry
import Derived.ProofKit
set_option linter.unusedVariables false
set_option linter.unnecessarySimpa false
set_option linter.unusedSimpArgs false
namespace Go.Proofs.YtmnbalbiehlkpaaGreatDoor
open Go.RowKit Go.Lib Go.ChangeShapes Go.WideShapes Go.ChangeAt
set_option maxRecDepth 100000
theorem symReaches_w1 (os : Os) : ((World.laidAll Tryz.prog os Rows.symRunsRow.laid).forCall (fun _ _ => 0) ⟨#[], #[.agg #[.slice none 0 0, .slice none 0 0]], []⟩).Shaped Tryz.checked.prog := World.shaped_of_ZipB (by kernel_rfl) (by kernel_rfl)
theorem symReaches_w2 (os : Os) : Input.okWideB Tryz.checked.prog ((World.laidAll Tryz.prog os Rows.symRunsRow.laid).forCall (fun _ _ => 0) ⟨#[], #[.agg #[.slice none 0 0, .slice none 0 0]], []⟩) 5 ⟨#[], #[.agg #[.slice none 0 0, .slice none 0 0]], []⟩ = true := by kernel_rfl
theorem symReaches_w3 (os : Os) (H : Type) (enc : TypeId × Value → H) : Rows.symReachesSpec.preB enc Tryz.checked.prog Tryz.f5 [] false ((World.laidAll Tryz.prog os Rows.symRunsRow.laid).forCall (fun _ _ => 0) ⟨#[], #[.agg #[.slice none 0 0, .slice none 0 0]], []⟩).memory #[.agg #[.slice none 0 0, .slice none 0 0]] 8 = true := by kernel_rfl
theorem symReaches_w4 (os : Os) (H : Type) (enc : TypeId × Value → H) : Rows.symReachesSpec.sizedB enc Tryz.checked.prog Tryz.f5 false ((World.laidAll Tryz.prog os Rows.symRunsRow.laid).forCall (fun _ _ => 0) ⟨#[], #[.agg #[.slice none 0 0, .slice none 0 0]], []⟩).memory #[.agg #[.slice none 0 0, .slice none 0 0]] 8 = true := by kernel_rfl
theorem symReaches_w5 (os : Os) : laidMetH Tryz.prog Rows.symRunsRow.laid ((World.laidAll Tryz.prog os Rows.symRunsRow.laid).forCall (fun _ _ => 0) ⟨#[], #[.agg #[.slice none 0 0, .slice none 0 0]], []⟩).memory := by
 rw [MakeChecks.laidMetH_plain _ _ _ plainH]
 exact laidMet_laidAll _ (by kernel_rfl) (by kernel_rfl)
theorem symReaches_lifted (os : Os) (started : os.Started) (H : Type) (enc : TypeId × Value → H) :
  ReturnsInHanded {} Tryz.checked os 5 .any (fun w args => (Rows.symReachesSpec.pre enc Tryz.prog Tryz.f5 [] false w args ∧ laidMetH Tryz.prog Rows.symRunsRow.laid w) ∧ sizedMet enc Tryz.prog Tryz.f5 (OpenSpec.ofChange Rows.symReachesSpec) false w args)
   (Rows.symReachesSpec.post enc Tryz.prog Tryz.f5 false true false false) := by
 refine returnsInHanded_of_change_and (C := Tryz.checked) (X := fun w _ => laidMetH Tryz.prog Rows.symRunsRow.laid w) (fun _ _ _ hh h => h.of_heap hh) own started (by kernel_rfl) Tryz.func5
  (ChangeSpec.witness_shaped (enc := enc) (C := Tryz.checked) (os := os) (X := fun w _ => laidMetH Tryz.prog Rows.symRunsRow.laid w) false (World.laidAll Tryz.prog os Rows.symRunsRow.laid) #[.agg #[.slice none 0 0, .slice none 0 0]] 8 (World.laidAll_os _ _ _)
   (symReaches_w1 os) (symReaches_w2 os) (symReaches_w3 os H enc) (symReaches_w4 os H enc) (symReaches_w5 os)) ?_
 intro W base args ds gs before hval0 hW _ hsz hL _
 have hval : ∀ (j : Nat) t v, Tryz.f5.params[j]? = some t → args[j]? = some v → Value.okWide Tryz.prog W .any base t v := hval0
 have hW' := hW
 obtain ⟨p, q, hA0, hV, rfl, _, _⟩ := hW
 have hA : DataW.TrodAll enc Tryz.prog W 0 (fun _ => true) true Tryz.f5.params.toList args.toList ds p := hA0
 rw [Tryz.params5] at hA hval
 obtain ⟨v0, d0, rfl, rfl, h0⟩ := trodAll_one hA
 obtain ⟨rfl, rfl⟩ := trodVars_none hV
 simp only [List.append_nil] at hW'
 have hsz' : (DataW.weightsEach Tryz.prog [25] [d0]).all (· ≤ reachBytes) = true := by
  have h1 : DataW.weightsEach Tryz.prog (Tryz.f5.params.toList ++ Rows.symReachesSpec.plain.varTypes Tryz.prog) ([d0] ++ []) = DataW.weightsEach Tryz.prog [25] [d0] := by
   rw [Tryz.params5]; rfl
  rw [← h1]; exact hsz
 have hw0 : (d0.weights Tryz.prog 25).all (· ≤ reachBytes) = true := by
  rw [DataW.weightsEach] at hsz'
  exact (all_split hsz').1
 rw [MakeChecks.laidMetH_plain _ _ _ plainH] at hL
 obtain ⟨o, ho⟩ := isPr_of_trod (hval 0 25 v0 rfl rfl) h0 hw0
 have hlt : ∀ x ∈ p, x.block < W.heap.size := fun x hx => hW'.lt x hx
 refine (symReaches_any v0 o W ho (glob_of_laid hL) (none_of_laid hL) (ops_of_laid hL) (wid_of_laid hL)).mono fun e W' ⟨he, hb⟩ => ?_
 subst he
 exact ⟨_, rfl, _, _, _, [], _, [], hW', trodAll_mk1 (shut_bool Tryz.underlying4 _), trodAll_mk1 (Below.trod laidOut (by kernel_rfl) (of_decide_eq_true (by kernel_rfl)) h0 hb hlt), rfl, hb.frame _, fun h => by cases h⟩
theorem symReaches_ip : (Rows.symReachesRow.inPlace == Tryz.pinned.checked.prog.inPlace 5) = true := by kernel_rfl
theorem symReaches_un : (Rows.symReachesRow.unfollowed == Tryz.pinned.checked.prog.unfollowed 5) = true := by kernel_rfl
theorem symReaches_re : (Rows.symReachesRow.recurses == Tryz.pinned.checked.prog.recurses 5) = true := by kernel_rfl
theorem symReaches_na : (Rows.symReachesRow.named == Tryz.pinned.checked.prog.varsNamed 5) = true := by kernel_rfl
theorem symReaches_pk : (Rows.symReachesRow.plainKeys == Tryz.pinned.checked.prog.plainKeys) = true := p_pk
theorem symReaches_lf : (Rows.symReachesRow.lifted == Tryz.pinned.checked.prog.liftsFinal) = true := p_lf
theorem symReaches_mk : (Tryz.pinned.checked.prog.make == some Rows.symReachesRow.make) = true := p_mk
theorem symReaches_closed : joinedFacts Tryz.pinned.checked.prog 5 Tryz.f5 Rows.symReachesSpec Rows.symReachesRow = true := by
 simp only [joinedFacts, p_lay, p_mr, p_sh, p_me, symReaches_ip, symReaches_un, symReaches_re, symReaches_na, symReaches_pk, symReaches_lf, symReaches_mk, Bool.and_true, Bool.true_and]
 kernel_rfl
theorem symReaches_nm : Tryz.pinned.checked.prog.funcNamed Rows.symReachesRow.func = some 5 := by kernel_rfl
theorem symReaches_holds : Rows.symReachesRow.holds Tryz.pinned (OpenSpec.ofChange Rows.symReachesSpec) :=
 OpenClaim.holds_of_wide 5 Tryz.f5 rfl rfl rfl rfl rfl rfl rfl ⟨rfl, rfl, rfl, rfl, rfl⟩ rfl rfl rfl rfl rfl symReaches_nm Tryz.func5 symReaches_closed
  (of_decide_eq_true (by kernel_rfl)) (by unfold Func.isWrapper; first | (rw [if_pos (by decide +kernel)]; kernel_rfl) | (rw [if_neg (by decide +kernel)]; exact ⟨rfl, rfl⟩))
  (fun os started H enc _ => symReaches_lifted os started H enc)
theorem symReaches_card : Rows.SymReachesCardSaid :=
 Claim7.holds_tied_plain_at .later [] [.data, .data, .data, .sentinel, .sentinel, .data, .data, .widerDeep, .data, .pinned, .pinned] true (true, "f4202cab81fc0b95cff0733bf1a4fe1ccf0c93dbeaaf12d7500c7b4ea51e0001") true symReaches_holds (fun _ h => by cases h) (by kernel_rfl) (fun _ h => by cases h) symReaches_row_tie rfl ⟨rfl, rfl⟩ (by kernel_rfl) rfl
  (fun f fn hf hfn => by
   obtain rfl : f = 5 := Option.some.inj ((show Tryz.prog.funcNamed "slotcode/slotcodelaw24.SymReaches" = some 5 by kernel_rfl).symm.trans hf) |>.symm
   obtain rfl : fn = Tryz.f5 := (Option.some.inj (Tryz.func5.symm.trans hfn)).symm
   exact ⟨by kernel_rfl, fun j t ht => by
    rw [Tryz.params5] at ht
    have hm : t ∈ [25] := by simpa using Array.mem_of_getElem? ht
    have hall : ([25].all fun u => !Tryz.prog.wantsStandIn u) = true := by kernel_rfl
    exact (show Tryz.prog.wantsStandIn t = false by simpa using List.all_eq_true.1 hall t hm)⟩)
  (by kernel_rfl)
end Go.Proofs.YtmnbalbiehlkpaaGreatDoor
