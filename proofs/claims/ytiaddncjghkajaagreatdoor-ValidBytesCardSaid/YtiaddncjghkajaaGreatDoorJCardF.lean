/- Proved: the tied card of the statement slotcodelaw17.ValidBytes: for every argument that the row lets in, the law function returns true and every argument reads as before.
   Conditions: those of the row, no others. -/
import Derived.Test.YtiaddncjghkajaaGreatDoorJValR
import Derived.Test.YtiaddncjghkajaaGreatDoorJPaBig
import Derived.Test.YtiaddncjghkajaaGreatDoorCards
import Derived.Test.YtiaddncjghkajaaGreatDoorTie
import Derived.Lay
import Derived.LaidOnce
import Derived.SevenTiedAt
import Derived.Carry
import Derived.ProofKit
set_option linter.unusedSimpArgs false
namespace Go.Proofs.YtiaddncjghkajaaGreatDoor
open Go.RowKit Go.Lib Go.ChangeShapes Go.WideShapes Go.ChangeAt
set_option maxRecDepth 100000
noncomputable abbrev vbW (os : Os) := (World.laidAll Tryz.prog os Rows.objectChecksRow.laid).forCall (fun _ _ => 0) ⟨#[], #[.slice none 0 0], []⟩
theorem vb_w1 (os : Os) : (vbW os).Shaped Tryz.checked.prog := World.shaped_of_ZipB (by kernel_rfl) (by kernel_rfl)
theorem vb_w2 (os : Os) : Input.okWideB Tryz.checked.prog (vbW os) 9 ⟨#[], #[.slice none 0 0], []⟩ = true := by kernel_rfl
theorem vb_w3 (os : Os) (H : Type) (enc : TypeId × Value → H) : Rows.validBytesSpec.preB enc Tryz.checked.prog Tryz.f9 [] false (vbW os).memory #[.slice none 0 0] 8 = true := by kernel_rfl
theorem vb_w4 (os : Os) (H : Type) (enc : TypeId × Value → H) : Rows.validBytesSpec.sizedB enc Tryz.checked.prog Tryz.f9 false (vbW os).memory #[.slice none 0 0] 8 = true := by kernel_rfl
theorem vb_w5 (os : Os) : laidMetH Tryz.prog Rows.objectChecksRow.laid (vbW os).memory := by
 rw [MakeChecks.laidMetH_plain _ _ _ plainH]
 exact laidMet_laidAll _ (by kernel_rfl) (by kernel_rfl)
theorem vb_lifted (os : Os) (started : os.Started) (H : Type) (enc : TypeId × Value → H) :
  ReturnsInHanded {} Tryz.checked os 9 .any (fun w args => (Rows.validBytesSpec.pre enc Tryz.prog Tryz.f9 [] false w args ∧ laidMetH Tryz.prog Rows.objectChecksRow.laid w) ∧ sizedMet enc Tryz.prog Tryz.f9 (OpenSpec.ofChange Rows.validBytesSpec) false w args)
   (Rows.validBytesSpec.post enc Tryz.prog Tryz.f9 false true false false) := by
 refine returnsInHanded_of_change_and (C := Tryz.checked) (X := fun w _ => laidMetH Tryz.prog Rows.objectChecksRow.laid w) (fun _ _ _ hh h => h.of_heap hh) own started (by kernel_rfl) Tryz.func9
  (ChangeSpec.witness_shaped (enc := enc) (C := Tryz.checked) (os := os) (X := fun w _ => laidMetH Tryz.prog Rows.objectChecksRow.laid w) false (World.laidAll Tryz.prog os Rows.objectChecksRow.laid) #[.slice none 0 0] 8 (World.laidAll_os _ _ _)
   (vb_w1 os) (vb_w2 os) (vb_w3 os H enc) (vb_w4 os H enc) (vb_w5 os)) ?_
 intro W base args ds gs before hval0 hW _ hsz hL _
 have hval : ∀ (j : Nat) t v, Tryz.f9.params[j]? = some t → args[j]? = some v → Value.okWide Tryz.prog W .any base t v := hval0
 have hW' := hW
 obtain ⟨p, q, hA0, hV, rfl, _, _⟩ := hW
 have hA : DataW.TrodAll enc Tryz.prog W 0 (fun _ => true) true Tryz.f9.params.toList args.toList ds p := hA0
 rw [Tryz.params9] at hA hval
 obtain ⟨v0, d0, rfl, rfl, h0⟩ := trodAll_one hA
 obtain ⟨rfl, rfl⟩ := trodVars_none hV
 simp only [List.append_nil] at hW'
 have hsz' : (DataW.weightsEach Tryz.prog [23] [d0]).all (· ≤ reachBytes) = true := by
  have h1 : DataW.weightsEach Tryz.prog (Tryz.f9.params.toList ++ Rows.validBytesSpec.plain.varTypes Tryz.prog) ([d0] ++ []) = DataW.weightsEach Tryz.prog [23] [d0] := by
   rw [Tryz.params9]; rfl
  rw [← h1]; exact hsz
 have hw0 : (d0.weights Tryz.prog 23).all (· ≤ reachBytes) = true := by
  rw [DataW.weightsEach] at hsz'
  exact (all_split hsz').1
 rw [MakeChecks.laidMetH_plain _ _ _ plainH] at hL
 obtain ⟨o, ho⟩ : ∃ o, IsB W v0 o := by
  obtain ⟨_, _, _, hv0⟩ := okWide_slice Tryz.underlying23 (hval 0 23 v0 rfl rfl)
  obtain ⟨fu, h0f⟩ := h0
  rw [hv0] at h0f ⊢
  exact isB_of_trod (x := (d0, p)) (by simpa [Value.cells] using h0f) hw0
 have hlt : ∀ x ∈ p, x.block < W.heap.size := fun x hx => hW'.lt x hx
 refine (validBytes_any v0 o W ho (glob_of_laid hL) (none_of_laid hL) (ops_of_laid hL) (wid_of_laid hL)).mono fun e W' ⟨he, hb⟩ => ?_
 subst he
 exact ⟨_, rfl, _, _, _, [], _, [], hW', trodAll_mk1 (shut_bool Tryz.underlying4 _), trodAll_mk1 (Below.trod laidOut (by kernel_rfl) (of_decide_eq_true (by kernel_rfl)) h0 hb hlt), rfl, hb.frame _, fun h => by cases h⟩
theorem vb_ip : (Rows.validBytesRow.inPlace == Tryz.pinned.checked.prog.inPlace 9) = true := by kernel_rfl
theorem vb_un : (Rows.validBytesRow.unfollowed == Tryz.pinned.checked.prog.unfollowed 9) = true := by kernel_rfl
theorem vb_re : (Rows.validBytesRow.recurses == Tryz.pinned.checked.prog.recurses 9) = true := by kernel_rfl
theorem vb_na : (Rows.validBytesRow.named == Tryz.pinned.checked.prog.varsNamed 9) = true := by kernel_rfl
theorem vb_pk : (Rows.validBytesRow.plainKeys == Tryz.pinned.checked.prog.plainKeys) = true := p_pk
theorem vb_lf : (Rows.validBytesRow.lifted == Tryz.pinned.checked.prog.liftsFinal) = true := p_lf
theorem vb_mk : (Tryz.pinned.checked.prog.make == some Rows.validBytesRow.make) = true := p_mk
theorem vb_closed : joinedFacts Tryz.pinned.checked.prog 9 Tryz.f9 Rows.validBytesSpec Rows.validBytesRow = true := by
 simp only [joinedFacts, p_lay, p_mr, p_sh, p_me, vb_ip, vb_un, vb_re, vb_na, vb_pk, vb_lf, vb_mk, Bool.and_true, Bool.true_and]
 kernel_rfl
theorem vb_nm : Tryz.pinned.checked.prog.funcNamed Rows.validBytesRow.func = some 9 := by kernel_rfl
theorem vb_holds : Rows.validBytesRow.holds Tryz.pinned (OpenSpec.ofChange Rows.validBytesSpec) :=
 OpenClaim.holds_of_wide 9 Tryz.f9 rfl rfl rfl rfl rfl rfl rfl ⟨rfl, rfl, rfl, rfl, rfl⟩ rfl rfl rfl rfl rfl vb_nm Tryz.func9 vb_closed
  (of_decide_eq_true (by kernel_rfl)) (by unfold Func.isWrapper; first | (rw [if_pos (by decide +kernel)]; kernel_rfl) | (rw [if_neg (by decide +kernel)]; exact ⟨rfl, rfl⟩))
  (fun os started H enc _ => vb_lifted os started H enc)
theorem validBytes_card : Rows.ValidBytesCardSaid :=
 Claim7.holds_tied_plain_at .later [] [.data, .data, .data, .sentinel, .sentinel, .data, .data, .widerDeep, .data, .pinned, .pinned] true (true, "8052720306b2697fc996d2aead457a34f0e0499eb9d68265617c37f07823bd5c") true vb_holds (fun _ h => by cases h) (by kernel_rfl) (fun _ h => by cases h) validBytes_row_tie rfl ⟨rfl, rfl⟩ (by kernel_rfl) rfl
  (fun f fn hf hfn => by
   obtain rfl : f = 9 := Option.some.inj ((show Tryz.prog.funcNamed "slotcode/slotcodelaw17.ValidBytes" = some 9 by kernel_rfl).symm.trans hf) |>.symm
   obtain rfl : fn = Tryz.f9 := (Option.some.inj (Tryz.func9.symm.trans hfn)).symm
   exact ⟨by kernel_rfl, fun j t ht => by
    rw [Tryz.params9] at ht
    have hm : t ∈ [23] := by simpa using Array.mem_of_getElem? ht
    have hall : ([23].all fun u => !Tryz.prog.wantsStandIn u) = true := by kernel_rfl
    exact (show Tryz.prog.wantsStandIn t = false by simpa using List.all_eq_true.1 hall t hm)⟩)
  (by kernel_rfl)
end Go.Proofs.YtiaddncjghkajaaGreatDoor
