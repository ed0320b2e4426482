/- What comes in as an argument, opened: slices of bytes, of definitions, of links; an object. -/
import Derived.Test.YtiaddncjghkajaaGreatDoorJCore
import Derived.Deep.Slices
import Derived.Deep.Fields
import Derived.ChangeSame
import Derived.Lib.SmallJoins
import Derived.ProofKit
import Derived.Test.YtiaddncjghkajaaGreatDoorRows
import Derived.Test.YtiaddncjghkajaaGreatDoorJPChkB
import Derived.Stop.LaidErr
import Derived.Lib.LaidU8
import Derived.MakeChecks
import Derived.LaidOnce
import Derived.Lay
set_option linter.unusedVariables false
set_option linter.unnecessarySimpa false
set_option linter.unusedSimpArgs false
namespace Go.Proofs.YtiaddncjghkajaaGreatDoor
open Go.Joins Go.ChangeShapes Go.WideShapes Go.RowKit Go.Deep

section
variable {H : Type} {enc : TypeId × Value → H} {P : Program} {w : World} {base : Nat} {spare : Nat → Bool} {held : Bool}
theorem all_split {a b : List Nat} {p : Nat → Bool} (h : (a ++ b).all p = true) : a.all p = true ∧ b.all p = true := by simpa using h
theorem weightsAll_mem {e : TypeId} {p : Nat → Bool} : ∀ {l : List (DataW H)}, (DataW.weightsAll P e l).all p = true → ∀ d ∈ l, (d.weights P e).all p = true := by
  intro l
  induction l with
  | nil => intro _ d hd; cases hd
  | cons x l ih =>
    intro h d hd
    rw [DataW.weightsAll] at h
    obtain ⟨h1, h2⟩ := all_split h
    rcases List.mem_cons.1 hd with rfl | hd
    · exact h1
    · exact ih h2 d hd
theorem plain_at {a : Addr} {v : Value} (h : w.cell? a = some v) : a = ⟨a.block, a.off, none⟩ := by
  unfold World.cell? at h
  split at h
  · split at h
    · cases h
    · rename_i hs
      obtain ⟨b, o, s⟩ := a
      cases s with
      | none => rfl
      | some _ => simp at hs
  · cases h
theorem sl_of_trod {α : Type} {sz bytes : Nat} {E : World → Nat → Nat → α → Prop} {t e : TypeId} (ht : P.underlying t = some (.slice e)) (hC : P.cellsOf e = sz) (hsz : 0 < sz) (hbt : P.bytesOf e = bytes) (hb1 : 1 ≤ bytes)
    (hel : ∀ (n : Nat) (cs' : List Value) (d : DataW H) (ps : List MemPlace), DataW.trod enc P w base spare held n e cs' = some (d, ps) → cs'.length = sz → (d.weights P e).all (· ≤ reachBytes) = true →
      ∃ y : α, ∀ b o, (∀ j, j < sz → w.cell? ⟨b, o + j, none⟩ = cs'[j]?) → E w b o y)
    {fuel : Nat} {v : Value} {x : DataW H × List MemPlace} (h : DataW.trod enc P w base spare held fuel t [v] = some x) (hw : (x.1.weights P t).all (· ≤ reachBytes) = true) : ∃ l : List α, Sl sz E w v l := by
  rcases open_slice ht h with ⟨hv, _⟩ | ⟨a, len, cap, m, n, D, Pl, hcs, hb, hl, hm, hmm, hx, hi⟩
  · obtain rfl : v = .slice none 0 0 := by simpa using hv
    exact ⟨[], Sl.nil w⟩
  · obtain rfl : v = .slice (some a) len cap := by simpa using hcs
    subst hx
    have hlm : len ≤ m := by rw [hmm]; split <;> omega
    simp only [DataW.weights, ht, List.all_cons, Bool.and_eq_true, decide_eq_true_eq, List.length_map, List.length_range] at hw
    obtain ⟨hw1, hw2⟩ := hw
    obtain ⟨hw2, hw3⟩ := all_split hw2
    have hlb : len ≤ 281474976710656 := by
      rw [hbt] at hw1
      have h1 : len + (m - len) ≤ (len + (m - len)) * bytes := Nat.le_mul_of_pos_right _ hb1
      have h2 : reachBytes = 140737488351232 := rfl
      omega
    have hD : ∀ i, i < len → ((D i).weights P e).all (· ≤ reachBytes) = true := fun i hi' => weightsAll_mem hw2 _ (List.mem_map.2 ⟨i, List.mem_range.2 hi', rfl⟩)
    have key : ∀ i : Fin len, ∃ y : α, ∀ b o, (∀ j, j < sz → w.cell? ⟨b, o + j, none⟩ = w.cell? (a.add (i.1 * sz + j))) → E w b o y := fun i => by
      obtain ⟨cs', hc, htr⟩ := hi i.1 (by omega)
      rw [hC] at hc
      obtain ⟨_, hcl, hat⟩ := World.cells?_some hc
      obtain ⟨y, hy⟩ := hel n cs' _ _ htr hcl (hD i.1 i.2)
      refine ⟨y, fun b o hbo => hy b o fun j hj => ?_⟩
      rw [hbo j hj, ← hat j hj, add_add]
    let f : Fin len → α := fun i => Classical.choose (key i)
    have hf : ∀ i : Fin len, ∀ b o, (∀ j, j < sz → w.cell? ⟨b, o + j, none⟩ = w.cell? (a.add (i.1 * sz + j))) → E w b o (f i) := fun i => Classical.choose_spec (key i)
    refine ⟨(List.finRange len).map f, some a, cap, by simp, by simp; omega, by simpa using hlb, (fun h => by cases h), fun i x hxi => ?_⟩
    rw [List.getElem?_map, Option.map_eq_some_iff] at hxi
    obtain ⟨i', hi', rfl⟩ := hxi
    have hil : i < len := by have := (List.getElem?_eq_some_iff.1 hi').1; simpa using this
    obtain rfl : i' = ⟨i, hil⟩ := by
      have := (List.getElem?_eq_some_iff.1 hi').2
      simpa using this.symm
    have hpl : a = ⟨a.block, a.off, none⟩ := by
      obtain ⟨cs', hc, _⟩ := hi 0 (by omega)
      rw [hC] at hc
      obtain ⟨_, hcl, hat⟩ := World.cells?_some hc
      have h0 := hat 0 hsz
      rw [Nat.zero_mul] at h0
      have he : (a.add 0).add 0 = a := by simp [Addr.add]
      rw [he] at h0
      exact plain_at (v := cs'[0]'(by omega)) (by rw [h0]; exact List.getElem?_eq_getElem (by omega))
    refine ⟨a.block, a.off, by rw [← hpl], hf ⟨i, hil⟩ _ _ fun j hj => ?_⟩
    have : a.add (i * sz + j) = ⟨a.block, a.off + (i * sz + j), none⟩ := by rw [hpl]; exact add_plain _ _ _
    rw [this, Nat.add_assoc]
end

section
variable {H : Type} {enc : TypeId × Value → H} {w : World} {base : Nat} {spare : Nat → Bool} {held : Bool}
theorem wf_i64 {z : Int} (h : (Lit.int .i64 z).wf = true) : I64 z := by
  have : -9223372036854775808 ≤ z ∧ z ≤ 9223372036854775807 := by simpa [Lit.wf, IntKind.min, IntKind.max, IntKind.signed, IntKind.bits] using h
  exact this
theorem wf_u8 {z : Int} (h : (Lit.int .u8 z).wf = true) : 0 ≤ z ∧ z < 256 := by
  have : 0 ≤ z ∧ z ≤ 255 := by simpa [Lit.wf, IntKind.min, IntKind.max, IntKind.signed, IntKind.bits] using h
  omega
theorem isB_of_trod {fuel : Nat} {v : Value} {x : DataW H × List MemPlace} (h : DataW.trod enc Tryz.prog w base spare held fuel 23 [v] = some x) (hw : (x.1.weights Tryz.prog 23).all (· ≤ reachBytes) = true) : ∃ l, IsB w v l :=
  sl_of_trod (sz := 1) (bytes := 1) Tryz.underlying23 (by kernel_rfl) (by decide) (by kernel_rfl) (by decide) (fun n cs' d ps ht hl _ => by
    obtain ⟨z, rfl, _, hz⟩ := DataW.trod_int Tryz.underlying5 ht
    refine ⟨z, fun b o hc => ⟨by simpa using hc 0 (by decide), wf_u8 hz⟩⟩) h hw
set_option maxRecDepth 100000 in
theorem isDefs_of_trod {fuel : Nat} {v : Value} {x : DataW H × List MemPlace} (h : DataW.trod enc Tryz.prog w base spare held fuel 22 [v] = some x) (hw : (x.1.weights Tryz.prog 22).all (· ≤ reachBytes) = true) : ∃ l, IsDefs w v l :=
  sl_of_trod (sz := 4) (bytes := 40) Tryz.underlying22 (by kernel_rfl) (by decide) (by kernel_rfl) (by decide) (fun n cs' d ps ht hl hwd => by
    obtain ⟨xs, n', _, hx, _, hxl, hf⟩ := DataW.trod_struct Tryz.underlying81 ht
    match cs', hl with
    | [c0, c1, c2, c3], _ =>
      match xs, hxl with
      | [y0, y1, y2, y3], _ =>
        have k9 : Tryz.prog.cellsOf 9 = 1 := by kernel_rfl
        have k3 : Tryz.prog.cellsOf 3 = 1 := by kernel_rfl
        have h0 := hf 0 _ rfl
        have h1 := hf 1 _ rfl
        have h2 := hf 2 _ rfl
        have h3 := hf 3 _ rfl
        simp only [k9, k3, List.drop_zero, List.drop_succ_cons, List.take_succ_cons, List.take_zero, List.getElem?_cons_zero, List.getElem?_cons_succ] at h0 h1 h2 h3
        obtain ⟨s, e0, f0, _⟩ := DataW.trod_string Tryz.underlying9 h0
        obtain ⟨z1, e1, f1, w1⟩ := DataW.trod_int Tryz.underlying3 h1
        obtain ⟨z2, e2, f2, w2⟩ := DataW.trod_int Tryz.underlying3 h2
        obtain ⟨z3, e3, f3, w3⟩ := DataW.trod_int Tryz.underlying3 h3
        obtain rfl : c0 = .string s := by simpa [k9] using e0
        obtain rfl : c1 = .int .i64 z1 := by simpa [k3] using e1
        obtain rfl : c2 = .int .i64 z2 := by simpa [k3] using e2
        obtain rfl : c3 = .int .i64 z3 := by simpa [k3] using e3
        have hd : d = .agg [.lit (.string s.data.toList), .lit (.int .i64 z1), .lit (.int .i64 z2), .lit (.int .i64 z3)] := by
          have := congrArg Prod.fst hx
          simpa [f0, f1, f2, f3] using this
        subst hd
        have hs : s.size ≤ 140737488355328 := by
          simp [DataW.weights, DataW.weightsEach, Tryz.underlying81] at hwd
          have h2 : reachBytes = 140737488351232 := rfl
          have h3 : s.data.toList.length = s.size := by simp
          simp at h3 hwd
          omega
        exact ⟨⟨s, z1, z2, z3⟩, fun b o hc => ⟨⟨by simpa using hc 0 (by decide), by simpa using hc 1 (by decide), by simpa using hc 2 (by decide), by simpa using hc 3 (by decide)⟩, ⟨hs, wf_i64 w1, wf_i64 w2, wf_i64 w3⟩⟩⟩) h hw
set_option maxRecDepth 100000 in
theorem isRels_of_trod {fuel : Nat} {v : Value} {x : DataW H × List MemPlace} (h : DataW.trod enc Tryz.prog w base spare held fuel 24 [v] = some x) (hw : (x.1.weights Tryz.prog 24).all (· ≤ reachBytes) = true) : ∃ l, IsRels w v l :=
  sl_of_trod (sz := 2) (bytes := 16) Tryz.underlying24 (by kernel_rfl) (by decide) (by kernel_rfl) (by decide) (fun n cs' d ps ht hl hwd => by
    obtain ⟨xs, n', _, hx, _, hxl, hf⟩ := DataW.trod_struct Tryz.underlying78 ht
    match cs', hl with
    | [c0, c1], _ =>
      match xs, hxl with
      | [y0, y1], _ =>
        have k3 : Tryz.prog.cellsOf 3 = 1 := by kernel_rfl
        have h0 := hf 0 _ rfl
        have h1 := hf 1 _ rfl
        simp only [k3, List.drop_zero, List.drop_succ_cons, List.take_succ_cons, List.take_zero, List.getElem?_cons_zero, List.getElem?_cons_succ] at h0 h1
        obtain ⟨z1, e1, f1, w1⟩ := DataW.trod_int Tryz.underlying3 h0
        obtain ⟨z2, e2, f2, w2⟩ := DataW.trod_int Tryz.underlying3 h1
        obtain rfl : c0 = .int .i64 z1 := by simpa [k3] using e1
        obtain rfl : c1 = .int .i64 z2 := by simpa [k3] using e2
        exact ⟨⟨z1, z2⟩, fun b o hc => ⟨⟨by simpa using hc 0 (by decide), by simpa using hc 1 (by decide)⟩, ⟨wf_i64 w1, wf_i64 w2⟩⟩⟩) h hw
set_option maxRecDepth 100000 in
theorem isOb_of_trod {base' : Nat} {v : Value} {d : DataW H} {p : List MemPlace} (hv : Value.okWide Tryz.prog w .any base' 26 v) (h : DataW.Trod enc Tryz.prog w base spare held 26 v d p) (hw : (d.weights Tryz.prog 26).all (· ≤ reachBytes) = true) : ∃ o, IsOb w v o := by
  obtain ⟨v0, v1, v2, y0, y1, y2, n, rfl, rfl, _, h0, h1, h2⟩ := open_agg3 Tryz.underlying26 (by kernel_rfl) (by kernel_rfl) hv h
  simp only [DataW.weights, DataW.weightsEach, Tryz.underlying26, List.map_cons, List.map_nil] at hw
  obtain ⟨w0, hw⟩ := all_split hw
  obtain ⟨w1, hw⟩ := all_split hw
  obtain ⟨w2, hw⟩ := all_split hw
  obtain ⟨l0, k0⟩ := isDefs_of_trod h0 w0
  obtain ⟨l1, k1⟩ := isB_of_trod h1 w1
  obtain ⟨l2, k2⟩ := isRels_of_trod h2 w2
  exact ⟨⟨l0, l1, l2⟩, _, _, _, rfl, k0, k1, k2⟩
end
end Go.Proofs.YtiaddncjghkajaaGreatDoor


set_option linter.unusedVariables false
set_option linter.unnecessarySimpa false
set_option linter.unusedSimpArgs false
namespace Go.Proofs.YtiaddncjghkajaaGreatDoor
open Go.RowKit Go.Lib Go.ChangeShapes

theorem es_star : "*" ++ "errors.errorString" = "*errors.errorString" := by decide
theorem row_es (u : TypeId) (h : Tryz.prog.typeName? 3 u = some "*errors.errorString") : u = 288 :=
  typeName_ptr_named (nm := "errors.errorString") (by rw [es_star]; kernel_rfl) (by kernel_rfl) (by decide) u (by rw [es_star]; exact h)
theorem plainH : (Rows.objectChecksRow.laid.all fun x => x.2.handleName?.isNone) = true := by kernel_rfl
theorem own : ownKnob Tryz.prog.godebug = none := by kernel_rfl
theorem laidOut : laidOutB Tryz.prog = true := by kernel_rfl
theorem none_of_laid {W : World} (h : laidMet Tryz.prog Rows.objectChecksRow.laid W) : NoneV W := by
  obtain ⟨g, t, cs, fuel, p, h1, h2, h3, h4⟩ := Lib.laidMet.reads (n := "slotcode/prog.none") (d := Rows.laid_slotcode_prog_none) h (by simp [Rows.objectChecksRow])
  obtain rfl : g = 0 := by
    have : Tryz.prog.globalNamed "slotcode/prog.none" = some 0 := by kernel_rfl
    rw [this] at h1; exact (Option.some.inj h1).symm
  obtain rfl : t = 139 := by
    have : (Tryz.prog.globals[0]?).map (·.type) = some 139 := by kernel_rfl
    rw [this] at h2; exact (Option.some.inj h2).symm
  have e := Lib.ints_of_struct (k := .i64) (zs := [0, 0]) Tryz.underlying139 (by
    intro i f hf
    match i with
    | 0 => obtain rfl := Option.some.inj hf; exact ⟨by kernel_rfl, rfl, by kernel_rfl⟩
    | 1 => obtain rfl := Option.some.inj hf; exact ⟨by kernel_rfl, rfl, by kernel_rfl⟩
    | n + 2 => cases hf) (by kernel_rfl) h4
  have hk : cs = #[.int .i64 0, .int .i64 0] := by
    apply Array.ext'
    simpa using e
  subst hk
  exact ⟨World.var?_cell h1 h3 0, World.var?_cell h1 h3 1⟩
theorem props_of_laid {W : World} (h : laidMet Tryz.prog Rows.objectChecksRow.laid W) : Lib.TabIs Tryz.prog W "unicode.properties" .u8 Lib.propertiesTab := by
  have h6 := h.tail.tail.tail.tail.tail.tail
  have e : (Rows.laid_unicode_properties : DataW Unit) = Lib.tabData .u8 Lib.propertiesTab := by kernel_rfl
  rw [e] at h6
  exact Lib.tabIs_of_head (n := 256) (g := 5) (t := 270) (e := 5) (by kernel_rfl) (by kernel_rfl) (by kernel_rfl) (by kernel_rfl) (by kernel_rfl) (by kernel_rfl) h6
theorem glob_of_laid {W : World} (h : laidMet Tryz.prog Rows.objectChecksRow.laid W) : Glob W := by
  have h3 := h.tail.tail.tail
  have h4 := h3.tail
  refine ⟨props_of_laid h, ?_, ?_⟩
  · obtain ⟨a, s, h1, _⟩ := laid_sentinel (g := 7) (ti := 250) (tp := 288) (te := 290) (ts := 9) h4
      (by kernel_rfl) (by kernel_rfl) Tryz.underlying250 row_es Tryz.underlying288 Tryz.underlying290 rfl rfl Tryz.underlying9 (by kernel_rfl) (by kernel_rfl)
    exact ⟨_, _, h1⟩
  · obtain ⟨a, s, h1, _⟩ := laid_sentinel (g := 8) (ti := 250) (tp := 288) (te := 290) (ts := 9) h3
      (by kernel_rfl) (by kernel_rfl) Tryz.underlying250 row_es Tryz.underlying288 Tryz.underlying290 rfl rfl Tryz.underlying9 (by kernel_rfl) (by kernel_rfl)
    exact ⟨_, _, h1⟩
end Go.Proofs.YtiaddncjghkajaaGreatDoor
