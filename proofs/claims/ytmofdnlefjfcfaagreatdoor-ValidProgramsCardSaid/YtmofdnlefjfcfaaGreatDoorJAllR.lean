/- The layer slot, the reference: All, Same. -/
import Derived.Test.YtmofdnlefjfcfaaGreatDoorJStep
import Derived.Test.YtmofdnlefjfcfaaGreatDoorJAll
import Derived.Test.YtmofdnlefjfcfaaGreatDoorJTgtR
import Derived.Test.YtmofdnlefjfcfaaGreatDoorJLinks
import Derived.Test.YtmofdnlefjfcfaaGreatDoorJOwnSt
import Derived.Test.YtmofdnlefjfcfaaGreatDoorJJoinR
set_option linter.unusedVariables false
set_option linter.unusedSimpArgs false
namespace Go.Proofs.YtmofdnlefjfcfaaGreatDoor
open Go.RowKit

end Go.Proofs.YtmofdnlefjfcfaaGreatDoor


set_option linter.unusedVariables false
set_option linter.unusedSimpArgs false
namespace Go.Proofs.YtmofdnlefjfcfaaGreatDoor
open Go.RowKit

theorem decX_off {b : List Int} (hb : Byt b) : -1000000 ≤ (decX b).off ∧ (decX b).off ≤ 1000000 := by
 unfold decX
 split
 ·have h2 := sext16_bd (subL2_bd hb 2).1 (subL2_bd hb 2).2
  have hf := fixN_bd (idOf b).1
  unfold decI
  dsimp only
  omega
 ·unfold insZ; dsimp only; omega
theorem decX_op {b : List Int} (h : decE b = 0) : slotsN (decX b).op = decN b ∧ (slotsN (decX b).op = 1 ∨ slotsN (decX b).op = 2) := by
 have hX : decX b = decI b := if_pos h
 have hN : decN b = slotsN (idOf b).1 := if_pos h
 have hop : (decX b).op = (idOf b).1 := by rw [hX]; rfl
 rw [hop, hN]
 refine ⟨rfl, ?_⟩
 rcases decE_ok h with ⟨h1, _⟩ | ⟨h1, _⟩
 ·exact .inl (hN.symm.trans h1)
 ·exact .inr (hN.symm.trans h1)
theorem stepsF_off : ∀ (n : Nat) (b : List Int), Byt b → ∀ x ∈ stepsF n b, -1000000 ≤ x.1.off ∧ x.1.off ≤ 1000000 := by
 intro n
 induction n with
 | zero => intro b _ x hx; simp [stepsF] at hx
 | succ n ih =>
  intro b hb x hx
  rw [stepsF_succ] at hx
  split at hx
  ·simp at hx
  ·rw [List.mem_cons] at hx
   rcases hx with rfl | hx
   ·exact decX_off hb
   ·split at hx
    ·exact ih _ (hb.drop _) x hx
    ·simp at hx
theorem stepsF_op : ∀ (n : Nat) (b : List Int), ∀ x ∈ stepsF n b, x.2.2 = 0 → slotsN x.1.op = x.2.1 ∧ (slotsN x.1.op = 1 ∨ slotsN x.1.op = 2) := by
 intro n
 induction n with
 | zero => intro b x hx; simp [stepsF] at hx
 | succ n ih =>
  intro b x hx h0
  rw [stepsF_succ] at hx
  split at hx
  ·simp at hx
  ·rw [List.mem_cons] at hx
   rcases hx with rfl | hx
   ·exact decX_op h0
   ·split at hx
    ·exact ih _ x hx h0
    ·simp at hx
theorem allI_off {b : List Int} (hb : Byt b) : OffOk (allI b) := by
 intro x hx
 unfold allI at hx
 split at hx
 ·obtain ⟨y, hy, rfl⟩ := List.mem_map.1 hx
  exact stepsF_off _ _ hb y hy
 ·simp at hx
theorem allI_len (b : List Int) : (allI b).length ≤ b.length + 1 := by
 unfold allI
 split
 ·rw [List.length_map]; exact stepsN_len b
 ·simp
theorem allS_zero : ∀ (l : List (Ins × Int × Int)) (k : Int), (allS k l).2 = 0 → ∀ x ∈ l, x.2.2 = 0 := by
 intro l
 induction l with
 | nil => intro k _ x hx; simp at hx
 | cons y l ih =>
  intro k h x hx
  rw [allS] at h
  split at h
  ·rename_i h0
   rw [List.mem_cons] at hx
   rcases hx with rfl | hx
   ·exact h0
   ·exact ih _ h x hx
  ·rename_i h0
   exact absurd h h0
/-- Each instruction of the code takes one slot or two. -/
theorem allI_slots (b : List Int) : ∀ x ∈ allI b, slotsN x.op = 1 ∨ slotsN x.op = 2 := by
 intro x hx
 unfold allI at hx
 split at hx
 ·rename_i h
  obtain ⟨y, hy, rfl⟩ := List.mem_map.1 hx
  exact (stepsF_op _ _ y hy (allS_zero _ 0 h y hy)).2
 ·simp at hx
theorem allI_ne {b : List Int} (hb : b ≠ []) (h : allE b = 0) : 0 < (allI b).length := by
 unfold allI
 rw [if_pos h, List.length_map]
 by_cases h0 : decE b = 0
 ·rw [stepsN_ok hb h0]; simp
 ·rw [stepsN_err hb h0]; simp
end Go.Proofs.YtmofdnlefjfcfaaGreatDoor


set_option linter.unusedVariables false
set_option linter.unusedSimpArgs false
namespace Go.Proofs.YtmofdnlefjfcfaaGreatDoor
open Go.RowKit

def OneTwo (L : List Ins) : Prop := ∀ x ∈ L, slotsN x.op = 1 ∨ slotsN x.op = 2
theorem st_lt {L : List Ins} (h : OneTwo L) : ∀ j, j ≤ L.length → ∀ i, i < j → slotsT (L.take i) < slotsT (L.take j) := by
 intro j
 induction j with
 | zero => intro _ i hi; omega
 | succ j ih =>
  intro hj i hi
  obtain ⟨x, hx0⟩ : ∃ x, L[j]? = some x := ⟨_, List.getElem?_eq_getElem (by omega)⟩
  rw [slotsT_take hx0]
  have h1 := h x (List.mem_of_getElem? hx0)
  rcases Nat.lt_succ_iff_lt_or_eq.1 hi with h2 | rfl
  ·have := ih (by omega) i h2; omega
  ·omega
theorem st_inj {L : List Ins} (h : OneTwo L) {i j : Nat} (hi : i < L.length) (hj : j < L.length) (he : slotsT (L.take i) = slotsT (L.take j)) : i = j := by
 rcases Nat.lt_trichotomy i j with h1 | h1 | h1
 ·have := st_lt h j (by omega) i h1; omega
 ·exact h1
 ·have := st_lt h i (by omega) j h1; omega
theorem refersN_iff {L : List Ins} (h : OneTwo L) (s : Int) : refersN L s = true ↔ ∃ i, i < L.length ∧ slotsT (L.take i) = s ∧ formN (L.getD i default).op = 11 := by
 constructor
 ·intro hr
  unfold refersN at hr
  rw [Bool.and_eq_true, decide_eq_true_eq, beq_iff_eq] at hr
  have h1 := atN_lt hr.1
  exact ⟨_, h1.1, h1.2, hr.2⟩
 ·rintro ⟨i, hi, hs, hf⟩
  have ha : atN L s = i := atN_hit hi (fun j hj => by have := st_lt h i (by omega) j hj; omega) hs
  unfold refersN
  rw [ha, Int.toNat_natCast, hf]
  simp
theorem lnkA_spec {L : List Ins} (h : OneTwo L) : ∀ (n j : Nat) (p : Int → Bool) (mm : Int), j + n = L.length →
  (∀ s, (lnkA L (List.range' j n) p mm).1 s = true ↔ p s = true ∧ ∀ i, j ≤ i → i < L.length → formN (L.getD i default).op = 11 → slotsT (L.take i) ≠ s) ∧
  (lnkA L (List.range' j n) p mm).2 ≤ mm ∧ (∀ i, j ≤ i → i < L.length → formN (L.getD i default).op = 11 → p (slotsT (L.take i)) = false → (lnkA L (List.range' j n) p mm).2 ≤ slotsT (L.take i)) ∧
  ((lnkA L (List.range' j n) p mm).2 = mm ∨ ∃ i, j ≤ i ∧ i < L.length ∧ formN (L.getD i default).op = 11 ∧ p (slotsT (L.take i)) = false ∧ (lnkA L (List.range' j n) p mm).2 = slotsT (L.take i)) := by
 intro n
 induction n with
 | zero =>
  intro j p mm hj
  refine ⟨fun s => ⟨fun h => ⟨h, fun i h1 h2 => by omega⟩, fun h => h.1⟩, Int.le_refl _, fun i h1 h2 => by omega, .inl rfl⟩
 | succ n ih =>
  intro j p mm hj
  have hstep : lnkA L (List.range' j (n + 1)) p mm = if formN (L.getD j default).op = 11 then (if p (slotsT (L.take j)) then lnkA L (List.range' (j + 1) n) (fun y => if y = slotsT (L.take j) then false else p y) mm else lnkA L (List.range' (j + 1) n) p (min mm (slotsT (L.take j)))) else lnkA L (List.range' (j + 1) n) p mm := by
   rw [List.range'_succ, lnkA]
  by_cases hf : formN (L.getD j default).op = 11
  ·by_cases hp : p (slotsT (L.take j)) = true
   ·rw [if_pos hf, if_pos hp] at hstep
    rw [hstep]
    obtain ⟨i1, i2, i3, i4⟩ := ih (j + 1) (fun y => if y = slotsT (L.take j) then false else p y) mm (by omega)
    refine ⟨fun s => ?_, i2, fun i h1 h2 h3 h4 => ?_, ?_⟩
    ·rw [i1 s]
     constructor
     ·rintro ⟨h1, h2⟩
      by_cases hs : s = slotsT (L.take j)
      ·rw [if_pos hs] at h1; cases h1
      ·rw [if_neg hs] at h1
       refine ⟨h1, fun i h3 h4 h5 => ?_⟩
       rcases Nat.lt_or_ge j i with h6 | h6
       ·exact h2 i h6 h4 h5
       ·obtain rfl : i = j := by omega
        exact fun e => hs e.symm
     ·rintro ⟨h1, h2⟩
      have hs : s ≠ slotsT (L.take j) := fun e => h2 j (Nat.le_refl _) (by omega) hf e.symm
      exact ⟨by rw [if_neg hs]; exact h1, fun i h3 => h2 i (by omega)⟩
    ·rcases Nat.lt_or_ge j i with h6 | h6
     ·exact i3 i h6 h2 h3 (by rw [h4]; simp)
     ·obtain rfl : i = j := by omega
      rw [hp] at h4; cases h4
    ·rcases i4 with h1 | ⟨i, h1, h2, h3, h4, h5⟩
     ·exact .inl h1
     ·refine .inr ⟨i, by omega, h2, h3, ?_, h5⟩
      have hne : slotsT (L.take i) ≠ slotsT (L.take j) := fun e => by have := st_inj h h2 (by omega) e; omega
      rwa [if_neg hne] at h4
   ·rw [if_pos hf, if_neg hp] at hstep
    rw [hstep]
    obtain ⟨i1, i2, i3, i4⟩ := ih (j + 1) p (min mm (slotsT (L.take j))) (by omega)
    refine ⟨fun s => ?_, by omega, fun i h1 h2 h3 h4 => ?_, ?_⟩
    ·rw [i1 s]
     constructor
     ·rintro ⟨h1, h2⟩
      refine ⟨h1, fun i h3 h4 h5 => ?_⟩
      rcases Nat.lt_or_ge j i with h6 | h6
      ·exact h2 i h6 h4 h5
      ·obtain rfl : i = j := by omega
       intro e
       rw [e] at hp
       exact hp h1
     ·rintro ⟨h1, h2⟩
      exact ⟨h1, fun i h3 => h2 i (by omega)⟩
    ·rcases Nat.lt_or_ge j i with h6 | h6
     ·exact i3 i h6 h2 h3 h4
     ·obtain rfl : i = j := by omega
      omega
    ·rcases i4 with h1 | ⟨i, h1, h2, h3, h4, h5⟩
     ·rcases Int.le_total mm (slotsT (L.take j)) with h6 | h6
      ·exact .inl (by omega)
      ·exact .inr ⟨j, Nat.le_refl _, by omega, hf, by simpa using hp, by omega⟩
     ·exact .inr ⟨i, by omega, h2, h3, h4, h5⟩
  ·rw [if_neg hf] at hstep
   rw [hstep]
   obtain ⟨i1, i2, i3, i4⟩ := ih (j + 1) p mm (by omega)
   refine ⟨fun s => ?_, i2, fun i h1 h2 h3 h4 => ?_, ?_⟩
   ·rw [i1 s]
    constructor
    ·rintro ⟨h1, h2⟩
     refine ⟨h1, fun i h3 h4 h5 => ?_⟩
     rcases Nat.lt_or_ge j i with h6 | h6
     ·exact h2 i h6 h4 h5
     ·obtain rfl : i = j := by omega
      exact absurd h5 hf
    ·rintro ⟨h1, h2⟩
     exact ⟨h1, fun i h3 => h2 i (by omega)⟩
   ·rcases Nat.lt_or_ge j i with h6 | h6
    ·exact i3 i h6 h2 h3 h4
    ·obtain rfl : i = j := by omega
     exact absurd h3 hf
   ·rcases i4 with h1 | ⟨i, h1, h2, h3, h4, h5⟩
    ·exact .inl h1
    ·exact .inr ⟨i, by omega, h2, h3, h4, h5⟩
/-- The first slot at which references and relocations differ. -/
def lkN (L : List Ins) (rs : List Rel) (n : Nat) : Option Int := (List.range n).findSome? (fun k => if refersN L (k : Nat) != hasN rs (k : Nat) then some (k : Int) else none)
def lkE (L : List Ins) (rs : List Rel) (n : Nat) : Int := if (lkN L rs n).isSome then 18 else 0
theorem lkN_hit {L : List Ins} {rs : List Rel} {n k : Nat} (hk : k < n) (hn : ∀ j : Nat, j < k → refersN L j = hasN rs j) (h : refersN L k ≠ hasN rs k) : lkN L rs n = some (k : Int) := by
 unfold lkN
 rw [range_first (fun k => if refersN L (k : Nat) != hasN rs (k : Nat) then some (k : Int) else none) n k _ hk (fun j hj => if_neg (by rw [hn j hj]; simp)) (if_pos (by simpa using h))]
theorem lkN_none {L : List Ins} {rs : List Rel} {n : Nat} (hn : ∀ j : Nat, j < n → refersN L j = hasN rs j) : lkN L rs n = none := by
 unfold lkN
 rw [List.findSome?_eq_none_iff]
 intro x hx
 exact if_neg (by rw [hn x (by simpa using hx)]; simp)
theorem hasN_iff {rs : List Rel} {s : Int} : hasN rs s = true ↔ ∃ r ∈ rs, r.slot = s := by
 unfold hasN
 rw [List.any_eq_true]
 simp
theorem links_law {L : List Ins} {rs : List Rel} {N : Nat} {M : Int} (h : OneTwo L) (hst : ∀ i, i < L.length → 8 * slotsT (L.take i) < N) (hN0 : 0 < N) (hN8 : N % 8 = 0) (hrs : relsOk ((N : Int) / 8) M (-1) rs = true) {m' : Int}
  (hl : LeastOf (lnkA L (List.range L.length) (hasN rs) N).1 (lnkA L (List.range L.length) (hasN rs) N).2 m') : lnkR m' N = ((lkN L rs (N / 8)).getD 0, lkE L rs (N / 8)) := by
 obtain ⟨a1, a2, a3, a4⟩ := lnkA_spec h L.length 0 (hasN rs) N (by omega)
 rw [← List.range_eq_range'] at a1 a2 a3 a4
 obtain ⟨l1, l2, l3⟩ := hl
 have hr : ∀ r ∈ rs, -1 < r.slot ∧ r.slot < (N : Int) / 8 := fun r hr => by have := (rels_len _ _ rs (-1) hrs (by omega)).2 r hr; exact ⟨this.1, this.2.1⟩
 have hD1 : ∀ s, refersN L s ≠ hasN rs s → m' ≤ s := by
  intro s hd
  cases hr1 : refersN L s with
  | true =>
   obtain ⟨i, hi, hs, hf⟩ := (refersN_iff h s).1 hr1
   rw [hr1] at hd
   have hh : hasN rs s = false := by cases hz : hasN rs s with
    | true => exact absurd hz.symm hd
    | false => rfl
   have := a3 i (Nat.zero_le _) hi hf (by rw [hs]; exact hh)
   omega
  | false =>
   rw [hr1] at hd
   have hh : hasN rs s = true := by cases hz : hasN rs s with
    | true => rfl
    | false => exact absurd hz.symm hd
   refine l2 s ((a1 s).2 ⟨hh, fun i _ hi hf hs => ?_⟩)
   rw [(refersN_iff h s).2 ⟨i, hi, hs, hf⟩] at hr1
   cases hr1
 have hD2 : m' = N ∨ refersN L m' ≠ hasN rs m' := by
  rcases l3 with h3 | h3
  ·rcases a4 with h4 | ⟨i, -, hi, hf, hp, he⟩
   ·exact .inl (by omega)
   ·refine .inr ?_
    rw [(refersN_iff h m').2 ⟨i, hi, by omega, hf⟩, h3, he, hp]
    simp
  ·obtain ⟨h4, h5⟩ := (a1 m').1 h3
   refine .inr ?_
   rw [h4]
   intro e
   obtain ⟨i, hi, hs, hf⟩ := (refersN_iff h m').1 e
   exact h5 i (Nat.zero_le _) hi hf hs
 have hD3 : ∀ s, refersN L s ≠ hasN rs s → 0 ≤ s ∧ s < (N : Int) / 8 := by
  intro s hd
  cases hr1 : refersN L s with
  | true =>
   obtain ⟨i, hi, hs, hf⟩ := (refersN_iff h s).1 hr1
   have h1 := hst i hi
   have h2 := (slotsT_bd (L.take i)).1
   omega
  | false =>
   rw [hr1] at hd
   have hh : hasN rs s = true := by cases hz : hasN rs s with
    | true => rfl
    | false => exact absurd hz.symm hd
   obtain ⟨r, hr2, rfl⟩ := hasN_iff.1 hh
   have := hr r hr2
   omega
 by_cases hm : m' < (N : Int)
 ·have hd : refersN L m' ≠ hasN rs m' := hD2.resolve_left (by omega)
  have hb := hD3 m' hd
  obtain ⟨k, hk⟩ := Int.eq_ofNat_of_zero_le hb.1
  subst hk
  have hrel : lkN L rs (N / 8) = some (k : Int) := lkN_hit (by omega) (fun j hj => by
   rcases Classical.em (refersN L j = hasN rs j) with h1 | h1
   ·exact h1
   ·have := hD1 j h1; omega) hd
  unfold lnkR lkE
  rw [if_pos hm, hrel]
  rfl
 ·have hrel : lkN L rs (N / 8) = none := lkN_none (fun j hj => by
   rcases Classical.em (refersN L j = hasN rs j) with h1 | h1
   ·exact h1
   ·have := hD1 j h1; omega)
  unfold lnkR lkE
  rw [if_neg hm, hrel]
  rfl
theorem slotsT_cons (x : Ins) (l : List Ins) : slotsT (x :: l) = slotsN x.op + slotsT l := by simp [slotsT]
theorem stepsF_st : ∀ (n : Nat) (b : List Int), (∀ x ∈ stepsF n b, x.2.2 = 0) → ∀ i, i < (stepsF n b).length → 8 * slotsT (((stepsF n b).map (·.1)).take i) < (b.length : Int) := by
 intro n
 induction n with
 | zero => intro b _ i hi; simp [stepsF] at hi
 | succ n ih =>
  intro b h i hi
  rw [stepsF_succ] at h hi ⊢
  split at hi
  ·simp at hi
  ·rename_i hb
   rw [if_neg hb] at h ⊢
   have h0 : decE b = 0 := h (decX b, decN b, decE b) (List.mem_cons_self ..)
   rw [if_pos h0] at h hi ⊢
   have hbl : 0 < b.length := List.length_pos_iff.2 hb
   match i, hi with
   | 0, _ => simp [slotsT]; omega
   | i + 1, hi =>
    have hi2 : i < (stepsF n (b.drop (8 * (decN b).toNat))).length := by simpa using hi
    have h1 := ih (b.drop (8 * (decN b).toNat)) (fun x hx => h x (List.mem_cons_of_mem _ hx)) i hi2
    rw [List.map_cons, List.take_succ_cons, slotsT_cons, (decX_op h0).1]
    have h2 := (slotsT_bd (((stepsF n (b.drop (8 * (decN b).toNat))).map (·.1)).take i)).1
    have h3 : decN b = 1 ∨ decN b = 2 := by have := decX_op h0; rw [this.1] at this; exact this.2
    rw [List.length_drop] at h1
    omega
theorem allI_st {b : List Int} : ∀ i, i < (allI b).length → 8 * slotsT ((allI b).take i) < (b.length : Int) := by
 unfold allI
 split
 ·rename_i h
  intro i hi
  exact stepsF_st _ _ (allS_zero _ 0 h) i (by simpa [stepsN] using hi)
 ·intro i hi; simp at hi
end Go.Proofs.YtmofdnlefjfcfaaGreatDoor


set_option linter.unusedVariables false
set_option linter.unusedSimpArgs false
namespace Go.Proofs.YtmofdnlefjfcfaaGreatDoor
open Go.RowKit

/-- An instruction of two slots whose numbers need no care. -/
structure EncTwo (x : Ins) : Prop where
 ok : x.Ok
 slots : slotsN x.op = 2
 dst : 0 ≤ x.dst ∧ x.dst ≤ 10
 src : 0 ≤ x.src ∧ x.src ≤ 10
 off : 0 ≤ x.off ∧ x.off ≤ 1000
 imm : 0 ≤ x.imm ∧ x.imm ≤ 1000
def encR2 (x : Ins) : List Int := (encR1 x ++ le 4 0) ++ le 4 0
set_option maxRecDepth 40000 in
set_option maxHeartbeats 4000000 in
theorem refEnc_two (x : Ins) (w : World) (h : EncTwo x) :
  Calls Tryz.prog 48 #[x.v] w fun e w' => ∃ v', e = .returned v' ∧ OwnB w' w.heap.size v' (encR2 x) ∧ Ext w w' := by
 have e0 := Ext.new w (.cells #[.int .i64 x.op, .bool x.reg, .int .i64 x.dst, .int .i64 x.src, .int .i64 x.off, .int .i64 x.imm] 53)
 have r0 := RowV.new w [.int .i64 x.op, .bool x.reg, .int .i64 x.dst, .int .i64 x.src, .int .i64 x.off, .int .i64 x.imm] 53
 have HC := hx fun W => refCode_any x.op x.reg W h.ok.op
 have HF := hx fun W => refFixed_any x.op W h.ok.op
 have hSL := fun W => ref04Slots_any x.op W h.ok.op
 rw [h.slots] at hSL
 have HSL := hx hSL
 have hf := fixN_bd x.op
 obtain ⟨-, -, hd, hs, ho, hi⟩ := h
 have hen : encR2 x = ((([(codeN x.op x.reg).1, (16 * ((fixN x.op).1 + x.src) + x.dst) % 256] ++ le 2 ((fixN x.op).2.1 + x.off)) ++ le 4 ((fixN x.op).2.2 + x.imm)) ++ le 4 0) ++ le 4 0 := rfl
 rw [hen]
 unfold Ins.v
 obtain ⟨op, reg, n1, n2, n3, n4⟩ := x
 dsimp only at *
 generalize (codeN op reg).1 = CD at *
 generalize (codeN op reg).2 = CB at *
 generalize (fixN op).1 = f1 at *
 generalize (fixN op).2.1 = f2 at *
 generalize (fixN op).2.2 = f3 at *
 have a1 : wrap64 (f1 + n2) = f1 + n2 := wrapI _ (by omega) (by omega)
 have a2 : wrap64 (16 * (f1 + n2)) = 16 * (f1 + n2) := wrapI _ (by omega) (by omega)
 have a3 : wrap64 (16 * (f1 + n2) + n1) = 16 * (f1 + n2) + n1 := wrapI _ (by omega) (by omega)
 have a4 : wrap64 (f2 + n3) = f2 + n3 := wrapI _ (by omega) (by omega)
 have a5 : IntKind.u64.wrap (f2 + n3) = f2 + n3 := wrapU _ (by omega) (by omega)
 have a6 : IntKind.u64.wrap f3 = f3 := wrapU _ (by omega) (by omega)
 have a7 : IntKind.u64.wrap n4 = n4 := wrapU _ (by omega) (by omega)
 have a9 : Int.tdiv n4 4294967296 = 0 := by rw [Int.tdiv_eq_ediv_of_nonneg (by omega)]; omega
 have a10 : IntKind.u64.wrap 0 = 0 := wrapU _ (by omega) (by omega)
 have a8 : IntKind.u64.wrap (f3 + n4) = f3 + n4 := wrapU _ (by omega) (by omega)
 have b1 := hx (show 0 ≤ f2 + n3 ∧ f2 + n3 < 100000 by omega)
 have b2 := hx (show 0 ≤ f3 + n4 ∧ f3 + n4 < 100000 by omega)
 have E0 := hx e0
 have R0 := hx r0
 clear hen hSL hf hd hs ho hi e0 r0
 go_enter Tryz.func48, Tryz.ntmps48
 go_wp2_with fail
 refine (HC.out _).mono ?_
 rintro e w1 ⟨rfl, e1⟩
 have r1 := R0.out.ext e1
 have k0 := r1.cell (i := 0) rfl
 go_wp2_with fail
 refine (HF.out _).mono ?_
 rintro e w2 ⟨rfl, e2⟩
 clear k0
 have r2 := r1.ext e2
 have k0 := r2.cell (i := 0) rfl
 have k2 := r2.cell (i := 2) rfl
 have k3 := r2.cell (i := 3) rfl
 have k4 := r2.cell (i := 4) rfl
 have k5 := r2.cell (i := 5) rfl
 have E2 := hx (E0.out.trans (e1.trans e2))
 clear r1 e1 e2
 go_upto_region 4 with fail
 generalize hV : (16 * (f1 + n2) + n1) % 256 = V at *
 have HV := hx hV
 clear hV
 have hs2 : w.heap.size + 1 ≤ w2.heap.size := by have := r2.lt; omega
 obtain ⟨W3, hW3⟩ : ∃ W3, W3 = w2.alloc (.cells #[.int .u8 CD, .int .u8 V] 5) := ⟨_, rfl⟩
 have r3 := r2.ext (Ext.new w2 (.cells #[.int .u8 CD, .int .u8 V] 5))
 have e3 := E2.out.trans (Ext.new w2 (.cells #[.int .u8 CD, .int .u8 V] 5))
 have hs3 : W3.heap.size = w2.heap.size + 1 := by rw [hW3]; simp
 have o3 : AppB W3 (w.heap.size + 1) (.slice (some ⟨w2.heap.size, 0, none⟩) 2 2) [CD, V] := .inr ⟨_, rfl, (fun h => by cases h), (fun b hb j u hu => by
  cases hb
  have h := World.news_of_block (w := W3) (B := w2.heap.size) (cs := ([CD, V].map (Value.int .u8)).toArray) (t := 5) (fr := (0, 0)) (by rw [hW3]; exact heap_alloc_new w2 _) j u (by simpa using hu)
  exact h), fun k hk => by simp [Value.ownBlock] at hk; omega⟩
 rw [← hW3] at r3 e3 ⊢
 clear hW3 k0 k2 k3 k4 k5 r2
 have k4 := r3.cell (i := 4) rfl
 have B1 := b1.out
 go_wp2_with fail
 refine (refPut_any _ _ (w.heap.size + 1) 2 (f2 + n3) _ B1.1 (by omega) (by omega) o3 (by omega) (by simp)).mono ?_
 rintro e w4 ⟨v4, l4, rfl, hl4, hn4, -, own4, g4⟩
 replace own4 := own4 (by decide)
 have r4 := r3.keep g4.1 (by simp [Value.ownBlock]; omega)
 have e4 := e3.grown g4.1 (fun k hk => by simp [Value.ownBlock] at hk; omega)
 have hs4 := g4.size
 clear k4 o3 g4 r3 e3
 have k5 := r4.cell (i := 5) rfl
 have B2 := b2.out
 obtain ⟨A4, c4, rfl⟩ := own4.slice
 go_wp2_with fail
 refine (refPut_any _ _ (w.heap.size + 1) 4 (f3 + n4) _ B2.1 (by omega) (by omega) (.inl own4) (by omega) (by have := hn4.out; simp at this; omega)).mono ?_
 rintro e w5 ⟨v5, l5, rfl, hl5, hn5, -, own5, g5⟩
 replace own5 := own5 (by decide)
 have r5 := r4.keep g5.1 (fun e => by have := own4.base_le _ e.symm; omega)
 have e5 := e4.grown g5.1 (fun k hk => by have := own4.base_le k hk; omega)
 clear k5 own4 g5 r4 e4 B1 B2
 have k0 := r5.cell (i := 0) rfl
 have k5 := r5.cell (i := 5) rfl
 obtain ⟨A5, c5, rfl⟩ := own5.slice
 have hll5 : l5.length = 8 := by have h1 := hn5.out; have h2 := hn4.out; simp at h2; omega
 have HL5 := hx hll5
 clear hll5
 go_wp2_with fail
 refine (HSL.out _).mono ?_
 rintro e w6 ⟨rfl, rfl⟩
 go_wp2_with fail
 refine (refPut_any _ _ (w.heap.size + 1) 4 0 _ (by omega) (by omega) (by omega) (.inl own5) (by have := r5.lt; omega) (by rw [HL5.out]; omega)).mono ?_
 rintro e w7 ⟨v7, l7, rfl, hl7, hn7, -, own7, g7⟩
 replace own7 := own7 (by decide)
 have r7 := r5.keep g7.1 (fun e => by have := own5.base_le _ e.symm; omega)
 have e7 := e5.grown g7.1 (fun k hk => by have := own5.base_le k hk; omega)
 clear k0 k5
 have k5 := r7.cell (i := 5) rfl
 obtain ⟨A7, c7, rfl⟩ := own7.slice
 go_wp2_with fail
 refine (refPut_any _ _ (w.heap.size + 1) 4 0 _ (by omega) (by omega) (by omega) (.inl own7) (by have := r7.lt; omega) (by rw [hn7.out, HL5.out]; omega)).mono ?_
 rintro e w8 ⟨v8, l8, rfl, hl8, hn8, -, own8, g8⟩
 replace own8 := own8 (by decide)
 have e8 := e7.grown g8.1 (fun k hk => by have := own7.base_le k hk; omega)
 obtain ⟨A8, c8, rfl⟩ := own8.slice
 clear k5
 go_wp2
 go_ret
 have hlA : ((([CD, V] ++ le 2 (f2 + n3)) ++ le 4 (f3 + n4)) ++ le 4 0) ++ le 4 0 = l8 := by rw [hl8.out, hl7.out, hl5.out, hl4.out]
 have hlB : ((([CD, (16 * (f1 + n2) + n1) % 256] ++ le 2 (f2 + n3)) ++ le 4 (f3 + n4)) ++ le 4 0) ++ le 4 0 = l8 := by rw [HV.out]; exact hlA
 refine ⟨.slice A8 l8.length c8, rfl, ?_, e8⟩
 first | rw [hlB] | rw [hlA] | (simp only [List.append_assoc, List.cons_append, List.nil_append] at hlB ⊢; rw [hlB])
 exact ownsRow_base own8 (by omega)
/-- An instruction whose numbers need no care. -/
structure EncSm (x : Ins) : Prop where
 ok : x.Ok
 slots : slotsN x.op = 1 ∨ slotsN x.op = 2
 dst : 0 ≤ x.dst ∧ x.dst ≤ 10
 src : 0 ≤ x.src ∧ x.src ≤ 10
 off : 0 ≤ x.off ∧ x.off ≤ 1000
 imm : 0 ≤ x.imm ∧ x.imm ≤ 1000
def encX (x : Ins) : List Int := if slotsN x.op = 2 then encR2 x else encR1 x
theorem encX_length (x : Ins) : (encX x).length = 8 ∨ (encX x).length = 16 := by
 unfold encX
 split
 ·right; simp [encR2, encR1, le_length]
 ·left; simp [encR1, le_length]
theorem encXs_length (l : List Ins) : (l.flatMap encX).length ≤ 16 * l.length := by
 induction l with
 | nil => exact Nat.le_refl _
 | cons x l ih => rw [List.flatMap_cons, List.length_append, List.length_cons]; have := encX_length x; omega
theorem refEnc_any (x : Ins) (w : World) (h : EncSm x) :
  Calls Tryz.prog 48 #[x.v] w fun e w' => ∃ v', e = .returned v' ∧ OwnB w' w.heap.size v' (encX x) ∧ Ext w w' := by
 unfold encX
 rcases h.slots with h1 | h1
 ·rw [if_neg (by omega)]
  exact refEnc_one x w ⟨h.ok, h1, h.dst, h.src, h.off, h.imm⟩
 ·rw [if_pos h1]
  exact refEnc_two x w ⟨h.ok, h1, h.dst, h.src, h.off, h.imm⟩
end Go.Proofs.YtmofdnlefjfcfaaGreatDoor


set_option linter.unusedVariables false
set_option linter.unusedSimpArgs false
namespace Go.Proofs.YtmofdnlefjfcfaaGreatDoor
open Go.RowKit

set_option maxRecDepth 40000 in
set_option maxHeartbeats 4000000 in
theorem refJoinX_any (v : Value) (L : List Ins) (w : World) (hv : IsIns w v L) (hL : L.length ≤ 1000) (hE : ∀ x ∈ L, EncSm x) :
  Calls Tryz.prog 19 #[v] w fun e w' => ∃ v', e = .returned v' ∧ OwnB w' w.heap.size v' (L.flatMap encX) ∧ Ext w w' := by
 obtain ⟨A, c, rfl, hc, -, hv'⟩ := hv.form
 have HEN := hx hE
 clear hE
 go_enter Tryz.func19, Tryz.ntmps19
 go_wp2
 go_loopw [3, 4] (fun vo i wr => ∃ k : Nat, k ≤ L.length ∧ i = .int .i64 (k : Nat) ∧ OwnB wr w.heap.size vo ((L.take k).flatMap encX) ∧ Ext w wr) (fun _ i _ => L.length - (RowKit.intOf i).toNat)
 case atStart => exact ⟨0, by omega, rfl, Own.nil _ _ _ _ _, Ext.refl _⟩
 case round =>
  obtain ⟨k, hk, rfl, ho, he⟩ := hrel
  obtain ⟨A4, c4, rfl⟩ := ho.slice
  by_cases hlt : k < L.length
  ·obtain ⟨x, hx0⟩ : ∃ x, L[k]? = some x := ⟨_, List.getElem?_eq_getElem hlt⟩
   obtain ⟨b0, o, rfl, hEx⟩ := (IsIns.ext hv' he).get hx0
   obtain ⟨⟨k0, k1, k2, k3, k4, k5⟩, -⟩ := hEx
   have HQ := hx (refEnc_any x wr (HEN.out x (List.mem_of_getElem? hx0)))
   have htk : (L.take (k + 1)).flatMap encX = (L.take k).flatMap encX ++ encX x := by rw [List.take_add_one, hx0]; simp
   have hl1 : ((L.take k).flatMap encX).length ≤ 16 * k := by have h1 := encXs_length (L.take k); rw [List.length_take] at h1; omega
   have hl2 := encX_length x
   have hkm : (k : Int) < (L.length : Int) := by omega
   have HTK := hx htk
   have HL1 := hx hl1
   have HL2 := hx hl2
   have HLT := hx hlt
   generalize (L.take k).flatMap encX = P at *
   generalize encX x = R at *
   unfold Ins.v at HQ
   obtain ⟨op, reg, n1, n2, n3, n4⟩ := x
   dsimp only at *
   clear htk hx0 hl1 hl2
   go_wp2_with fail
   refine HQ.out.mono ?_
   rintro e w1 ⟨v1, rfl, ow1, e1⟩
   have o1 := ho.ext e1
   have x1 := hx (he.trans e1)
   have hsr := own_src ow1
   have hs1 := x1.out.size
   obtain ⟨A6, c6, rfl⟩ := ow1.slice
   have hb1 : P.length + R.length ≤ 140737488355328 := by have h1 := HL1.out; have h2 := HL2.out; omega
   have HB1 := hx hb1
   clear k0 k1 k2 k3 k4 k5 e1 hb1 he ho ow1
   go_wp2_with (at_builtin; refine wp_appS tyB encB_ok o1 hsr rfl rfl rfl rfl hs1 (by rw [Nat.mul_one]; exact HB1.out) HB1.out ?_; intro v2 w2 o2 g2 a2)
   have X2 := hx (x1.out.grown g2 o1.base_le)
   have O2 := hx o2
   clear g2 o2 o1 hsr a2 hs1
   go_wp2
   go_roundw
   case rel => exact ⟨k + 1, HLT.out, by go_num, by rw [HTK.out]; exact O2.out, X2.out⟩
   case measure => simp [RowKit.intOf]; omega
  ·obtain rfl : k = L.length := by omega
   have HO := hx ho
   clear ho
   go_wp2
   go_ret
   refine ⟨.slice A4 ((L.take L.length).flatMap encX).length c4, rfl, ?_, he⟩
   have h := HO.out
   rw [List.take_length] at h ⊢
   exact h
end Go.Proofs.YtmofdnlefjfcfaaGreatDoor


set_option linter.unusedVariables false
set_option linter.unusedSimpArgs false
namespace Go.Proofs.YtmofdnlefjfcfaaGreatDoor
open Go.RowKit

/-- The first answer that is an error. -/
def firstE : List (Int × Int) → Int × Int
 | [] => (0, 0)
 | x :: l => if x.2 = 0 then firstE l else x
def find1 (L : List Ins) : Int × Int := ((fstN fieldP L).getD 0, fstE fieldP L 12)
def find2 (L : List Ins) (rs : List Rel) (n : Nat) : Int × Int := ((lkN L rs n).getD 0, lkE L rs n)
def find3 (L : List Ins) : Int × Int := (jmpAt L, jmpE L)
def find4 (L : List Ins) : Int × Int := ((fstN writeP L).getD 0, fstE writeP L 14)
def find5 (L : List Ins) : Int × Int := (endAt L, endE L)
def finds (L : List Ins) (rs : List Rel) (n : Nat) : List (Int × Int) := [find1 L, find2 L rs n, find3 L, find4 L, find5 L]
def rest17 (L : List Ins) (rs : List Rel) (n k : Nat) : Int × Int := firstE ((finds L rs n).drop k)
/-- The slot and the error of an object. -/
def chk17 (o : Ob) : Int × Int := if obE o = 0 then (if allE o.code = 0 then rest17 (allI o.code) o.rels (o.code.length / 8) 0 else (allAt o.code, allE o.code)) else (0, obE o)
theorem chk17_ob {o : Ob} (h : obE o ≠ 0) : chk17 o = (0, obE o) := if_neg h
theorem chk17_all {o : Ob} (h : obE o = 0) (h2 : allE o.code ≠ 0) : chk17 o = (allAt o.code, allE o.code) := by unfold chk17; rw [if_pos h, if_neg h2]
theorem chk17_rest {o : Ob} (h : obE o = 0) (h2 : allE o.code = 0) : chk17 o = rest17 (allI o.code) o.rels (o.code.length / 8) 0 := by unfold chk17; rw [if_pos h, if_pos h2]
theorem rest17_0 (L : List Ins) (rs : List Rel) (n : Nat) : rest17 L rs n 0 = if (find1 L).2 = 0 then rest17 L rs n 1 else find1 L := rfl
theorem rest17_1 (L : List Ins) (rs : List Rel) (n : Nat) : rest17 L rs n 1 = if (find2 L rs n).2 = 0 then rest17 L rs n 2 else find2 L rs n := rfl
theorem rest17_2 (L : List Ins) (rs : List Rel) (n : Nat) : rest17 L rs n 2 = if (find3 L).2 = 0 then rest17 L rs n 3 else find3 L := rfl
theorem rest17_3 (L : List Ins) (rs : List Rel) (n : Nat) : rest17 L rs n 3 = if (find4 L).2 = 0 then rest17 L rs n 4 else find4 L := rfl
theorem rest17_4 (L : List Ins) (rs : List Rel) (n : Nat) : rest17 L rs n 4 = if (find5 L).2 = 0 then rest17 L rs n 5 else find5 L := rfl
theorem rest17_5 (L : List Ins) (rs : List Rel) (n : Nat) : rest17 L rs n 5 = (0, 0) := rfl
theorem r17_0n {L : List Ins} {rs : List Rel} {n : Nat} (h : fstN fieldP L = none) : rest17 L rs n 0 = rest17 L rs n 1 := by rw [rest17_0, if_pos (by simp [find1, fstE, h])]
theorem r17_1n {L : List Ins} {rs : List Rel} {n : Nat} (h : lkN L rs n = none) : rest17 L rs n 1 = rest17 L rs n 2 := by rw [rest17_1, if_pos (by simp [find2, lkE, h])]
theorem r17_2n {L : List Ins} {rs : List Rel} {n : Nat} (h : tgtBad L = -1) : rest17 L rs n 2 = rest17 L rs n 3 := by
 have h2 : find3 L = (0, 0) := by unfold find3 jmpAt jmpE; rw [h]; rfl
 rw [rest17_2, h2]; rfl
theorem r17_3n {L : List Ins} {rs : List Rel} {n : Nat} (h : fstN writeP L = none) : rest17 L rs n 3 = rest17 L rs n 4 := by rw [rest17_3, if_pos (by simp [find4, fstE, h])]
theorem r17_4n {L : List Ins} {rs : List Rel} {n k : Nat} (hk : L.length = k + 1) (h : endsX (L.getD k default) = true) : rest17 L rs n 4 = (0, 0) := by
 have h2 : find5 L = (0, 0) := by unfold find5 endAt endE; rw [hk, Nat.add_sub_cancel, h]; rfl
 rw [rest17_4, h2]; rfl
/-- The chapter's example. -/
def l17A : List Ins := [⟨44, false, 0, 0, 0, 0⟩, ⟨84, false, 0, 0, 0, 5⟩, ⟨68, false, 0, 0, 0, 0⟩]
def l17B : List Ins := [⟨44, false, 0, 0, 1, 0⟩, ⟨84, false, 0, 0, 0, 5⟩, ⟨68, false, 0, 0, 0, 0⟩]
def c17A : List Int := l17A.flatMap encX
def c17B : List Int := l17B.flatMap encX
theorem c17A_eq : c17A = [5, 0, 0, 0, 0, 0, 0, 0, 24, 0, 0, 0, 5, 0, 0, 0, 0, 0, 0, 0, 0, 0, 0, 0, 149, 0, 0, 0, 0, 0, 0, 0] := by decide +kernel
theorem c17B_eq : c17B = [5, 0, 1, 0, 0, 0, 0, 0, 24, 0, 0, 0, 5, 0, 0, 0, 0, 0, 0, 0, 0, 0, 0, 0, 149, 0, 0, 0, 0, 0, 0, 0] := by decide +kernel
def o17A : Ob := ⟨[], c17A, []⟩
def o17B : Ob := ⟨[], c17B, []⟩
theorem chk17A : chk17 o17A = (0, 0) := by decide +kernel
theorem chk17B : chk17 o17B = (0, 13) := by decide +kernel
theorem allI17A : allI c17A = l17A := by decide +kernel
theorem tgt17A : tgtL l17A = [1, -1, -1] := by decide +kernel
theorem bad17A : tgtBad l17A = -1 := by decide +kernel
theorem i64s (x : Int) (h : -9223372036854775808 ≤ x ∧ x ≤ 9223372036854775807) : I64 x := h
theorem sm17A : ∀ x ∈ l17A, EncSm x := by
 intro x hx
 have h1 : slotsN 44 = 1 := by decide +kernel
 have h2 : slotsN 84 = 2 := by decide +kernel
 have h3 : slotsN 68 = 1 := by decide +kernel
 simp only [l17A, List.mem_cons, List.mem_nil_iff, or_false] at hx
 rcases hx with rfl | rfl | rfl
 ·exact ⟨⟨i64s _ (by decide), i64s _ (by decide), i64s _ (by decide), i64s _ (by decide), i64s _ (by decide)⟩, .inl h1, by decide, by decide, by decide, by decide⟩
 ·exact ⟨⟨i64s _ (by decide), i64s _ (by decide), i64s _ (by decide), i64s _ (by decide), i64s _ (by decide)⟩, .inr h2, by decide, by decide, by decide, by decide⟩
 ·exact ⟨⟨i64s _ (by decide), i64s _ (by decide), i64s _ (by decide), i64s _ (by decide), i64s _ (by decide)⟩, .inl h3, by decide, by decide, by decide, by decide⟩
theorem sm17B : ∀ x ∈ l17B, EncSm x := by
 intro x hx
 have h1 : slotsN 44 = 1 := by decide +kernel
 have h2 : slotsN 84 = 2 := by decide +kernel
 have h3 : slotsN 68 = 1 := by decide +kernel
 simp only [l17B, List.mem_cons, List.mem_nil_iff, or_false] at hx
 rcases hx with rfl | rfl | rfl
 ·exact ⟨⟨i64s _ (by decide), i64s _ (by decide), i64s _ (by decide), i64s _ (by decide), i64s _ (by decide)⟩, .inl h1, by decide, by decide, by decide, by decide⟩
 ·exact ⟨⟨i64s _ (by decide), i64s _ (by decide), i64s _ (by decide), i64s _ (by decide), i64s _ (by decide)⟩, .inr h2, by decide, by decide, by decide, by decide⟩
 ·exact ⟨⟨i64s _ (by decide), i64s _ (by decide), i64s _ (by decide), i64s _ (by decide), i64s _ (by decide)⟩, .inl h3, by decide, by decide, by decide, by decide⟩
theorem off17A : OffOk l17A := by
 intro x hx
 simp only [l17A, List.mem_cons, List.mem_nil_iff, or_false] at hx
 rcases hx with rfl | rfl | rfl <;> decide
end Go.Proofs.YtmofdnlefjfcfaaGreatDoor
