/- The layer object: what Check, Pack and Parse return, as plain functions. -/
import Derived.Test.YtiaddncjghkajaaGreatDoorJRound
import Derived.Test.YtiaddncjghkajaaGreatDoorJRules
set_option linter.unusedVariables false
set_option linter.unusedSimpArgs false
namespace Go.Proofs.YtiaddncjghkajaaGreatDoor
open Go.RowKit Go.Lib

/-! ### bytes of numbers -/
theorem lval_le_mod (n : Nat) : ∀ x : Int, lval (le n x) = x % 256 ^ n := by
  induction n with
  | zero => intro x; simp [le, lval, Int.emod_one]
  | succ n ih =>
    intro x
    have hp : (0 : Int) < 256 ^ n := Int.pow_pos (by decide)
    rw [le, lval, ih, Int.pow_succ, Int.mul_comm (256 ^ n) 256]
    have h1 := Int.mul_ediv_add_emod x 256
    have h2 := Int.mul_ediv_add_emod (x / 256) (256 ^ n)
    have h3 := Int.emod_nonneg (x / 256) (Int.ne_of_gt hp)
    have h4 := Int.emod_lt_of_pos (x / 256) hp
    have h5 := Int.emod_nonneg x (b := 256) (by decide)
    have h6 := Int.emod_lt_of_pos x (b := 256) (by decide)
    symm
    generalize (256 : Int) ^ n = P at *
    generalize x / 256 = q at *
    generalize hr : x % 256 = r at *
    generalize q % P = s at *
    generalize q / P = t at *
    have e : x = (r + 256 * s) + 256 * P * t := by rw [← h1, ← h2]; rw [Int.mul_add, Int.mul_assoc]; omega
    rw [e, Int.add_mul_emod_self_left, Int.emod_eq_of_lt]
    · omega
    · have : s + 1 ≤ P := h4
      have : 256 * (s + 1) ≤ 256 * P := Int.mul_le_mul_of_nonneg_left this (by decide)
      omega
theorem le_inj {n : Nat} {x y : Int} (h : le n x = le n y) (hx0 : 0 ≤ x) (hx1 : x < 256 ^ n) (hy0 : 0 ≤ y) (hy1 : y < 256 ^ n) : x = y := by
  have h1 := lval_le_mod n x
  have h2 := lval_le_mod n y
  rw [Int.emod_eq_of_lt hx0 hx1] at h1
  rw [Int.emod_eq_of_lt hy0 hy1] at h2
  rw [← h1, ← h2, h]

/-! ### a container determines its sections -/
theorem rowsOf_inj : ∀ (l1 l2 : List Sec) (a : Int), rowsOf a l1 = rowsOf a l2 → l1.length = l2.length → (∀ s ∈ l1, 0 ≤ s.kind ∧ s.kind ≤ 65535 ∧ s.data.length < 4294967296) → (∀ s ∈ l2, 0 ≤ s.kind ∧ s.kind ≤ 65535 ∧ s.data.length < 4294967296) →
    l1.map (fun s => (s.kind, s.data.length)) = l2.map (fun s => (s.kind, s.data.length)) := by
  intro l1
  induction l1 with
  | nil => intro l2 a _ hl _ _; cases l2 with
    | nil => rfl
    | cons _ _ => simp at hl
  | cons s l ih =>
    intro l2 a h hl h1 h2
    cases l2 with
    | nil => simp at hl
    | cons t l2 =>
      have s1 := h1 s (by simp)
      have t1 := h2 t (by simp)
      rw [rowsOf, rowsOf] at h
      obtain ⟨e1, h⟩ := List.append_inj h (by simp [le_length])
      obtain ⟨_, h⟩ := List.append_inj h (by simp [le_length])
      obtain ⟨e3, h⟩ := List.append_inj h (by simp [le_length])
      have k1 : s.kind = t.kind := le_inj e1 s1.1 (by have := s1.2.1; omega) t1.1 (by have := t1.2.1; omega)
      have k2 : (s.data.length : Int) = t.data.length := le_inj e3 (by omega) (by have := s1.2.2; omega) (by omega) (by have := t1.2.2; omega)
      rw [k2] at h
      have := ih l2 _ h (by simpa using hl) (fun x hx => h1 x (by simp [hx])) (fun x hx => h2 x (by simp [hx]))
      simp only [List.map_cons, this, k1, Int.ofNat_inj.1 k2]
theorem flat_pad_inj : ∀ (l1 l2 : List Sec), l1.flatMap (fun s => pad8 s.data) = l2.flatMap (fun s => pad8 s.data) → l1.map (fun s => (s.kind, s.data.length)) = l2.map (fun s => (s.kind, s.data.length)) → l1 = l2 := by
  intro l1
  induction l1 with
  | nil => intro l2 _ hl; cases l2 with
    | nil => rfl
    | cons _ _ => simp at hl
  | cons s l ih =>
    intro l2 h hl
    cases l2 with
    | nil => simp at hl
    | cons t l2 =>
      simp only [List.map_cons, List.cons.injEq, Prod.mk.injEq] at hl
      obtain ⟨⟨k1, k2⟩, hl⟩ := hl
      simp only [List.flatMap_cons] at h
      have hp : (pad8 s.data).length = (pad8 t.data).length := by
        have := pad8_length s.data; have := pad8_length t.data; rw [k2] at *; omega
      obtain ⟨e1, e2⟩ := List.append_inj h hp
      obtain ⟨e3, _⟩ := List.append_inj (show s.data ++ _ = t.data ++ _ from e1) k2
      rw [ih l2 e2 hl]
      cases s; cases t; simp_all
theorem secErr_parts {l : List Sec} (h : secErr l = 0) : l.length ≤ 16 ∧ secSize l ≤ 1073741824 ∧ kindsOk 0 l = true := by
  unfold secErr at h
  split at h
  · omega
  · split at h
    · refine ⟨by omega, by omega, ‹_›⟩
    · omega
theorem secs_bd {l : List Sec} (h : secErr l = 0) : ∀ s ∈ l, 0 ≤ s.kind ∧ s.kind ≤ 65535 ∧ s.data.length < 4294967296 := by
  obtain ⟨h1, h2, h3⟩ := secErr_parts h
  intro s hs
  have hk := kindsOk_pos h3 (by omega) s hs
  obtain ⟨pre, suf, rfl⟩ := List.append_of_mem hs
  have := secSize_mem pre suf s
  exact ⟨hk.1, hk.2, by omega⟩
theorem boxOf_inj {l1 l2 : List Sec} (h : boxOf l1 = boxOf l2) (h1 : secErr l1 = 0) (h2 : secErr l2 = 0) : l1 = l2 := by
  obtain ⟨a1, b1, c1⟩ := secErr_parts h1
  obtain ⟨a2, b2, c2⟩ := secErr_parts h2
  unfold boxOf pad8 headB at h
  simp only [List.append_assoc] at h
  have h := List.append_cancel_left h
  have h := List.append_cancel_left h
  obtain ⟨e1, h⟩ := List.append_inj h (by simp [le_length])
  have hn : (l1.length : Int) = l2.length := le_inj e1 (by omega) (by omega) (by omega) (by omega)
  have hn' : l1.length = l2.length := by omega
  obtain ⟨_, h⟩ := List.append_inj h (by simp [le_length])
  obtain ⟨_, h⟩ := List.append_inj h (by simp [le_length])
  rw [hn] at h
  obtain ⟨e2, h⟩ := List.append_inj h (by simp [rowsOf_length, hn'])
  obtain ⟨_, h⟩ := List.append_inj h (by simp [le_length, rowsOf_length, hn'])
  exact flat_pad_inj l1 l2 h (rowsOf_inj l1 l2 _ e2 hn' (secs_bd h1) (secs_bd h2))
theorem rdOk_spec {b : List Int} (h : rdOk b) : rdOut b = secTab b (rdN b) ∧ secErr (rdOut b) = 0 ∧ boxOf (rdOut b) = b := by
  have e : rdOut b = secTab b (rdN b) := by unfold rdOut; rw [if_pos h]
  rw [e]
  exact ⟨rfl, h.2.2.2.1, h.2.2.2.2⟩

/-! ### Check -/
/-- The error of the maps alone. -/
def mapsE (l : List Def) : Int :=
  if (findA (fun _ d => mapE d) 0 l).2 ≠ 0 then (findA (fun _ d => mapE d) 0 l).2 else if 255 < l.length then 16 else if 0 ≤ repN (l.map (·.name)) then 10 else 0
def relsOk (slots maps : Int) : Int → List Rel → Bool
  | _, [] => true
  | last, r :: l => decide (last < r.slot ∧ r.slot < slots ∧ 0 ≤ r.sym ∧ r.sym < maps) && relsOk slots maps r.slot l
def obE (o : Ob) : Int :=
  if mapsE o.maps ≠ 0 then mapsE o.maps else if o.code.length = 0 ∨ o.code.length % 8 ≠ 0 then 17 else if 524280 < o.code.length then 16
  else if relsOk ((o.code.length : Int) / 8) o.maps.length (-1) o.rels then 0 else 18

theorem findA_none {chk : Int → Def → Int} : ∀ (l : List Def) (i : Int), (findA chk i l).2 = 0 → ∀ (k : Nat) d, l[k]? = some d → chk (i + k) d = 0 := by
  intro l
  induction l with
  | nil => intro i _ k d h; simp at h
  | cons x l ih =>
    intro i h k d hd
    unfold findA at h
    split at h
    · rename_i h0
      cases k with
      | zero => simp at hd; subst hd; simpa using h0
      | succ k =>
        simp only [List.getElem?_cons_succ] at hd
        have := ih _ h k d hd
        rw [show i + ((k + 1 : Nat) : Int) = i + 1 + k by omega]; exact this
    · rename_i h0; exact absurd h h0
theorem findA_all {chk : Int → Def → Int} : ∀ (l : List Def) (i : Int), (∀ (k : Nat) d, l[k]? = some d → chk (i + k) d = 0) → findA chk i l = (0, 0) := by
  intro l
  induction l with
  | nil => intro i _; rfl
  | cons x l ih =>
    intro i h
    have h0 := h 0 x rfl
    unfold findA
    rw [if_pos (by simpa using h0)]
    refine ih _ fun k d hd => ?_
    have := h (k + 1) d (by simpa using hd)
    rw [show i + 1 + (k : Int) = i + ((k + 1 : Nat) : Int) by omega]; exact this
/-- The rule on the maps' number. -/
theorem find_size (l : List Def) : (findA (fun i _ => whenN (decide (255 ≤ i)) 16) 0 l).2 = if 255 < l.length then 16 else 0 := by
  have key : ∀ (l : List Def) (i : Int), (findA (fun i _ => whenN (decide (255 ≤ i)) 16) i l).2 = if l ≠ [] ∧ 255 < i + l.length then 16 else 0 := by
    intro l
    induction l with
    | nil => intro i; simp [findA]
    | cons x l ih =>
      intro i
      unfold findA
      by_cases h : 255 ≤ i
      · simp [whenN, h]; omega
      · rw [if_pos (by simp [whenN, h]), ih]
        cases l with
        | nil => simp; omega
        | cons y l => simp only [List.length_cons, ne_eq, reduceCtorEq, not_false_eq_true, true_and]; congr 1; simp; omega
  rw [key]
  cases l with
  | nil => simp
  | cons y l => simp; congr 1; apply propext; omega
theorem repA_bd : ∀ (l seen : List ByteArray), repA seen l < seen.length + l.length ∧ (repA seen l < 0 ∨ seen.length ≤ repA seen l) := by
  intro l
  induction l with
  | nil => intro seen; simp [repA]; omega
  | cons x l ih =>
    intro seen
    unfold repA
    split
    · simp; omega
    · have := ih (seen ++ [x]); simp at *; omega
theorem repN_bd (l : List ByteArray) : repN l < l.length := by have := (repA_bd l []).1; simpa [repN] using this
theorem find_rep (l : List Def) (R : Int) (hR : R < l.length) : (findA (fun i _ => whenN (R == i) 10) 0 l).2 = if 0 ≤ R then 10 else 0 := by
  have key : ∀ (l : List Def) (i : Int), (findA (fun i _ => whenN (R == i) 10) i l).2 = if i ≤ R ∧ R < i + l.length then 10 else 0 := by
    intro l
    induction l with
    | nil => intro i; simp [findA]
    | cons x l ih =>
      intro i
      unfold findA
      by_cases h : R = i
      · simp [whenN, h]; omega
      · have hb : (R == i) = false := by simpa using h
        rw [if_pos (by simp [whenN, hb]), ih]
        simp only [List.length_cons]
        congr 1
        simp; omega
  rw [key]
  congr 1
  apply propext; omega

/-! ### Pack -/
def b4 (l : List Int) : List Int := l.flatMap (le 4)
theorem b4_length (l : List Int) : (b4 l).length = 4 * l.length := by
  unfold b4
  induction l with
  | nil => rfl
  | cons x l ih => simp [le_length, ih]; omega
theorem b4_append (a b : List Int) : b4 (a ++ b) = b4 a ++ b4 b := by simp [b4]
theorem b4_byt (l : List Int) : Byt (b4 l) := by
  intro x hx
  obtain ⟨y, _, hy⟩ := List.mem_flatMap.1 hx
  exact le_byt 4 y x hy
def defN (l : List Def) : List Int := l.flatMap fun d => [d.key, d.val, d.ents, 0]
def symN : Nat → List Int → List Int
  | _, [] => []
  | i, o :: l => o :: (i : Int) :: symN (i + 1) l
def relN (l : List Rel) : List Int := l.flatMap fun r => [r.slot, r.sym]
theorem defN_length (l : List Def) : (defN l).length = 4 * l.length := by induction l <;> simp_all [defN]; omega
theorem symN_length (l : List Int) : ∀ i, (symN i l).length = 2 * l.length := by
  induction l with
  | nil => intro i; rfl
  | cons o l ih => intro i; simp [symN, ih]; omega
theorem symN_snoc (l : List Int) (o : Int) : ∀ i, symN i (l ++ [o]) = symN i l ++ [o, ((i + l.length : Nat) : Int)] := by
  induction l with
  | nil => intro i; rfl
  | cons p l ih => intro i; simp [symN, ih]; omega
theorem relN_length (l : List Rel) : (relN l).length = 2 * l.length := by induction l <;> simp_all [relN]; omega
def namesOf (o : Ob) : List ByteArray := o.maps.map (·.name)
def secsOf (o : Ob) : List Sec := [⟨1, o.code⟩, ⟨2, b4 (defN o.maps)⟩, ⟨3, b4 (symN 0 (offsOf 1 (namesOf o)))⟩, ⟨4, b4 (relN o.rels)⟩, ⟨5, tabOf (namesOf o)⟩]
def packOf (o : Ob) : List Int := boxOf (secsOf o)
def pkOut (o : Ob) : List Int := if obE o = 0 then packOf o else []

theorem obE_parts {o : Ob} (h : obE o = 0) : mapsE o.maps = 0 ∧ o.code.length ≤ 524280 ∧ o.code.length % 8 = 0 ∧ o.code.length ≠ 0 ∧ relsOk ((o.code.length : Int) / 8) o.maps.length (-1) o.rels = true := by
  unfold obE at h
  split at h
  · rename_i h1; exact absurd h h1
  · split at h
    · omega
    · split at h
      · omega
      · split at h
        · refine ⟨by omega, by omega, by omega, by omega, ‹_›⟩
        · omega
theorem mapsE_parts {l : List Def} (h : mapsE l = 0) : (∀ d ∈ l, mapE d = 0) ∧ l.length ≤ 255 ∧ repN (l.map (·.name)) < 0 := by
  unfold mapsE at h
  split at h
  · rename_i h1; exact absurd h h1
  · rename_i h1
    split at h
    · omega
    · split at h
      · omega
      · refine ⟨fun d hd => ?_, by omega, by omega⟩
        obtain ⟨k, hk, rfl⟩ := List.mem_iff_getElem.1 hd
        have := findA_none (chk := fun _ d => mapE d) l 0 (by omega) k _ (List.getElem?_eq_getElem hk)
        exact this
theorem mapE_parts {d : Def} (h : mapE d = 0) : idB d.name = true ∧ sizesB d = true := by
  unfold mapE whenN at h
  split at h
  · rename_i h1
    cases hs : sizesB d with
    | true => exact ⟨h1, rfl⟩
    | false => rw [hs] at h; simp at h
  · omega
theorem mem_tw {α : Type} {p : α → Bool} : ∀ {l : List α} {x : α}, x ∈ l.takeWhile p → p x = true := by
  intro l
  induction l with
  | nil => intro x h; simp at h
  | cons y l ih =>
    intro x h
    rw [List.takeWhile_cons] at h
    split at h
    · rcases List.mem_cons.1 h with rfl | h
      · assumption
      · exact ih h
    · simp at h
theorem inW_zero : inW 0 = false := rfl
theorem idB_good {s : ByteArray} (h : idB s = true) : GoodT s ∧ s.size ≤ 32 := by
  unfold idB at h
  simp only [Bool.and_eq_true, decide_eq_true_eq] at h
  obtain ⟨⟨h1, h2, h3⟩, _⟩ := h
  refine ⟨⟨h1, fun hm => ?_⟩, h2⟩
  simp only [bytesOf, List.mem_map] at hm
  obtain ⟨b, hb, hb0⟩ := hm
  have e : s.data.toList.takeWhile (fun b => inW b.toNat) = s.data.toList := by
    refine (List.takeWhile_sublist _).eq_of_length ?_
    show wLen s.data.toList = _
    rw [h3]; simp
  have := mem_tw (p := fun b : UInt8 => inW b.toNat) (l := s.data.toList) (x := b) (by rw [e]; exact hb)
  simp only [hb0] at this
  exact absurd this (by rw [inW_zero]; decide)
theorem rels_len (slots maps : Int) : ∀ (l : List Rel) (last : Int), relsOk slots maps last l = true → last < slots → last + l.length < slots ∧ ∀ r ∈ l, last < r.slot ∧ r.slot < slots ∧ 0 ≤ r.sym ∧ r.sym < maps := by
  intro l
  induction l with
  | nil => intro last _ h; simp; exact h
  | cons r l ih =>
    intro last h hl
    simp only [relsOk, Bool.and_eq_true, decide_eq_true_eq] at h
    obtain ⟨⟨h1, h2, h3, h4⟩, h5⟩ := h
    have := ih _ h5 h2
    refine ⟨by simp only [List.length_cons]; omega, fun x hx => ?_⟩
    rcases List.mem_cons.1 hx with rfl | hx
    · exact ⟨h1, h2, h3, h4⟩
    · have := this.2 x hx; omega
theorem names_good {o : Ob} (h : obE o = 0) : (∀ s ∈ namesOf o, GoodT s) ∧ (∀ s ∈ namesOf o, s.size ≤ 32) ∧ (namesOf o).length ≤ 255 := by
  obtain ⟨h1, -, -, -, -⟩ := obE_parts h
  obtain ⟨h2, h3, h4⟩ := mapsE_parts h1
  refine ⟨fun s hs => ?_, fun s hs => ?_, by simpa [namesOf] using h3⟩
  · obtain ⟨d, hd, rfl⟩ := List.mem_map.1 hs
    exact (idB_good (mapE_parts (h2 d hd)).1).1
  · obtain ⟨d, hd, rfl⟩ := List.mem_map.1 hs
    exact (idB_good (mapE_parts (h2 d hd)).1).2
theorem secs_ok {o : Ob} (h : obE o = 0) : secErr (secsOf o) = 0 := by
  obtain ⟨h1, h2, h3, h4, h5⟩ := obE_parts h
  obtain ⟨g1, g2, g3⟩ := names_good h
  have hr := (rels_len _ _ _ _ h5 (by omega)).1
  have hm := (mapsE_parts h1).2.1
  have ht : tlen (namesOf o) ≤ 8415 := Nat.le_trans (tlen_le g2) (by omega)
  have hk : kindsOk 0 (secsOf o) = true := rfl
  have hs : secSize (secsOf o) ≤ 1073741824 := by
    unfold secSize secsOf
    simp only [List.map_cons, List.map_nil, List.sum_cons, List.sum_nil, List.length_cons, List.length_nil, b4_length, defN_length, symN_length, offsOf_length, relN_length, tabOf_length]
    unfold up
    have : (namesOf o).length = o.maps.length := by simp [namesOf]
    omega
  unfold secErr
  rw [if_neg (by simp [secsOf]; exact hs), if_pos hk]
theorem pk_ok {o : Ob} (h : obE o = 0) : wrOut (secsOf o) = packOf o := by unfold wrOut; rw [if_pos (secs_ok h)]; rfl

/-! ### Parse -/
def mDef (b : List Int) (k : Nat) (t : ByteArray) : Def := ⟨t, numOf b (16 * k) 4, numOf b (16 * k + 4) 4, numOf b (16 * k + 8) 4⟩
def mRel (b : List Int) (k : Nat) : Rel := ⟨numOf b (8 * k) 4, numOf b (8 * k + 4) 4⟩
def mDefs (b : List Int) (T : List ByteArray) : List Def := T.mapIdx fun k t => mDef b k t
def mRels (b : List Int) (n : Nat) : List Rel := (List.range n).map (mRel b)
def secD (S : List Sec) (i : Nat) : List Int := (S.getD i default).data
def obOf (S : List Sec) : Ob := ⟨mDefs (secD S 1) (parL (secD S 4)), secD S 0, mRels (secD S 3) ((secD S 3).length / 8)⟩
def paOk (b : List Int) : Prop :=
  rdOk b ∧ (rdOut b).length = 5 ∧ parB (secD (rdOut b) 4) = true ∧ (secD (rdOut b) 1).length = 16 * (parL (secD (rdOut b) 4)).length ∧ (secD (rdOut b) 3).length % 8 = 0 ∧ obE (obOf (rdOut b)) = 0 ∧ packOf (obOf (rdOut b)) = b
instance (b : List Int) : Decidable (paOk b) := inferInstanceAs (Decidable (_ ∧ _))
def obNil : Ob := ⟨[], [], []⟩
def paOut (b : List Int) : Ob := if paOk b then obOf (rdOut b) else obNil
def paErr (b : List Int) : Int := if paOk b then 0 else 19
theorem pa_secs {b : List Int} (h : paOk b) : rdOut b = secsOf (paOut b) := by
  obtain ⟨h1, h2, h3, h4, h5, h6, h7⟩ := id h
  obtain ⟨_, e2, e3⟩ := rdOk_spec h1
  have : paOut b = obOf (rdOut b) := by unfold paOut; rw [if_pos h]
  rw [this]
  exact boxOf_inj (e3.trans h7.symm) e2 (secs_ok h6)
end Go.Proofs.YtiaddncjghkajaaGreatDoor
