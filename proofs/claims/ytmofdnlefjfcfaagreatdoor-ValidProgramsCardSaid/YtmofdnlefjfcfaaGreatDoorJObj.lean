/- The layer object: what Check, Pack and Parse return, as plain functions. -/
import Derived.Test.YtmofdnlefjfcfaaGreatDoorJTabK
import Derived.Test.YtmofdnlefjfcfaaGreatDoorJEachB
set_option linter.unusedVariables false
set_option linter.unusedSimpArgs false
namespace Go.Proofs.YtmofdnlefjfcfaaGreatDoor
open Go.RowKit Go.Lib

/-! ### bytes of numbers -/
theorem lval_le_mod (n : Nat) : ∀ x : Int, lval (le n x) = x % 256 ^ n := by
 induction n with
 | zero => intro x; simp [le, lval, Int.emod_one]
 | succ n ih =>
  intro x
  have hp : (0 : Int) < 256 ^ n := Int.pow_pos (by decide)
  rw [le, lval, ih, Int.pow_succ, Int.mul_comm (256 ^ n) 256]
  have h1 := Int.mul_ediv_add_emod x 256
  have h2 := Int.mul_ediv_add_emod (x / 256) (256 ^ n)
  have h3 := Int.emod_nonneg (x / 256) (Int.ne_of_gt hp)
  have h4 := Int.emod_lt_of_pos (x / 256) hp
  have h5 := Int.emod_nonneg x (b := 256) (by decide)
  have h6 := Int.emod_lt_of_pos x (b := 256) (by decide)
  symm
  generalize (256 : Int) ^ n = P at *
  generalize x / 256 = q at *
  generalize hr : x % 256 = r at *
  generalize q % P = s at *
  generalize q / P = t at *
  have e : x = (r + 256 * s) + 256 * P * t := by rw [← h1, ← h2]; rw [Int.mul_add, Int.mul_assoc]; omega
  rw [e, Int.add_mul_emod_self_left, Int.emod_eq_of_lt]
  ·omega
  ·have : s + 1 ≤ P := h4
   have : 256 * (s + 1) ≤ 256 * P := Int.mul_le_mul_of_nonneg_left this (by decide)
   omega
/-! ### a container determines its sections -/
theorem secErr_parts {l : List Sec} (h : secErr l = 0) : l.length ≤ 16 ∧ secSize l ≤ 1073741824 ∧ kindsOk 0 l = true := by
 unfold secErr at h
 split at h
 ·omega
 ·split at h
  ·refine ⟨by omega, by omega, ‹_›⟩
  ·omega
theorem secs_bd {l : List Sec} (h : secErr l = 0) : ∀ s ∈ l, 0 ≤ s.kind ∧ s.kind ≤ 65535 ∧ s.data.length < 4294967296 := by
 obtain ⟨h1, h2, h3⟩ := secErr_parts h
 intro s hs
 have hk := kindsOk_pos h3 (by omega) s hs
 obtain ⟨pre, suf, rfl⟩ := List.append_of_mem hs
 have := secSize_mem pre suf s
 exact ⟨hk.1, hk.2, by omega⟩
theorem rdOk_spec {b : List Int} (h : rdOk b) : rdOut b = secTab b (rdN b) ∧ secErr (rdOut b) = 0 ∧ boxOf (rdOut b) = b := by
 have e : rdOut b = secTab b (rdN b) := by unfold rdOut; rw [if_pos h]
 rw [e]
 exact ⟨rfl, h.2.2.2.1, h.2.2.2.2⟩

/-! ### Check -/
/-- The error of the maps alone. -/
def mapsE (l : List Def) : Int :=
 if (findA (fun _ d => mapE d) 0 l).2 ≠ 0 then (findA (fun _ d => mapE d) 0 l).2 else if 255 < l.length then 16 else if 0 ≤ repN (l.map (·.name)) then 10 else 0
def relsOk (slots maps : Int) : Int → List Rel → Bool
 | _, [] => true
 | last, r :: l => decide (last < r.slot ∧ r.slot < slots ∧ 0 ≤ r.sym ∧ r.sym < maps) && relsOk slots maps r.slot l
def obE (o : Ob) : Int :=
 if mapsE o.maps ≠ 0 then mapsE o.maps else if o.code.length = 0 ∨ o.code.length % 8 ≠ 0 then 17 else if 524280 < o.code.length then 16
 else if relsOk ((o.code.length : Int) / 8) o.maps.length (-1) o.rels then 0 else 18

theorem findA_none {chk : Int → Def → Int} : ∀ (l : List Def) (i : Int), (findA chk i l).2 = 0 → ∀ (k : Nat) d, l[k]? = some d → chk (i + k) d = 0 := by
 intro l
 induction l with
 | nil => intro i _ k d h; simp at h
 | cons x l ih =>
  intro i h k d hd
  unfold findA at h
  split at h
  ·rename_i h0
   cases k with
   | zero => simp at hd; subst hd; simpa using h0
   | succ k =>
    simp only [List.getElem?_cons_succ] at hd
    have := ih _ h k d hd
    rw [show i + ((k + 1 : Nat) : Int) = i + 1 + k by omega]; exact this
  ·rename_i h0; exact absurd h h0
theorem findA_all {chk : Int → Def → Int} : ∀ (l : List Def) (i : Int), (∀ (k : Nat) d, l[k]? = some d → chk (i + k) d = 0) → findA chk i l = (0, 0) := by
 intro l
 induction l with
 | nil => intro i _; rfl
 | cons x l ih =>
  intro i h
  have h0 := h 0 x rfl
  unfold findA
  rw [if_pos (by simpa using h0)]
  refine ih _ fun k d hd => ?_
  have := h (k + 1) d (by simpa using hd)
  rw [show i + 1 + (k : Int) = i + ((k + 1 : Nat) : Int) by omega]; exact this
/-- The rule on the maps' number. -/
theorem find_size (l : List Def) : (findA (fun i _ => whenN (decide (255 ≤ i)) 16) 0 l).2 = if 255 < l.length then 16 else 0 := by
 have key : ∀ (l : List Def) (i : Int), (findA (fun i _ => whenN (decide (255 ≤ i)) 16) i l).2 = if l ≠ [] ∧ 255 < i + l.length then 16 else 0 := by
  intro l
  induction l with
  | nil => intro i; simp [findA]
  | cons x l ih =>
   intro i
   unfold findA
   by_cases h : 255 ≤ i
   ·simp [whenN, h]; omega
   ·rw [if_pos (by simp [whenN, h]), ih]
    cases l with
    | nil => simp; omega
    | cons y l => simp only [List.length_cons, ne_eq, reduceCtorEq, not_false_eq_true, true_and]; congr 1; simp; omega
 rw [key]
 cases l with
 | nil => simp
 | cons y l => simp; congr 1; apply propext; omega
theorem repA_bd : ∀ (l seen : List ByteArray), repA seen l < seen.length + l.length ∧ (repA seen l < 0 ∨ seen.length ≤ repA seen l) := by
 intro l
 induction l with
 | nil => intro seen; simp [repA]; omega
 | cons x l ih =>
  intro seen
  unfold repA
  split
  ·simp; omega
  ·have := ih (seen ++ [x]); simp at *; omega
theorem repN_bd (l : List ByteArray) : repN l < l.length := by have := (repA_bd l []).1; simpa [repN] using this
theorem find_rep (l : List Def) (R : Int) (hR : R < l.length) : (findA (fun i _ => whenN (R == i) 10) 0 l).2 = if 0 ≤ R then 10 else 0 := by
 have key : ∀ (l : List Def) (i : Int), (findA (fun i _ => whenN (R == i) 10) i l).2 = if i ≤ R ∧ R < i + l.length then 10 else 0 := by
  intro l
  induction l with
  | nil => intro i; simp [findA]
  | cons x l ih =>
   intro i
   unfold findA
   by_cases h : R = i
   ·simp [whenN, h]; omega
   ·have hb : (R == i) = false := by simpa using h
    rw [if_pos (by simp [whenN, hb]), ih]
    simp only [List.length_cons]
    congr 1
    simp; omega
 rw [key]
 congr 1
 apply propext; omega

/-! ### Pack -/
def b4 (l : List Int) : List Int := l.flatMap (le 4)
theorem b4_length (l : List Int) : (b4 l).length = 4 * l.length := by
 unfold b4
 induction l with
 | nil => rfl
 | cons x l ih => simp [le_length, ih]; omega
theorem b4_append (a b : List Int) : b4 (a ++ b) = b4 a ++ b4 b := by simp [b4]
theorem b4_byt (l : List Int) : Byt (b4 l) := by
 intro x hx
 obtain ⟨y, _, hy⟩ := List.mem_flatMap.1 hx
 exact le_byt 4 y x hy
def defN (l : List Def) : List Int := l.flatMap fun d => [d.key, d.val, d.ents, 0]
def symN : Nat → List Int → List Int
 | _, [] => []
 | i, o :: l => o :: (i : Int) :: symN (i + 1) l
def relN (l : List Rel) : List Int := l.flatMap fun r => [r.slot, r.sym]
theorem defN_length (l : List Def) : (defN l).length = 4 * l.length := by induction l <;> simp_all [defN]; omega
theorem symN_length (l : List Int) : ∀ i, (symN i l).length = 2 * l.length := by
 induction l with
 | nil => intro i; rfl
 | cons o l ih => intro i; simp [symN, ih]; omega
theorem symN_snoc (l : List Int) (o : Int) : ∀ i, symN i (l ++ [o]) = symN i l ++ [o, ((i + l.length : Nat) : Int)] := by
 induction l with
 | nil => intro i; rfl
 | cons p l ih => intro i; simp [symN, ih]; omega
theorem relN_length (l : List Rel) : (relN l).length = 2 * l.length := by induction l <;> simp_all [relN]; omega
def namesOf (o : Ob) : List ByteArray := o.maps.map (·.name)
def secsOf (o : Ob) : List Sec := [⟨1, o.code⟩, ⟨2, b4 (defN o.maps)⟩, ⟨3, b4 (symN 0 (offsOf 1 (namesOf o)))⟩, ⟨4, b4 (relN o.rels)⟩, ⟨5, tabOf (namesOf o)⟩]
def packOf (o : Ob) : List Int := boxOf (secsOf o)
def pkOut (o : Ob) : List Int := if obE o = 0 then packOf o else []

theorem obE_parts {o : Ob} (h : obE o = 0) : mapsE o.maps = 0 ∧ o.code.length ≤ 524280 ∧ o.code.length % 8 = 0 ∧ o.code.length ≠ 0 ∧ relsOk ((o.code.length : Int) / 8) o.maps.length (-1) o.rels = true := by
 unfold obE at h
 split at h
 ·rename_i h1; exact absurd h h1
 ·split at h
  ·omega
  ·split at h
   ·omega
   ·split at h
    ·refine ⟨by omega, by omega, by omega, by omega, ‹_›⟩
    ·omega
theorem mapsE_parts {l : List Def} (h : mapsE l = 0) : (∀ d ∈ l, mapE d = 0) ∧ l.length ≤ 255 ∧ repN (l.map (·.name)) < 0 := by
 unfold mapsE at h
 split at h
 ·rename_i h1; exact absurd h h1
 ·rename_i h1
  split at h
  ·omega
  ·split at h
   ·omega
   ·refine ⟨fun d hd => ?_, by omega, by omega⟩
    obtain ⟨k, hk, rfl⟩ := List.mem_iff_getElem.1 hd
    have := findA_none (chk := fun _ d => mapE d) l 0 (by omega) k _ (List.getElem?_eq_getElem hk)
    exact this
theorem mapE_parts {d : Def} (h : mapE d = 0) : idB d.name = true ∧ sizesB d = true := by
 unfold mapE whenN at h
 split at h
 ·rename_i h1
  cases hs : sizesB d with
  | true => exact ⟨h1, rfl⟩
  | false => rw [hs] at h; simp at h
 ·omega
theorem mem_tw {α : Type} {p : α → Bool} : ∀ {l : List α} {x : α}, x ∈ l.takeWhile p → p x = true := by
 intro l
 induction l with
 | nil => intro x h; simp at h
 | cons y l ih =>
  intro x h
  rw [List.takeWhile_cons] at h
  split at h
  ·rcases List.mem_cons.1 h with rfl | h
   ·assumption
   ·exact ih h
  ·simp at h
theorem inW_zero : inW 0 = false := rfl
theorem idB_good {s : ByteArray} (h : idB s = true) : GoodT s ∧ s.size ≤ 32 := by
 unfold idB at h
 simp only [Bool.and_eq_true, decide_eq_true_eq] at h
 obtain ⟨⟨h1, h2, h3⟩, _⟩ := h
 refine ⟨⟨h1, fun hm => ?_⟩, h2⟩
 simp only [bytesOf, List.mem_map] at hm
 obtain ⟨b, hb, hb0⟩ := hm
 have e : s.data.toList.takeWhile (fun b => inW b.toNat) = s.data.toList := by
  refine (List.takeWhile_sublist _).eq_of_length ?_
  show wLen s.data.toList = _
  rw [h3]; simp
 have := mem_tw (p := fun b : UInt8 => inW b.toNat) (l := s.data.toList) (x := b) (by rw [e]; exact hb)
 simp only [hb0] at this
 exact absurd this (by rw [inW_zero]; decide)
theorem rels_len (slots maps : Int) : ∀ (l : List Rel) (last : Int), relsOk slots maps last l = true → last < slots → last + l.length < slots ∧ ∀ r ∈ l, last < r.slot ∧ r.slot < slots ∧ 0 ≤ r.sym ∧ r.sym < maps := by
 intro l
 induction l with
 | nil => intro last _ h; simp; exact h
 | cons r l ih =>
  intro last h hl
  simp only [relsOk, Bool.and_eq_true, decide_eq_true_eq] at h
  obtain ⟨⟨h1, h2, h3, h4⟩, h5⟩ := h
  have := ih _ h5 h2
  refine ⟨by simp only [List.length_cons]; omega, fun x hx => ?_⟩
  rcases List.mem_cons.1 hx with rfl | hx
  ·exact ⟨h1, h2, h3, h4⟩
  ·have := this.2 x hx; omega
theorem names_good {o : Ob} (h : obE o = 0) : (∀ s ∈ namesOf o, GoodT s) ∧ (∀ s ∈ namesOf o, s.size ≤ 32) ∧ (namesOf o).length ≤ 255 := by
 obtain ⟨h1, -, -, -, -⟩ := obE_parts h
 obtain ⟨h2, h3, h4⟩ := mapsE_parts h1
 refine ⟨fun s hs => ?_, fun s hs => ?_, by simpa [namesOf] using h3⟩
 ·obtain ⟨d, hd, rfl⟩ := List.mem_map.1 hs
  exact (idB_good (mapE_parts (h2 d hd)).1).1
 ·obtain ⟨d, hd, rfl⟩ := List.mem_map.1 hs
  exact (idB_good (mapE_parts (h2 d hd)).1).2
theorem secs_ok {o : Ob} (h : obE o = 0) : secErr (secsOf o) = 0 := by
 obtain ⟨h1, h2, h3, h4, h5⟩ := obE_parts h
 obtain ⟨g1, g2, g3⟩ := names_good h
 have hr := (rels_len _ _ _ _ h5 (by omega)).1
 have hm := (mapsE_parts h1).2.1
 have ht : tlen (namesOf o) ≤ 8415 := Nat.le_trans (tlen_le g2) (by omega)
 have hk : kindsOk 0 (secsOf o) = true := rfl
 have hs : secSize (secsOf o) ≤ 1073741824 := by
  unfold secSize secsOf
  simp only [List.map_cons, List.map_nil, List.sum_cons, List.sum_nil, List.length_cons, List.length_nil, b4_length, defN_length, symN_length, offsOf_length, relN_length, tabOf_length]
  unfold up
  have : (namesOf o).length = o.maps.length := by simp [namesOf]
  omega
 unfold secErr
 rw [if_neg (by simp [secsOf]; exact hs), if_pos hk]
theorem pk_ok {o : Ob} (h : obE o = 0) : wrOut (secsOf o) = packOf o := by unfold wrOut; rw [if_pos (secs_ok h)]; rfl

/-! ### Parse -/
def mDef (b : List Int) (k : Nat) (t : ByteArray) : Def := ⟨t, numOf b (16 * k) 4, numOf b (16 * k + 4) 4, numOf b (16 * k + 8) 4⟩
def mRel (b : List Int) (k : Nat) : Rel := ⟨numOf b (8 * k) 4, numOf b (8 * k + 4) 4⟩
def mDefs (b : List Int) (T : List ByteArray) : List Def := T.mapIdx fun k t => mDef b k t
def mRels (b : List Int) (n : Nat) : List Rel := (List.range n).map (mRel b)
def secD (S : List Sec) (i : Nat) : List Int := (S.getD i default).data
def obOf (S : List Sec) : Ob := ⟨mDefs (secD S 1) (parL (secD S 4)), secD S 0, mRels (secD S 3) ((secD S 3).length / 8)⟩
def paOk (b : List Int) : Prop :=
 rdOk b ∧ (rdOut b).length = 5 ∧ parB (secD (rdOut b) 4) = true ∧ (secD (rdOut b) 1).length = 16 * (parL (secD (rdOut b) 4)).length ∧ (secD (rdOut b) 3).length % 8 = 0 ∧ obE (obOf (rdOut b)) = 0 ∧ packOf (obOf (rdOut b)) = b
instance (b : List Int) : Decidable (paOk b) := inferInstanceAs (Decidable (_ ∧ _))
def obNil : Ob := ⟨[], [], []⟩
def paOut (b : List Int) : Ob := if paOk b then obOf (rdOut b) else obNil
def paErr (b : List Int) : Int := if paOk b then 0 else 19
end Go.Proofs.YtmofdnlefjfcfaaGreatDoor


set_option linter.unusedVariables false
set_option linter.unusedSimpArgs false
namespace Go.Proofs.YtmofdnlefjfcfaaGreatDoor
open Go.RowKit Go.Lib

set_option maxRecDepth 20000 in
set_option maxHeartbeats 1000000 in
theorem progCheck_of (A1 A2 : Option Addr) (n1 c1 n2 c2 : Nat) (f : Int × Int) (i : Int) (w : World)
  (hc : ∀ W, Ext w W → Calls Tryz.prog 72 #[.agg #[.slice A1 n1 c1, .slice A2 n2 c2]] W fun e w' => e = .returned (.tuple #[findV f, .int .i64 i]) ∧ Ext W w') :
  Calls Tryz.prog 37 #[.agg #[.slice A1 n1 c1, .slice A2 n2 c2]] w fun e w' => e = .returned (.tuple #[.int .i64 f.1, .int .i64 f.2]) ∧ Ext w w' := by
 have e0 := Ext.new w (.cells #[.slice A1 n1 c1, .slice A2 n2 c2] 25)
 have hc1 := hc _ e0
 obtain ⟨x, y⟩ := f
 simp only [findV] at hc1
 clear hc
 go_enter Tryz.func37, Tryz.ntmps37
 go_wp2_with (first | (go_at_call 72; refine hc1.mono ?_; rintro e w1 ⟨rfl, e1⟩; replace e1 := e0.trans e1))
 go_region
 all_goals (go_wp2; go_ret2; exact ⟨rfl, (e1.alloc _).drew⟩)

/-- What the variable none of prog holds. -/
structure NoneV (w : World) : Prop where
 a : w.cell? ⟨0, 0, none⟩ = some (.int .i64 0)
 b : w.cell? ⟨0, 1, none⟩ = some (.int .i64 0)
theorem NoneV.ext {w w' : World} (h : NoneV w) (he : Ext w w') : NoneV w' := ⟨he.cell h.a, he.cell h.b⟩
theorem enD : ∀ args W, (callFunc 157 args).run Tryz.prog W = .ok (.enter 157 args) W := fun _ _ => by kernel_rfl
theorem enS : ∀ args W, (callFunc 160 args).run Tryz.prog W = .ok (.enter 160 args) W := fun _ _ => by kernel_rfl
theorem enL : ∀ args W, (callFunc 133 args).run Tryz.prog W = .ok (.enter 133 args) W := fun _ _ => by kernel_rfl
theorem en3 : ∀ args W, (callFunc 134 args).run Tryz.prog W = .ok (.enter 134 args) W := fun _ _ => by kernel_rfl
def mapRs (l : List Def) : List (Int × Int) :=
 [findA (fun _ d => mapE d) 0 l, (0, 0), findA (fun i _ => whenN (decide (255 ≤ i)) 16) 0 l, findA (fun i _ => whenN (repN (l.map (·.name)) == i) 10) 0 l, (0, 0), (0, 15), (0, 0), (0, 0), (0, 0)]
theorem mapRs_e (l : List Def) : (firstF 0 (mapRs l)).1.2 = if mapsE l ≠ 0 then mapsE l else 15 := by
 have h1 := find_size l
 have h2 := find_rep l (repN (l.map (·.name))) (by have := repN_bd (l.map (·.name)); simpa using this)
 unfold mapRs mapsE
 generalize findA (fun _ d => mapE d) 0 l = a at *
 generalize findA (fun i _ => whenN (decide (255 ≤ i)) 16) 0 l = b at *
 generalize findA (fun i _ => whenN (repN (l.map (·.name)) == i) 10) 0 l = c at *
 obtain ⟨a1, a2⟩ := a
 obtain ⟨b1, b2⟩ := b
 obtain ⟨c1, c2⟩ := c
 simp only at h1 h2
 subst h1 h2
 simp only [firstF]
 by_cases ha : a2 = 0
 ·subst ha
  by_cases hb : 255 < l.length
  ·simp [hb]
  ·by_cases hc : 0 ≤ repN (l.map (·.name))
   ·simp [hb, hc]
   ·simp [hb, hc]
 ·simp [ha]

theorem defs_ok {w : World} {v : Value} {l : List Def} (h : IsDefs w v l) : ∀ d ∈ l, d.Ok := Sl.all h fun _ _ _ k => k.2
theorem check_maps (v1 : Value) (l : List Def) (w : World) (hl : l.length ≤ 100000) (hv : IsDefs w v1 l) (hG : Glob w) (hN : NoneV w) :
  Calls Tryz.prog 37 #[.agg #[v1, .slice none 0 0]] w fun e w' => ∃ i : Int, e = .returned (.tuple #[.int .i64 i, .int .i64 (if mapsE l ≠ 0 then mapsE l else 15)]) ∧ Ext w w' := by
 obtain ⟨A, c, rfl, -, -, hv'⟩ := hv.form
 have hok := defs_ok hv
 refine (progCheck_of A none l.length c 0 0 (firstF 0 (mapRs l)).1 (firstF 0 (mapRs l)).2 w fun W0 hW0 => ?_).mono fun e w' ⟨h1, h2⟩ => ⟨(firstF 0 (mapRs l)).1.1, by rw [h1, ← mapRs_e], h2⟩
 refine check_nine A none l.length c 0 0 (mapRs l) W0 rfl (hN.ext hW0).a (hN.ext hW0).b fun W R hW ra k r hr hz => ?_
 have e1 := hW0.trans hW
 have z := fun h5 => hz 5 (0, 15) h5 rfl
 have hk : k < 6 := by
  by_cases h : k < 6
  ·exact h
  ·exact absurd (z (by omega)) (by decide)
 clear hz z
 match k, hk with
 | 0, _ =>
  obtain ⟨a, b, c1, c2, c3⟩ := ra.r1
  obtain rfl := Option.some.inj hr
  refine ⟨_, _, c1, enD, fun W' hW' => ?_⟩
  have e2 := e1.trans hW'
  refine eachDef1_any a b _ none 0 0 l (fun _ d => mapE d) W' hl (IsDefs.ext hv e2) (hW'.cell c2) (hW'.cell c3) (hN.ext e2).a (hN.ext e2).b fun i d W'' hW'' hd => ?_
  exact checkMap_any A none l.length c 0 0 i d (hok d hd) W'' (hG.ext (e2.trans hW''))
 | 1, _ =>
  obtain ⟨a, b, c1, c2, c3⟩ := ra.r2
  obtain rfl := Option.some.inj hr
  refine ⟨_, _, c1, enS, fun W' hW' => ?_⟩
  have e2 := e1.trans hW'
  exact eachStmt1_none a b A none l.length c 0 W' (hW'.cell c2) (hN.ext e2).a (hN.ext e2).b
 | 2, _ =>
  obtain ⟨a, b, c1, c2, c3⟩ := ra.r3
  obtain rfl := Option.some.inj hr
  refine ⟨_, _, c1, enD, fun W' hW' => ?_⟩
  have e2 := e1.trans hW'
  refine eachDefR1_any a b _ none 0 0 l (fun i _ => whenN (decide (255 ≤ i)) 16) W' hl (IsDefs.ext hv e2) (hW'.cell c2) (hW'.cell c3) (hN.ext e2).a (hN.ext e2).b fun i d W'' hW'' hd => ?_
  exact rules1_any A none l.length c 0 0 i d W''
 | 3, _ =>
  obtain ⟨a, b, c1, c2, c3⟩ := ra.r4
  obtain rfl := Option.some.inj hr
  refine ⟨_, _, c1, enD, fun W' hW' => ?_⟩
  have e2 := e1.trans hW'
  refine eachDefR2_any a b _ none 0 0 l (fun i _ => whenN (repN (l.map (·.name)) == i) 10) W' hl (IsDefs.ext hv e2) (hW'.cell c2) (hW'.cell c3) (hN.ext e2).a (hN.ext e2).b fun i d W'' hW'' hd => ?_
  exact rules2_any _ none 0 0 l i d W'' hl (IsDefs.ext hv (e2.trans hW''))
 | 4, _ =>
  obtain rfl := Option.some.inj hr
  refine ⟨_, _, ra.r5, enL, fun W' hW' => ?_⟩
  have e2 := e1.trans hW'
  exact labelsOnce_none A none l.length c 0 W' (hN.ext e2).a (hN.ext e2).b
 | 5, _ =>
  obtain rfl := Option.some.inj hr
  refine ⟨_, _, ra.r6, en3, fun W' hW' => ?_⟩
  exact rules3_none A none l.length c 0 W'
end Go.Proofs.YtmofdnlefjfcfaaGreatDoor


set_option linter.unusedVariables false
set_option linter.unusedSimpArgs false
namespace Go.Proofs.YtmofdnlefjfcfaaGreatDoor
open Go.RowKit Go.Lib

theorem findA_val {chk : Int → Def → Int} {p : Int → Prop} (h0 : p 0) (h : ∀ i d, p (chk i d)) : ∀ (l : List Def) (i : Int), p (findA chk i l).2 := by
 intro l
 induction l with
 | nil => intro i; exact h0
 | cons x l ih =>
  intro i
  unfold findA
  split
  ·exact ih _
  ·exact h _ _
theorem mapsE_ne (l : List Def) : mapsE l ≠ 15 ∧ 0 ≤ mapsE l ∧ mapsE l ≤ 16 := by
 have h := findA_val (chk := fun _ d => mapE d) (p := fun x => x ≠ 15 ∧ 0 ≤ x ∧ x ≤ 16) (by omega) (fun i d => by
  simp only [mapE, whenN]; split <;> (try split) <;> omega) l 0
 unfold mapsE
 split
 ·exact h
 ·split
  ·omega
  ·split <;> omega

set_option maxRecDepth 20000 in
set_option maxHeartbeats 2000000 in
theorem object_Check_any (v : Value) (o : Ob) (w : World) (h : IsOb w v o) (hm : o.maps.length ≤ 100000) (hr : o.rels.length ≤ 1000000) (hG : Glob w) (hN : NoneV w) :
  Calls Tryz.prog 11 #[v] w fun e w' => e = .returned (.int .i64 (obE o)) ∧ Ext w w' := by
 obtain ⟨v1, v2, v3, rfl, d1, d2, d3⟩ := h
 obtain ⟨A1, c1, rfl, -, -, d1'⟩ := d1.form
 obtain ⟨A2, c2, rfl, -, hcl, d2'⟩ := d2.form
 obtain ⟨A3, c3, rfl, -, -, d3'⟩ := d3.form
 have e0 := Ext.new w (.cells #[.slice A1 o.maps.length c1, .slice A2 o.code.length c2, .slice A3 o.rels.length c3] 31)
 have hC := check_maps _ o.maps _ hm (IsDefs.ext d1' e0) (hG.ext e0) (hN.ext e0)
 have p1 : (w.alloc (.cells #[.slice A1 o.maps.length c1, .slice A2 o.code.length c2, .slice A3 o.rels.length c3] 31)).cell? ⟨w.heap.size, 0, none⟩ = some (.slice A1 o.maps.length c1) := by simp
 have p2 : (w.alloc (.cells #[.slice A1 o.maps.length c1, .slice A2 o.code.length c2, .slice A3 o.rels.length c3] 31)).cell? ⟨w.heap.size, 1, none⟩ = some (.slice A2 o.code.length c2) := by simp
 have p3 : (w.alloc (.cells #[.slice A1 o.maps.length c1, .slice A2 o.code.length c2, .slice A3 o.rels.length c3] 31)).cell? ⟨w.heap.size, 2, none⟩ = some (.slice A3 o.rels.length c3) := by simp
 have hne := mapsE_ne o.maps
 by_cases hE : mapsE o.maps = 0
 case neg =>
  have hO := hx (show obE o = mapsE o.maps by unfold obE; rw [if_pos hE])
  rw [if_pos hE] at hC
  have hn15 : (mapsE o.maps != 15) = true := by simpa using hne.1
  generalize mapsE o.maps = M at *
  clear hne hE
  go_enter Tryz.func11, Tryz.ntmps11
  go_wp2_with (first | (go_at_call 37; refine hC.mono ?_; rintro e w1 ⟨i, rfl, e1⟩; replace e1 := e0.trans e1))
  go_ret
  exact ⟨ret_int hO.out.symm, e1⟩
 rw [if_neg (by simpa using hE)] at hC
 have HE := hx hE
 clear hne hE
 obtain ⟨n, hn⟩ : ∃ n, n = o.code.length := ⟨_, rfl⟩
 rw [← hn] at d2' hcl e0 hC p1 p2 p3 ⊢
 have HNN := hx hn
 clear hn d2
 by_cases hz : n / 8 = 0
 ·have hO := hx (show obE o = 17 by unfold obE; rw [if_neg (by simpa using HE.out), if_pos (by have := HNN.out; omega)])
  have hq : ((n : Int) / 8 == 0) = true := by simp; omega
  clear hz
  go_enter Tryz.func11, Tryz.ntmps11
  go_wp2_with (first | (go_at_call 37; refine hC.mono ?_; rintro e w1 ⟨i, rfl, e1⟩; have q2 := e1.cell p2; replace e1 := e0.trans e1))
  go_ret
  exact ⟨ret_int hO.out.symm, e1⟩
 have hq : ((n : Int) / 8 == 0) = false := by simp; omega
 by_cases h8 : n % 8 = 0
 case neg =>
  have hO := hx (show obE o = 17 by unfold obE; rw [if_neg (by simpa using HE.out), if_pos (by have := HNN.out; omega)])
  have hq2 : ((n : Int) % 8 != 0) = true := by simp; omega
  clear hz h8
  go_enter Tryz.func11, Tryz.ntmps11
  go_wp2_with (first | (go_at_call 37; refine hC.mono ?_; rintro e w1 ⟨i, rfl, e1⟩; have q2 := e1.cell p2; replace e1 := e0.trans e1))
  go_ret
  exact ⟨ret_int hO.out.symm, e1⟩
 have hq2 : ((n : Int) % 8 != 0) = false := by simp; omega
 by_cases hb : 65535 < (n : Int) / 8
 ·have hO := hx (show obE o = 16 by unfold obE; rw [if_neg (by simpa using HE.out), if_neg (by have := HNN.out; omega), if_pos (by have := HNN.out; omega)])
  clear hz h8
  go_enter Tryz.func11, Tryz.ntmps11
  go_wp2_with (first | (go_at_call 37; refine hC.mono ?_; rintro e w1 ⟨i, rfl, e1⟩; have q2 := e1.cell p2; replace e1 := e0.trans e1))
  go_ret
  exact ⟨ret_int hO.out.symm, e1⟩
 have hO := hx (show obE o = if relsOk ((n : Int) / 8) o.maps.length (-1) o.rels then 0 else 18 by unfold obE; rw [if_neg (by simpa using HE.out), if_neg (by have := HNN.out; omega), if_neg (by have := HNN.out; omega), HNN.out])
 have hbd : (n : Int) / 8 ≤ 65535 := by omega
 have hb0 : 0 ≤ (n : Int) / 8 := by omega
 clear hz h8 hb hcl
 go_enter Tryz.func11, Tryz.ntmps11
 go_wp2_with (first | (go_at_call 37; refine hC.mono ?_; rintro e w1 ⟨i, rfl, e1⟩; have q1 := e1.cell p1; have q2 := e1.cell p2; have q3 := e1.cell p3; replace e1 := e0.trans e1))
 clear hC hq hq2
 generalize (n : Int) / 8 = S at *
 have HR3 := hx d3'
 go_loopw [39, 6] (fun i x wr => ∃ (pre suf : List Rel) (y : Int), o.rels = pre ++ suf ∧ i = .int .i64 (pre.length : Nat) ∧ x = .int .i64 y ∧ I64 y ∧ relsOk S o.maps.length (-1) o.rels = relsOk S o.maps.length y suf ∧ Ext w1 wr) (fun i _ _ => o.rels.length - (RowKit.intOf i).toNat)
 case atStart => exact ⟨[], o.rels, -1, rfl, rfl, rfl, by unfold I64; omega, rfl, Ext.refl _⟩
 case round =>
  obtain ⟨pre, suf, y, hl', rfl, rfl, ⟨y1, y2⟩, hR, he⟩ := hrel
  have HR := hx hR
  clear hR
  have hpl : pre.length ≤ 1000000 := by have := congrArg List.length hl'; simp at this; omega
  replace q1 := he.cell q1
  replace q2 := he.cell q2
  replace q3 := he.cell q3
  cases suf with
  | cons r suf =>
   have hlt : pre.length < o.rels.length := by rw [hl']; simp
   have hvx := d3'
   rw [hl'] at hvx
   obtain ⟨b, o', rfl, ⟨t1, t2⟩, hok⟩ := hvx.at
   replace t1 := (e1.trans he).cell t1
   replace t2 := (e1.trans he).cell t2
   have HL := hx hl'; clear hl' hvx
   obtain ⟨x1, x2⟩ := r
   obtain ⟨⟨k1, k2⟩, k3, k4⟩ := hok
   simp only at t1 t2 k1 k2 k3 k4
   have w1' := (Ext.new wr (.cells #[.int .i64 x1, .int .i64 x2] 78)).cell q1
   by_cases b1 : y < x1
   case neg =>
    have hF := hx (show relsOk S o.maps.length y (⟨x1, x2⟩ :: suf) = false by unfold relsOk; simp; omega)
    go_wp2
    go_ret
    exact ⟨ret_int (by rw [hO.out, HR.out, hF.out]; rfl), (e1.trans he).alloc _⟩
   by_cases b2 : x1 < S
   case neg =>
    have hF := hx (show relsOk S o.maps.length y (⟨x1, x2⟩ :: suf) = false by unfold relsOk; simp; omega)
    go_wp2
    go_ret
    exact ⟨ret_int (by rw [hO.out, HR.out, hF.out]; rfl), (e1.trans he).alloc _⟩
   by_cases b3 : 0 ≤ x2
   case neg =>
    have hF := hx (show relsOk S o.maps.length y (⟨x1, x2⟩ :: suf) = false by unfold relsOk; simp; omega)
    go_wp2
    go_ret
    exact ⟨ret_int (by rw [hO.out, HR.out, hF.out]; rfl), (e1.trans he).alloc _⟩
   by_cases b4 : x2 < o.maps.length
   case neg =>
    have hF := hx (show relsOk S o.maps.length y (⟨x1, x2⟩ :: suf) = false by unfold relsOk; simp; omega)
    go_wp2
    go_ret
    exact ⟨ret_int (by rw [hO.out, HR.out, hF.out]; rfl), (e1.trans he).alloc _⟩
   have hF := hx (show relsOk S o.maps.length y (⟨x1, x2⟩ :: suf) = relsOk S o.maps.length x1 suf by rw [relsOk]; simp [b1, b2, b3, b4])
   go_wp2
   go_roundw
   case rel => exact ⟨pre ++ [⟨x1, x2⟩], suf, x1, by simp [HL.out], by simp, rfl, ⟨k1, k2⟩, by rw [HR.out, hF.out], he.alloc _⟩
   case measure => simp [RowKit.intOf]; omega
  | nil =>
   obtain rfl : o.rels = pre := by simpa using hl'
   clear hl'
   have hlt : ¬ o.rels.length < o.rels.length := by omega
   go_wp2
   go_ret
   exact ⟨ret_int (by rw [hO.out, HR.out]; rfl), e1.trans he⟩
end Go.Proofs.YtmofdnlefjfcfaaGreatDoor


set_option linter.unusedVariables false
set_option linter.unusedSimpArgs false
namespace Go.Proofs.YtmofdnlefjfcfaaGreatDoor
open Go.RowKit Go.Lib

/-- Numbers that four bytes are taken of. -/
def Small (l : List Int) : Prop := ∀ x ∈ l, 0 ≤ x ∧ x ≤ 1099511627776
theorem Small.i64 {l : List Int} (h : Small l) : ∀ x ∈ l, I64 x := fun x hx => by have := h x hx; unfold I64; omega
theorem le_step (L : List Int) (x : Int) (k : Nat) : L ++ le k x ++ [x / 2 ^ (8 * k) % 256] = L ++ le (k + 1) x := by rw [le_snoc2, List.append_assoc]
theorem OwnB.neI {w : World} {B g : Nat} {v : Value} {l xs : List Int} (h : OwnB w B v l) (k : RowI w g xs) : some g ≠ v.ownBlock := by
 rcases h.2 with ⟨rfl, _⟩ | ⟨g', cap', cur', rfl, _, hh', _⟩
 ·simp [Value.ownBlock]
 ·intro e
  have : g = g' := by simpa [Value.ownBlock] using e
  subst this
  unfold RowI at k
  rw [hh'] at k
  injection k with k
  injection k with _ ht
  exact absurd ht (by decide)

set_option maxRecDepth 20000 in
set_option maxHeartbeats 1000000 in
theorem pack1_any (i : Int) (d : Def) (w : World) :
  Calls Tryz.prog 28 #[.int .i64 i, .agg #[.string d.name, .int .i64 d.key, .int .i64 d.val, .int .i64 d.ents]] w fun e w' => ∃ g, e = .returned (.slice (some ⟨g, 0, none⟩) 4 4) ∧ RowI w' g [d.key, d.val, d.ents, 0] ∧ Ext w w' := by
 go_enter Tryz.func28, Tryz.ntmps28
 go_wp2
 go_ret
 refine ⟨_, rfl, ?_, ((Ext.new _ _).alloc _)⟩
 have h := heap_alloc_new (w.alloc (.cells #[.string d.name, .int .i64 d.key, .int .i64 d.val, .int .i64 d.ents] 65)) (.cells #[.int .i64 d.key, .int .i64 d.val, .int .i64 d.ents, .int .i64 0] 3)
 rw [World.size_alloc] at h
 exact h

set_option maxRecDepth 20000 in
set_option maxHeartbeats 4000000 in
theorem rowsD_any (v : Value) (l : List Def) (w : World) (hl : l.length ≤ 1000000) (hv : IsDefs w v l) (hs : Small (defN l)) :
  Calls Tryz.prog 27 #[v, .func (.func 28) #[] #[]] w fun e w' => ∃ v', e = .returned v' ∧ OwnB w' w.heap.size v' (b4 (defN l)) ∧ Ext w w' := by
 obtain ⟨A, c, rfl, -, -, hv'⟩ := hv.form
 have HS := hx hs
 clear hs hv
 go_enter Tryz.func27, Tryz.ntmps27
 go_wp2
 go_loopw [13, 5] (fun i u wr => ∃ (pre suf : List Def) (L : List Int), l = pre ++ suf ∧ i = .int .i64 (pre.length : Nat) ∧ L = b4 (defN pre) ∧ L.length = 16 * pre.length ∧ OwnB wr w.heap.size u L ∧ Ext w wr) (fun i _ _ => l.length - (RowKit.intOf i).toNat)
 case atStart => exact ⟨[], l, [], rfl, rfl, rfl, rfl, Own.nil _ _ _ _ _, Ext.refl _⟩
 case round =>
  obtain ⟨pre, suf, L, hl', rfl, hL, hLn, ho, he⟩ := hrel
  have HL := hx hL
  have HLn := hx hLn
  clear hL hLn
  have hpl : pre.length ≤ 1000000 := by have := congrArg List.length hl'; simp at this; omega
  cases suf with
  | cons x suf =>
   have hlt : pre.length < l.length := by rw [hl']; simp
   have hvx := hv'
   rw [hl'] at hvx
   obtain ⟨b, o, rfl, ⟨d1, d2, d3, d4⟩, hok⟩ := hvx.at
   replace d1 := he.cell d1
   replace d2 := he.cell d2
   replace d3 := he.cell d3
   replace d4 := he.cell d4
   have HLl := hx hl'; clear hl' hvx
   have o1 := ho.alloc (.cells #[.string x.name, .int .i64 x.key, .int .i64 x.val, .int .i64 x.ents] 65)
   have hc := fun W => pack1_any pre.length x W
   obtain ⟨A5, c5, rfl⟩ := ho.slice
   go_wp2_with (first | (go_at_call 28; refine (hc _).mono ?_; rintro e w2 ⟨g, rfl, i2, e2⟩))
   have ho2 := ho.ext ((Ext.new wr _).trans e2)
   replace e2 := (he.alloc _).trans e2
   clear hc ho o1 d1 d2 d3 d4 he
   obtain ⟨xs, hxs⟩ : ∃ xs, xs = [x.key, x.val, x.ents, 0] := ⟨_, rfl⟩
   have hsm : Small xs := fun y hy => HS.out y (by rw [HLl.out, defN, List.flatMap_append, List.flatMap_cons]; rw [hxs] at hy; exact List.mem_append_right _ (List.mem_append_left _ hy))
   have hxl : xs.length = 4 := by rw [hxs]; rfl
   rw [← hxs] at i2
   have HX := hx hxs
   have HSM := hx hsm
   clear hxs hsm
   have hfin : Hx (L ++ b4 xs = b4 (defN (pre ++ [x]))) := ⟨by rw [HL.out, HX.out, ← b4_append]; simp [defN]⟩
   obtain ⟨wo, rfl⟩ : ∃ wo : World, wo = w2 := ⟨_, rfl⟩
   go_loopw [23, 5] (fun j u wr2 => ∃ (p2 s2 : List Int) (L2 : List Int), xs = p2 ++ s2 ∧ j = .int .i64 (p2.length : Nat) ∧ L2 = L ++ b4 p2 ∧ L2.length = L.length + 4 * p2.length ∧ OwnB wr2 w.heap.size u L2 ∧ Ext w wr2 ∧ RowI wr2 g xs) (fun j _ _ => 4 - (RowKit.intOf j).toNat)
   case atStart => exact ⟨[], xs, L, rfl, rfl, by simp [b4], by simp, ho2, e2, i2⟩
   case round =>
    clear ho2 e2 i2
    obtain ⟨p2, s2, L2, hs2, rfl, hL2, hLn2, ho, he, ii⟩ := hrel
    have HL2 := hx hL2
    have HLn2 := hx hLn2
    clear hL2 hLn2
    have hp2 : p2.length ≤ 4 := by have := congrArg List.length hs2; simp at this; omega
    cases s2 with
    | cons y s2 =>
     have hlt4 : p2.length < 4 := by have := congrArg List.length hs2; simp at this; omega
     have hlt2 : decide ((p2.length : Int) < 4) = true := by simp; omega
     have hy := HSM.out y (by rw [hs2]; simp)
     obtain ⟨hy0, hy1⟩ := hy
     have t1 := ii.cell (i := p2.length) (y := y) (by rw [hs2]; simp)
     have HS2 := hx hs2
     clear hs2
     go_wp2
     go_loopw [10, 5] (fun s u wr3 => ∃ (k : Nat) (L3 : List Int), k ≤ 4 ∧ s = .int .i64 (8 * (k : Int)) ∧ L3 = L2 ++ le k y ∧ L3.length = L2.length + k ∧ OwnB wr3 w.heap.size u L3 ∧ Ext w wr3 ∧ RowI wr3 g xs) (fun s _ _ => 32 - (RowKit.intOf s).toNat)
     case atStart => exact ⟨0, L2, by omega, rfl, by simp [le], rfl, ho, he, ii⟩
     case round =>
      clear ho he ii t1
      obtain ⟨k, L3, hk, rfl, hL3, hLn3, ho, he, ii⟩ := hrel
      have HL3 := hx hL3
      have HLn3 := hx hLn3
      clear hL3 hLn3
      obtain ⟨A6, c6, rfl⟩ := ho.slice
      have hsz := he.size
      by_cases hk4 : k < 4
      ·have hk5 : decide (8 * (k : Int) < 32) = true := by simp; omega
       have hln : L3.length ≤ 100000000 := by have := HLn3.out; have := HLn2.out; have := HLn.out; omega
       go_wp2_with (at_builtin; refine wp_app1 tyB encB_ok ho (y / 2 ^ (8 * k) % 256) rfl rfl rfl rfl rfl (by omega) (by decide) (by omega) ?_; intro g1 cap w1 ho1 hg1 hat1 hbg1)
       have ii1 := ii.keep hg1 (ho.neI ii)
       have he1 := he.grown hg1 ho.base_le
       clear ho he ii hg1
       go_roundw
       case rel => exact ⟨k + 1, L3 ++ [y / 2 ^ (8 * k) % 256], by omega, by simp; omega, by rw [HL3.out, le_step], by simp [HLn3.out]; omega, ho1, he1, ii1⟩
       case measure => simp [RowKit.intOf]; omega
      ·obtain rfl : k = 4 := by omega
       go_wp2
       go_roundw
       case rel => exact ⟨p2 ++ [y], s2, L3, by simp [HS2.out], by simp, by rw [HL3.out, HL2.out, List.append_assoc, b4_append]; simp [b4], by simp [HLn3.out, HLn2.out]; omega, ho, he, ii⟩
       case measure => simp [RowKit.intOf]; omega
    | nil =>
     have hlt2 : ¬ p2.length < 4 := by have := congrArg List.length hs2; simp at this; omega
     obtain rfl : xs = p2 := by simpa using hs2
     clear hs2
     go_wp2
     go_roundw
     case rel => exact ⟨pre ++ [x], suf, L2, by simp [HLl.out], by simp, by rw [HL2.out, hfin.out], by simp [HLn2.out, HLn.out, hxl]; omega, ho, he⟩
     case measure => simp [RowKit.intOf]; omega
  | nil =>
   obtain rfl : l = pre := by simpa using hl'
   clear hl'
   have hlt : ¬ l.length < l.length := by omega
   go_wp2
   go_ret
   exact ⟨_, rfl, by rw [← HL.out]; exact ho, he⟩
end Go.Proofs.YtmofdnlefjfcfaaGreatDoor


set_option linter.unusedVariables false
set_option linter.unusedSimpArgs false
namespace Go.Proofs.YtmofdnlefjfcfaaGreatDoor
open Go.RowKit Go.Lib

set_option maxRecDepth 20000 in
set_option maxHeartbeats 1000000 in
theorem pack3_any (i : Int) (d : Rel) (w : World) :
  Calls Tryz.prog 32 #[.int .i64 i, .agg #[.int .i64 d.slot, .int .i64 d.sym]] w fun e w' => ∃ g, e = .returned (.slice (some ⟨g, 0, none⟩) 2 2) ∧ RowI w' g [d.slot, d.sym] ∧ Ext w w' := by
 go_enter Tryz.func32, Tryz.ntmps32
 go_wp2
 go_ret
 refine ⟨_, rfl, ?_, ((Ext.new _ _).alloc _)⟩
 have h := heap_alloc_new (w.alloc (.cells #[.int .i64 d.slot, .int .i64 d.sym] 78)) (.cells #[.int .i64 d.slot, .int .i64 d.sym] 3)
 rw [World.size_alloc] at h
 exact h

set_option maxRecDepth 20000 in
set_option maxHeartbeats 4000000 in
theorem rowsR_any (v : Value) (l : List Rel) (w : World) (hl : l.length ≤ 1000000) (hv : IsRels w v l) (hs : Small (relN l)) :
  Calls Tryz.prog 31 #[v, .func (.func 32) #[] #[]] w fun e w' => ∃ v', e = .returned v' ∧ OwnB w' w.heap.size v' (b4 (relN l)) ∧ Ext w w' := by
 obtain ⟨A, c, rfl, -, -, hv'⟩ := hv.form
 have HS := hx hs
 clear hs hv
 go_enter Tryz.func31, Tryz.ntmps31
 go_wp2
 go_loopw [13, 5] (fun i u wr => ∃ (pre suf : List Rel) (L : List Int), l = pre ++ suf ∧ i = .int .i64 (pre.length : Nat) ∧ L = b4 (relN pre) ∧ L.length = 8 * pre.length ∧ OwnB wr w.heap.size u L ∧ Ext w wr) (fun i _ _ => l.length - (RowKit.intOf i).toNat)
 case atStart => exact ⟨[], l, [], rfl, rfl, rfl, rfl, Own.nil _ _ _ _ _, Ext.refl _⟩
 case round =>
  obtain ⟨pre, suf, L, hl', rfl, hL, hLn, ho, he⟩ := hrel
  have HL := hx hL
  have HLn := hx hLn
  clear hL hLn
  have hpl : pre.length ≤ 1000000 := by have := congrArg List.length hl'; simp at this; omega
  cases suf with
  | cons x suf =>
   have hlt : pre.length < l.length := by rw [hl']; simp
   have hvx := hv'
   rw [hl'] at hvx
   obtain ⟨b, o, rfl, ⟨d1, d2⟩, hok⟩ := hvx.at
   replace d1 := he.cell d1
   replace d2 := he.cell d2
   have HLl := hx hl'; clear hl' hvx
   have o1 := ho.alloc (.cells #[.int .i64 x.slot, .int .i64 x.sym] 78)
   have hc := fun W => pack3_any pre.length x W
   obtain ⟨A5, c5, rfl⟩ := ho.slice
   go_wp2_with (first | (go_at_call 32; refine (hc _).mono ?_; rintro e w2 ⟨g, rfl, i2, e2⟩))
   have ho2 := ho.ext ((Ext.new wr _).trans e2)
   replace e2 := (he.alloc _).trans e2
   clear hc ho o1 d1 d2 he
   obtain ⟨xs, hxs⟩ : ∃ xs, xs = [x.slot, x.sym] := ⟨_, rfl⟩
   have hsm : Small xs := fun y hy => HS.out y (by rw [HLl.out, relN, List.flatMap_append, List.flatMap_cons]; rw [hxs] at hy; exact List.mem_append_right _ (List.mem_append_left _ hy))
   have hxl : xs.length = 2 := by rw [hxs]; rfl
   rw [← hxs] at i2
   have HX := hx hxs
   have HSM := hx hsm
   clear hxs hsm
   have hfin : Hx (L ++ b4 xs = b4 (relN (pre ++ [x]))) := ⟨by rw [HL.out, HX.out, ← b4_append]; simp [relN]⟩
   obtain ⟨wo, rfl⟩ : ∃ wo : World, wo = w2 := ⟨_, rfl⟩
   go_loopw [23, 5] (fun j u wr2 => ∃ (p2 s2 : List Int) (L2 : List Int), xs = p2 ++ s2 ∧ j = .int .i64 (p2.length : Nat) ∧ L2 = L ++ b4 p2 ∧ L2.length = L.length + 4 * p2.length ∧ OwnB wr2 w.heap.size u L2 ∧ Ext w wr2 ∧ RowI wr2 g xs) (fun j _ _ => 2 - (RowKit.intOf j).toNat)
   case atStart => exact ⟨[], xs, L, rfl, rfl, by simp [b4], by simp, ho2, e2, i2⟩
   case round =>
    clear ho2 e2 i2
    obtain ⟨p2, s2, L2, hs2, rfl, hL2, hLn2, ho, he, ii⟩ := hrel
    have HL2 := hx hL2
    have HLn2 := hx hLn2
    clear hL2 hLn2
    have hp2 : p2.length ≤ 2 := by have := congrArg List.length hs2; simp at this; omega
    cases s2 with
    | cons y s2 =>
     have hlt4 : p2.length < 2 := by have := congrArg List.length hs2; simp at this; omega
     have hlt2 : decide ((p2.length : Int) < 2) = true := by simp; omega
     have hy := HSM.out y (by rw [hs2]; simp)
     obtain ⟨hy0, hy1⟩ := hy
     have t1 := ii.cell (i := p2.length) (y := y) (by rw [hs2]; simp)
     have HS2 := hx hs2
     clear hs2
     go_wp2
     go_loopw [10, 5] (fun s u wr3 => ∃ (k : Nat) (L3 : List Int), k ≤ 4 ∧ s = .int .i64 (8 * (k : Int)) ∧ L3 = L2 ++ le k y ∧ L3.length = L2.length + k ∧ OwnB wr3 w.heap.size u L3 ∧ Ext w wr3 ∧ RowI wr3 g xs) (fun s _ _ => 32 - (RowKit.intOf s).toNat)
     case atStart => exact ⟨0, L2, by omega, rfl, by simp [le], rfl, ho, he, ii⟩
     case round =>
      clear ho he ii t1
      obtain ⟨k, L3, hk, rfl, hL3, hLn3, ho, he, ii⟩ := hrel
      have HL3 := hx hL3
      have HLn3 := hx hLn3
      clear hL3 hLn3
      obtain ⟨A6, c6, rfl⟩ := ho.slice
      have hsz := he.size
      by_cases hk4 : k < 4
      ·have hk5 : decide (8 * (k : Int) < 32) = true := by simp; omega
       have hln : L3.length ≤ 100000000 := by have := HLn3.out; have := HLn2.out; have := HLn.out; omega
       go_wp2_with (at_builtin; refine wp_app1 tyB encB_ok ho (y / 2 ^ (8 * k) % 256) rfl rfl rfl rfl rfl (by omega) (by decide) (by omega) ?_; intro g1 cap w1 ho1 hg1 hat1 hbg1)
       have ii1 := ii.keep hg1 (ho.neI ii)
       have he1 := he.grown hg1 ho.base_le
       clear ho he ii hg1
       go_roundw
       case rel => exact ⟨k + 1, L3 ++ [y / 2 ^ (8 * k) % 256], by omega, by simp; omega, by rw [HL3.out, le_step], by simp [HLn3.out]; omega, ho1, he1, ii1⟩
       case measure => simp [RowKit.intOf]; omega
      ·obtain rfl : k = 4 := by omega
       go_wp2
       go_roundw
       case rel => exact ⟨p2 ++ [y], s2, L3, by simp [HS2.out], by simp, by rw [HL3.out, HL2.out, List.append_assoc, b4_append]; simp [b4], by simp [HLn3.out, HLn2.out]; omega, ho, he, ii⟩
       case measure => simp [RowKit.intOf]; omega
    | nil =>
     have hlt2 : ¬ p2.length < 2 := by have := congrArg List.length hs2; simp at this; omega
     obtain rfl : xs = p2 := by simpa using hs2
     clear hs2
     go_wp2
     go_roundw
     case rel => exact ⟨pre ++ [x], suf, L2, by simp [HLl.out], by simp, by rw [HL2.out, hfin.out], by simp [HLn2.out, HLn.out, hxl]; omega, ho, he⟩
     case measure => simp [RowKit.intOf]; omega
  | nil =>
   obtain rfl : l = pre := by simpa using hl'
   clear hl'
   have hlt : ¬ l.length < l.length := by omega
   go_wp2
   go_ret
   exact ⟨_, rfl, by rw [← HL.out]; exact ho, he⟩
end Go.Proofs.YtmofdnlefjfcfaaGreatDoor
