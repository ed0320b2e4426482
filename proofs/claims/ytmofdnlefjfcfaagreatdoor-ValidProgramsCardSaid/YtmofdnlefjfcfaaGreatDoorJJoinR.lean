/- The layer slot, the reference: Join of instructions of one slot. -/
import Derived.Test.YtmofdnlefjfcfaaGreatDoorJOwnSt
import Derived.Test.YtmofdnlefjfcfaaGreatDoorJObj
import Derived.Test.YtmofdnlefjfcfaaGreatDoorJEq
import Derived.Test.YtmofdnlefjfcfaaGreatDoorJTgtR
import Derived.Test.YtmofdnlefjfcfaaGreatDoorJAll
import Derived.Test.YtmofdnlefjfcfaaGreatDoorJPDec
set_option linter.unusedVariables false
set_option linter.unusedSimpArgs false
namespace Go.Proofs.YtmofdnlefjfcfaaGreatDoor
open Go.RowKit

theorem own_src {w : World} {base : Nat} {v : Value} {l : List Int} (h : OwnB w base v l) : Src w v l.length (l.flatMap fun x => [Value.int .u8 x]) := by
 have h' := h
 rcases h.2 with ⟨rfl, h0⟩ | ⟨g, cap, cur, rfl, _, hh, hc1, hc2, hc3⟩
 ·obtain rfl : l = [] := List.eq_nil_of_length_eq_zero h0
  exact ⟨none, 0, rfl, fun _ => ⟨rfl, rfl⟩, fun j u hu => by simp at hu⟩
 ·refine ⟨_, cap, rfl, fun e => (by cases e), fun j u hu => ⟨g, 0, rfl, ?_⟩⟩
  have hj : j < l.length := by
   have h1 := (List.getElem?_eq_some_iff.1 hu).1
   have h2 : (l.flatMap fun x => [Value.int .u8 x]).length = l.length := by rw [show (l.flatMap fun x : Int => [Value.int .u8 x]) = l.map (Value.int .u8) from flat1 _ _, List.length_map]
   omega
  have hc := World.ownsRow.cellAt h' j (by omega)
  rw [Nat.zero_add, hc]
  exact hu
end Go.Proofs.YtmofdnlefjfcfaaGreatDoor


set_option linter.unusedVariables false
set_option linter.unusedSimpArgs false
namespace Go.Proofs.YtmofdnlefjfcfaaGreatDoor
open Go.RowKit

theorem encL_le (x : Ins) : (encX9 x).length ≤ 16 := by have := encX9_length x; split at this <;> omega
set_option maxRecDepth 40000 in
set_option maxHeartbeats 4000000 in
theorem refJoinL_any (v : Value) (L : List Ins) (w : World) (hv : IsIns w v L) (hL : L.length ≤ 100000) (hE : ∀ x ∈ L, EncK x) :
  Calls Tryz.prog 19 #[v] w fun e w' => ∃ v', e = .returned v' ∧ OwnB w' w.heap.size v' (L.flatMap encX9) ∧ Ext w w' := by
 obtain ⟨A, c, rfl, hc, -, hv'⟩ := hv.form
 have HEN := hx hE
 clear hE
 go_enter Tryz.func19, Tryz.ntmps19
 go_wp2
 go_loopw [3, 4] (fun vo i wr => ∃ k : Nat, k ≤ L.length ∧ i = .int .i64 (k : Nat) ∧ OwnB wr w.heap.size vo ((L.take k).flatMap encX9) ∧ Ext w wr) (fun _ i _ => L.length - (RowKit.intOf i).toNat)
 case atStart => exact ⟨0, by omega, rfl, Own.nil _ _ _ _ _, Ext.refl _⟩
 case round =>
  obtain ⟨k, hk, rfl, ho, he⟩ := hrel
  obtain ⟨A4, c4, rfl⟩ := ho.slice
  by_cases hlt : k < L.length
  ·obtain ⟨x, hx0⟩ : ∃ x, L[k]? = some x := ⟨_, List.getElem?_eq_getElem hlt⟩
   obtain ⟨b0, o, rfl, hEx⟩ := (IsIns.ext hv' he).get hx0
   obtain ⟨⟨k0, k1, k2, k3, k4, k5⟩, -⟩ := hEx
   have HQ := hx (refEnc_L x wr (HEN.out x (List.mem_of_getElem? hx0)))
   have htk : (L.take (k + 1)).flatMap encX9 = (L.take k).flatMap encX9 ++ encX9 x := by rw [List.take_add_one, hx0]; simp
   have hl1 : ((L.take k).flatMap encX9).length ≤ 16 * k := by have h1 := encs9_length (L.take k); rw [List.length_take] at h1; omega
   have hl2 := encL_le x
   have hkm : (k : Int) < (L.length : Int) := by omega
   have HTK := hx htk
   have HL1 := hx hl1
   have HL2 := hx hl2
   have HLT := hx hlt
   generalize (L.take k).flatMap encX9 = P at *
   generalize encX9 x = R at *
   unfold Ins.v at HQ
   obtain ⟨op, reg, n1, n2, n3, n4⟩ := x
   dsimp only at *
   clear htk hx0 hl1 hl2
   go_wp2_with fail
   refine HQ.out.mono ?_
   rintro e w1 ⟨v1, rfl, ow1, e1⟩
   have o1 := ho.ext e1
   have x1 := hx (he.trans e1)
   have hsr := own_src ow1
   have hs1 := x1.out.size
   obtain ⟨A6, c6, rfl⟩ := ow1.slice
   have hb1 : P.length + R.length ≤ 140737488355328 := by have h1 := HL1.out; have h2 := HL2.out; omega
   have HB1 := hx hb1
   clear k0 k1 k2 k3 k4 k5 e1 hb1 he ho ow1
   go_wp2_with (at_builtin; refine wp_appS tyB encB_ok o1 hsr rfl rfl rfl rfl hs1 (by rw [Nat.mul_one]; exact HB1.out) HB1.out ?_; intro v2 w2 o2 g2 a2)
   have X2 := hx (x1.out.grown g2 o1.base_le)
   have O2 := hx o2
   clear g2 o2 o1 hsr a2 hs1
   go_wp2
   go_roundw
   case rel => exact ⟨k + 1, HLT.out, by go_num, by rw [HTK.out]; exact O2.out, X2.out⟩
   case measure => simp [RowKit.intOf]; omega
  ·obtain rfl : k = L.length := by omega
   have HO := hx ho
   clear ho
   go_wp2
   go_ret
   refine ⟨.slice A4 ((L.take L.length).flatMap encX9).length c4, rfl, ?_, he⟩
   have h := HO.out
   rw [List.take_length] at h ⊢
   exact h
end Go.Proofs.YtmofdnlefjfcfaaGreatDoor


set_option linter.unusedVariables false
set_option linter.unusedSimpArgs false
namespace Go.Proofs.YtmofdnlefjfcfaaGreatDoor
open Go.RowKit Go.Lib

theorem partOf_at {b A B C : List Int} {i m : Int} (h : b = A ++ (B ++ C)) (hi : i = A.length) (hm : m = B.length) : partOf b i m = B := by
  subst h hi hm
  rw [(inR_yes (l := A ++ (B ++ C)) (i := A.length) (m := B.length) (by simp)).2, List.drop_left, List.take_left]
theorem numOf_at {b A C : List Int} {i x : Int} (h : b = A ++ (le 4 x ++ C)) (hi : i = A.length) (h0 : 0 ≤ x) (h1 : x < 4294967296) : numOf b i 4 = x := by
  unfold numOf
  rw [partOf_at h hi (by rw [le_length]; rfl)]
  exact lval_le 4 x h0 (by have : (256 : Int) ^ 4 = 4294967296 := by decide
                           omega)
theorem rowsOf_append (l1 l2 : List Sec) : ∀ a, rowsOf a (l1 ++ l2) = rowsOf a l1 ++ rowsOf (a + (l1.map fun s => up s.data.length).sum) l2 := by
  induction l1 with
  | nil => intro a; simp [rowsOf]
  | cons s l ih => intro a; simp only [List.cons_append, rowsOf, ih, List.map_cons, List.sum_cons, List.append_assoc, Int.add_assoc]
theorem secAt_box (pre suf : List Sec) (s : Sec) (hk : 0 ≤ s.kind ∧ s.kind ≤ 65535) (hs : secSize (pre ++ s :: suf) ≤ 1073741824) :
    secAt (boxOf (pre ++ s :: suf)) pre.length = s ∧ secIn (boxOf (pre ++ s :: suf)) pre.length = true := by
  obtain ⟨l, hl⟩ : ∃ l, l = pre ++ s :: suf := ⟨_, rfl⟩
  obtain ⟨a0, ha0⟩ : ∃ a0, a0 = up (16 + 12 * l.length) := ⟨_, rfl⟩
  obtain ⟨p, hp⟩ : ∃ p, p = a0 + (pre.map fun s => up s.data.length).sum := ⟨_, rfl⟩
  have hr : rowsOf a0 l = rowsOf a0 pre ++ (le 4 s.kind ++ (le 4 p ++ (le 4 s.data.length ++ rowsOf (p + up s.data.length) suf))) := by
    rw [hl, rowsOf_append, ← hp, rowsOf]
  have hh : (headB l).length = 16 := by simp [headB, le_length]
  have hhl : (headB l ++ rowsOf a0 l).length = 16 + 12 * l.length := by rw [List.length_append, hh, rowsOf_length]
  have hbl := boxOf_length l
  have hbg := boxOf_ge l
  have hll : l.length = pre.length + 1 + suf.length := by rw [hl]; simp; omega
  rw [← hl] at hs ⊢
  have hb : boxOf l = pad8 (headB l ++ rowsOf a0 l) ++ l.flatMap fun s => pad8 s.data := by rw [boxOf, ← ha0]
  have hpl := pad8_length (headB l ++ rowsOf a0 l)
  rw [hhl, show ((16 + 12 * l.length : Nat) : Int) = 16 + 12 * (l.length : Int) by omega, ← ha0] at hpl
  have hsf := sum_flat pre
  obtain ⟨Z, hZ⟩ : ∃ Z, pad8 (headB l ++ rowsOf a0 l) = headB l ++ rowsOf a0 l ++ Z := ⟨_, rfl⟩
  obtain ⟨Y, hY⟩ : ∃ Y, pad8 s.data = s.data ++ Y := ⟨_, rfl⟩
  have hd : boxOf l = (pad8 (headB l ++ rowsOf a0 l) ++ pre.flatMap fun s => pad8 s.data) ++ (s.data ++ (Y ++ suf.flatMap fun s => pad8 s.data)) := by
    rw [hb]
    generalize pad8 (headB l ++ rowsOf a0 l) = P
    rw [hl, List.flatMap_append, List.flatMap_cons, hY]
    simp only [List.append_assoc]
  obtain ⟨T, hrow⟩ : ∃ T, boxOf l = (headB l ++ rowsOf a0 pre) ++ (le 4 s.kind ++ (le 4 p ++ (le 4 s.data.length ++ T))) := by
    refine ⟨rowsOf (p + up s.data.length) suf ++ (Z ++ l.flatMap fun s => pad8 s.data), ?_⟩
    rw [hb, hZ, hr]
    simp only [List.append_assoc]
  have hap : (headB l ++ rowsOf a0 pre).length = 16 + 12 * pre.length := by rw [List.length_append, hh, rowsOf_length]
  have hpd : ((pad8 (headB l ++ rowsOf a0 l) ++ pre.flatMap fun s => pad8 s.data).length : Int) = p := by rw [List.length_append, hp]; omega
  have hdl := congrArg List.length hd
  rw [List.length_append, @List.length_append _ s.data] at hdl
  have n1 : numOf (boxOf l) (16 + 12 * (pre.length : Int)) 4 = s.kind := numOf_at hrow (by omega) hk.1 (by have := hk.2; omega)
  have n2 : numOf (boxOf l) (20 + 12 * (pre.length : Int)) 4 = p := numOf_at (A := (headB l ++ rowsOf a0 pre) ++ le 4 s.kind) (C := le 4 s.data.length ++ T) (by rw [hrow]; simp only [List.append_assoc]) (by rw [List.length_append, hap, le_length]; omega) (by omega) (by omega)
  have n3 : numOf (boxOf l) (24 + 12 * (pre.length : Int)) 4 = s.data.length := numOf_at (A := (headB l ++ rowsOf a0 pre) ++ (le 4 s.kind ++ le 4 p)) (C := T) (by rw [hrow]; simp only [List.append_assoc]) (by rw [List.length_append, hap, List.length_append, le_length, le_length]; omega) (by omega) (by omega)
  constructor
  · unfold secAt
    rw [n1, n2, n3, partOf_at hd hpd.symm rfl]
  · rw [secIn_of (by omega), n2, n3]
    simp [inR]; omega
theorem secAt_get {l : List Sec} (h : secErr l = 0) {i : Nat} (hi : i < l.length) : secAt (boxOf l) i = l[i] ∧ secIn (boxOf l) i = true := by
  obtain ⟨h1, h2, h3⟩ := secErr_parts h
  have e : l = l.take i ++ l[i] :: l.drop (i + 1) := by rw [← List.drop_eq_getElem_cons, List.take_append_drop]
  have hl : (l.take i).length = i := by rw [List.length_take]; omega
  have hk := secs_bd h l[i] (List.getElem_mem hi)
  have := secAt_box (l.take i) (l.drop (i + 1)) l[i] ⟨hk.1, hk.2.1⟩ (by rw [← e]; exact h2)
  rw [← e, hl] at this
  exact this
/-- A correct container is read back. -/
theorem rd_box {l : List Sec} (h : secErr l = 0) : rdOk (boxOf l) ∧ rdOut (boxOf l) = l := by
  obtain ⟨h1, h2, h3⟩ := secErr_parts h
  have hn := boxOf_count l h1
  have ht : secTab (boxOf l) l.length = l := by
    refine List.ext_getElem (by rw [secTab_length]) fun i a b => ?_
    simp only [secTab, List.getElem_map, List.getElem_range]
    exact (secAt_get h b).1
  have hi : secsIn (boxOf l) l.length = true := by
    simp only [secsIn, List.all_eq_true, List.mem_range]
    exact fun i hi => (secAt_get h hi).2
  have hg := boxOf_ge l
  have hok : rdOk (boxOf l) := by
    unfold rdOk
    rw [hn, ht]
    exact ⟨by simp [inR]; omega, h1, hi, h, rfl⟩
  refine ⟨hok, ?_⟩
  unfold rdOut
  rw [if_pos hok, hn, ht]
theorem nulAt_app {t r : List Int} (h : (0 : Int) ∉ t) : nulAt (t ++ 0 :: r) = some t := by
  induction t with
  | nil => rfl
  | cons x t ih =>
    simp only [List.mem_cons, not_or] at h
    rw [List.cons_append, nulAt, if_neg (fun e => h.1 e.symm), ih h.2]
    rfl
theorem splitT_tab : ∀ l : List ByteArray, (∀ s ∈ l, GoodT s) → splitT (tab l) = some (l.map bytesOf) := by
  intro l
  induction l with
  | nil => intro _; rfl
  | cons s l ih =>
    intro h
    have hs := h s (by simp)
    have e : tab (s :: l) = bytesOf s ++ 0 :: tab l := by simp [tab]
    have hne : bytesOf s ≠ [] := fun e => hs.ne (by have := congrArg List.length e; rw [bytesOf_length] at this; exact this)
    rw [e, splitT_some (nulAt_app hs.nul) hne]
    have hd : (bytesOf s ++ 0 :: tab l).drop ((bytesOf s).length + 1) = tab l := by
      rw [show bytesOf s ++ 0 :: tab l = (bytesOf s ++ [0]) ++ tab l by simp, show (bytesOf s).length + 1 = (bytesOf s ++ [0]).length by simp, List.drop_left]
    rw [hd, ih fun t ht => h t (by simp [ht])]
    rfl
theorem str_back (t : ByteArray) : strOfNums (bytesOf t) = t := by
  cases t with
  | mk d =>
    have h : ∀ l : List UInt8, (l.map fun b => (b.toNat : Int)).map (fun n : Int => UInt8.ofNat n.toNat) = l := by
      intro l
      induction l with
      | nil => rfl
      | cons x l ih => rw [List.map_cons, List.map_cons, ih]; simp
    have e := h d.toList
    show (⟨((d.toList.map fun b => (b.toNat : Int)).map (fun n : Int => UInt8.ofNat n.toNat)).toArray⟩ : ByteArray) = ⟨d⟩
    rw [e]
theorem strs_back (l : List ByteArray) : (l.map bytesOf).map strOfNums = l := by
  induction l with
  | nil => rfl
  | cons s l ih => rw [List.map_cons, List.map_cons, ih, str_back s]
theorem parT_tab {l : List ByteArray} (h : ∀ s ∈ l, GoodT s) : parT (tabOf l) = some l := by
  unfold tabOf parT
  simp only [if_pos]
  rw [splitT_tab l h]
  exact congrArg some (strs_back l)
theorem b4_get {l : List Int} {k : Nat} {x i : Int} (h : l[k]? = some x) (hi : i = 4 * k) (h0 : 0 ≤ x) (h1 : x < 4294967296) : numOf (b4 l) i 4 = x := by
  obtain ⟨hk, rfl⟩ := List.getElem?_eq_some_iff.1 h
  have e : l = l.take k ++ l[k] :: l.drop (k + 1) := by rw [← List.drop_eq_getElem_cons, List.take_append_drop]
  have hl : (l.take k).length = k := by rw [List.length_take]; omega
  refine numOf_at (A := b4 (l.take k)) (C := b4 (l.drop (k + 1))) ?_ (by rw [b4_length, hl]; omega) h0 h1
  conv => lhs; rw [e]
  rw [b4_append]
  exact congrArg (b4 (l.take k) ++ ·) (List.flatMap_cons ..)
theorem defN_get : ∀ (l : List Def) (k : Nat) (d : Def), l[k]? = some d → (defN l)[4 * k]? = some d.key ∧ (defN l)[4 * k + 1]? = some d.val ∧ (defN l)[4 * k + 2]? = some d.ents := by
  intro l
  induction l with
  | nil => intro k d h; cases h
  | cons x l ih =>
    intro k d h
    have e : defN (x :: l) = x.key :: x.val :: x.ents :: 0 :: defN l := rfl
    cases k with
    | zero => cases h; exact ⟨rfl, rfl, rfl⟩
    | succ k =>
      have := ih k d (by simpa using h)
      rw [e, show 4 * (k + 1) = 4 * k + 1 + 1 + 1 + 1 by omega]
      exact this
theorem relN_get : ∀ (l : List Rel) (k : Nat) (d : Rel), l[k]? = some d → (relN l)[2 * k]? = some d.slot ∧ (relN l)[2 * k + 1]? = some d.sym := by
  intro l
  induction l with
  | nil => intro k d h; cases h
  | cons x l ih =>
    intro k d h
    have e : relN (x :: l) = x.slot :: x.sym :: relN l := rfl
    cases k with
    | zero => cases h; exact ⟨rfl, rfl⟩
    | succ k =>
      have := ih k d (by simpa using h)
      rw [e, show 2 * (k + 1) = 2 * k + 1 + 1 by omega]
      exact this
theorem mDefs_back {l : List Def} (h : ∀ d ∈ l, sizesB d = true) : mDefs (b4 (defN l)) (l.map (·.name)) = l := by
  refine List.ext_getElem (by simp [mDefs]) fun i a b => ?_
  simp only [mDefs, List.getElem_mapIdx, List.getElem_map]
  obtain ⟨g1, g2, g3⟩ := defN_get l i l[i] (List.getElem?_eq_getElem b)
  have hs := h l[i] (List.getElem_mem b)
  unfold sizesB at hs
  have hs := of_decide_eq_true hs
  unfold mDef
  rw [b4_get g1 (by omega) (by omega) (by omega), b4_get g2 (by omega) (by omega) (by omega), b4_get g3 (by omega) (by omega) (by omega)]
theorem mRels_back {l : List Rel} (h : ∀ r ∈ l, 0 ≤ r.slot ∧ r.slot < 4294967296 ∧ 0 ≤ r.sym ∧ r.sym < 4294967296) : mRels (b4 (relN l)) l.length = l := by
  refine List.ext_getElem (by simp [mRels]) fun i a b => ?_
  simp only [mRels, List.getElem_map, List.getElem_range]
  obtain ⟨g1, g2⟩ := relN_get l i l[i] (List.getElem?_eq_getElem b)
  have hs := h l[i] (List.getElem_mem b)
  unfold mRel
  rw [b4_get g1 (by omega) (by omega) (by omega), b4_get g2 (by omega) (by omega) (by omega)]
theorem obOf_back {o : Ob} (h : obE o = 0) : parT (tabOf (namesOf o)) = some (namesOf o) ∧ obOf (secsOf o) = o := by
  obtain ⟨h1, h2, h3, h4, h5⟩ := obE_parts h
  obtain ⟨m1, m2, -⟩ := mapsE_parts h1
  have hp := parT_tab (names_good h).1
  have hr := (rels_len _ _ _ _ h5 (by omega)).2
  refine ⟨hp, ?_⟩
  have hl : parL (tabOf (namesOf o)) = namesOf o := by unfold parL; rw [hp]
  have e : obOf (secsOf o) = ⟨mDefs (b4 (defN o.maps)) (parL (tabOf (namesOf o))), o.code, mRels (b4 (relN o.rels)) ((b4 (relN o.rels)).length / 8)⟩ := rfl
  rw [e, hl, b4_length, relN_length, show 4 * (2 * o.rels.length) / 8 = o.rels.length by omega]
  unfold namesOf
  rw [mDefs_back fun d hd => (mapE_parts (m1 d hd)).2, mRels_back fun r hm => by have := hr r hm; omega]
/-- What is packed is read back. -/
theorem pa_pack {o : Ob} (h : obE o = 0) : paOk (packOf o) ∧ paOut (packOf o) = o := by
  obtain ⟨b1, b2⟩ := rd_box (secs_ok h)
  obtain ⟨b3, b4'⟩ := obOf_back h
  have hok : paOk (packOf o) := by
    unfold paOk
    unfold packOf
    rw [b2, b4']
    refine ⟨b1, rfl, ?_, ?_, ?_, h, rfl⟩
    · show parB (tabOf (namesOf o)) = true
      unfold parB; rw [b3]; rfl
    · show (b4 (defN o.maps)).length = 16 * (parL (tabOf (namesOf o))).length
      unfold parL
      rw [b3, b4_length, defN_length]
      simp only [namesOf, List.length_map]
      omega
    · show (b4 (relN o.rels)).length % 8 = 0
      rw [b4_length, relN_length]; omega
  refine ⟨hok, ?_⟩
  unfold paOut
  rw [if_pos hok]
  unfold packOf
  rw [b2, b4']
end Go.Proofs.YtmofdnlefjfcfaaGreatDoor


set_option linter.unusedVariables false
set_option linter.unusedSimpArgs false
namespace Go.Proofs.YtmofdnlefjfcfaaGreatDoor
open Go.RowKit Go.Lib

theorem codeN_byt (op : Int) (reg : Bool) : 0 ≤ (codeN op reg).1 ∧ (codeN op reg).1 < 256 := by
 have hk := (rowOf_ok op).code
 unfold codeN
 split
 ·exact ⟨by decide, by decide⟩
 ·split
  ·dsimp only; omega
  ·split <;> dsimp only <;> omega
theorem encX9_byt (x : Ins) : Byt (encX9 x) := by
 have h1 : Byt (encR1 x) := by
  unfold encR1
  intro y hy
  rcases List.mem_append.1 hy with hy | hy
  ·rcases List.mem_append.1 hy with hy | hy
   ·simp only [List.mem_cons, List.not_mem_nil, or_false] at hy
    rcases hy with rfl | rfl
    ·exact codeN_byt x.op x.reg
    ·exact ⟨Int.emod_nonneg _ (by decide), Int.emod_lt_of_pos _ (by decide)⟩
   ·exact le_byt _ _ _ hy
  ·exact le_byt _ _ _ hy
 unfold encX9
 split
 ·intro y hy
  unfold encL2 at hy
  rcases List.mem_append.1 hy with hy | hy
  ·rcases List.mem_append.1 hy with hy | hy
   ·exact h1 _ hy
   ·exact le_byt _ _ _ hy
  ·exact le_byt _ _ _ hy
 ·exact h1
theorem encs9_byt (l : List Ins) : Byt (l.flatMap encX9) := by
 intro y hy
 obtain ⟨x, _, hx⟩ := List.mem_flatMap.1 hy
 exact encX9_byt _ _ hx
theorem encs9_slots : ∀ (l : List Ins), (∀ x ∈ l, slotsN x.op = 1 ∨ slotsN x.op = 2) → ((l.flatMap encX9).length : Int) = 8 * slotsT l := by
 intro l
 induction l with
 | nil => intro _; rfl
 | cons x l ih =>
  intro h
  have h1 := ih fun y hy => h y (by simp [hy])
  have h2 := encX9_length x
  have h3 : slotsT (x :: l) = slotsN x.op + slotsT l := by simp [slotsT]
  rw [List.flatMap_cons, List.length_append, h3]
  rcases h x (by simp) with h4 | h4
  ·rw [if_neg (by omega)] at h2; omega
  ·rw [if_pos h4] at h2; omega
theorem resL_length (L : List Stmt) : (resL L).length = L.length := by simp [resL]
theorem slotsT_res (L : List Stmt) : slotsT (resL L) = slotsT (codeL L) := by
 have e : (resL L).map (fun x => slotsN x.op) = (codeL L).map fun x => slotsN x.op := by
  refine List.ext_getElem (by simp [resL, codeL]) fun i a b => ?_
  have hi : i < L.length := by simpa [codeL] using b
  simp only [resL, codeL, List.getElem_map, List.getElem_range]
  rw [(resX_op L i).1, show L.getD i default = L[i] by simp [List.getD, hi]]
 unfold slotsT
 rw [e]
theorem slotsT_mono {l : List Ins} (h : ∀ x ∈ l, 1 ≤ slotsN x.op) {i : Nat} : ∀ {j : Nat}, i < j → j ≤ l.length → slotsT (l.take i) < slotsT (l.take j) := by
 intro j
 induction j with
 | zero => intro h1; omega
 | succ j ih =>
  intro h1 h2
  have h3 := slotsT_take (List.getElem?_eq_getElem (show j < l.length by omega))
  have h4 := h l[j] (List.getElem_mem (by omega))
  rcases Nat.lt_or_ge i j with h5 | h5
  ·have := ih h5 (by omega); omega
  ·obtain rfl : i = j := by omega
   omega
theorem relsOk_of {slots maps : Int} : ∀ (l : List Rel) (last : Int), (∀ r ∈ l, last < r.slot ∧ r.slot < slots ∧ 0 ≤ r.sym ∧ r.sym < maps) → l.Pairwise (fun a b => a.slot < b.slot) → relsOk slots maps last l = true := by
 intro l
 induction l with
 | nil => intro _ _ _; rfl
 | cons r l ih =>
  intro last h1 h2
  rw [List.pairwise_cons] at h2
  have hr := h1 r (by simp)
  unfold relsOk
  rw [Bool.and_eq_true]
  refine ⟨decide_eq_true hr, ih _ (fun x hx => ?_) h2.2⟩
  have := h1 x (by simp [hx])
  exact ⟨h2.1 x hx, this.2⟩
theorem mapX_lt (M : List Def) (s : ByteArray) : 0 ≤ mapX M s → mapX M s < M.length := by
 unfold mapX
 cases h : ((List.range M.length).findSome? fun i => if (M.getD i default).name = s then some (i : Int) else none) with
 | none => intro h; exact absurd h (by decide)
 | some r =>
  intro _
  obtain ⟨k, hk, hr⟩ := List.exists_of_findSome?_eq_some h
  have hk' : k < M.length := by simpa using hk
  split at hr
  ·injection hr with hr
   show r < _
   omega
  ·cases hr
theorem refR_mem {M : List Def} {L : List Stmt} {i : Nat} {r : Rel} (h : r ∈ refR M L i) : r.slot = slotsT ((codeL L).take i) ∧ 0 ≤ r.sym ∧ r.sym < M.length := by
 unfold refR at h
 split at h
 ·rename_i h1
  obtain rfl := List.mem_singleton.1 h
  exact ⟨rfl, h1.2, mapX_lt M _ h1.2⟩
 ·cases h
theorem refs_ok {M : List Def} {L : List Stmt} (h : ∀ x ∈ codeL L, 1 ≤ slotsN x.op) : relsOk (slotsT (codeL L)) M.length (-1) (refsOf M L L.length) = true := by
 have hl := codeL_length L
 have ht : (codeL L).take L.length = codeL L := List.take_of_length_le (by omega)
 refine relsOk_of _ _ (fun r hr => ?_) ?_
 ·obtain ⟨i, hi, h1⟩ := List.mem_flatMap.1 hr
  obtain ⟨h2, h3, h4⟩ := refR_mem h1
  have hi' : i < L.length := by simpa using hi
  have := slotsT_mono h hi' (by omega)
  rw [ht] at this
  have := (slotsT_bd ((codeL L).take i)).1
  exact ⟨by omega, by omega, h3, h4⟩
 ·unfold refsOf
  rw [List.pairwise_flatMap]
  refine ⟨fun i _ => ?_, ?_⟩
  ·unfold refR
   split
   ·exact List.pairwise_singleton _ _
   ·exact List.Pairwise.nil
  ·have hp : (List.range L.length).Pairwise (fun a b => a < b ∧ b < L.length) := by
    refine List.Pairwise.imp_of_mem (fun {a b} ha hb hab => ?_) (List.pairwise_lt_range (n := L.length))
    exact ⟨hab, by simpa using hb⟩
   refine hp.imp fun {a b} hab x hx y hy => ?_
   obtain ⟨h2, -⟩ := refR_mem hx
   obtain ⟨h3, -⟩ := refR_mem hy
   have := slotsT_mono h hab.1 (by omega)
   omega
/-- What a program without an error keeps. -/
structure AsmOk (M : List Def) (L : List Stmt) : Prop where
 maps : mapsE M = 0
 ne : L.length ≠ 0
 slots : ∀ x ∈ codeL L, slotsN x.op = 1 ∨ slotsN x.op = 2
 size : slotsT (codeL L) ≤ 65535
theorem asm_ok {M : List Def} {L : List Stmt} (h : (resE M L).2 = 0) : AsmOk M L := by
 obtain ⟨h1, h2, -⟩ := resE_parts h
 have ha := pchk_all h1
 have hne : L.length ≠ 0 := by
  intro h0
  have := ha (if L.length = 0 then (0, 15) else (0, 0)) (by simp [prRs])
  rw [if_pos h0] at this
  exact absurd this (by decide)
 refine ⟨?_, hne, fun x hx => ?_, ?_⟩
 ·have m1 := ha (findA (fun _ d => mapE d) 0 M) (by simp [prRs])
  have m2 := ha (findA (fun i _ => whenN (decide (255 ≤ i)) 16) 0 M) (by simp [prRs])
  have m3 := ha (findA (fun i _ => whenN (repN (M.map (·.name)) == i) 10) 0 M) (by simp [prRs])
  rw [find_size] at m2
  rw [find_rep M _ (by have := repN_bd (M.map (·.name)); rw [List.length_map] at this; exact this)] at m3
  unfold mapsE
  rw [if_neg (by simpa using m1)]
  split
  ·rename_i h3; rw [if_pos h3] at m2; exact absurd m2 (by decide)
  ·exact m3
 ·obtain ⟨s, hs, rfl⟩ := List.mem_map.1 hx
  obtain ⟨k, hk, rfl⟩ := List.mem_iff_getElem.1 hs
  have := (stmtE_zero (pchk_stmt h1 k hk)).2.1
  rw [show L.getD k default = L[k] by simp [List.getD, hk]] at this
  exact slotsN_of (insE_zero this).form
 ·have := h2 (L.length - 1) (by omega)
  unfold szBad at this
  have := of_decide_eq_false this
  rw [show L.length - 1 + 1 = L.length by omega, List.take_of_length_le (by rw [codeL_length]; exact Nat.le_refl _)] at this
  omega
theorem asmO_ok {M : List Def} {L : List Stmt} (h : (resE M L).2 = 0) : asmO M L = ⟨M, (resL L).flatMap encX9, refsOf M L L.length⟩ := if_pos h
theorem asm_code {M : List Def} {L : List Stmt} (h : (resE M L).2 = 0) : (((resL L).flatMap encX9).length : Int) = 8 * slotsT (codeL L) := by
 rw [encs9_slots _ fun x hx => slotsN_of (insE_zero (resL_insE h x hx)).form, slotsT_res]
/-- The object of a program is correct. -/
theorem asm_obE {M : List Def} {L : List Stmt} (h : (resE M L).2 = 0) : obE (asmO M L) = 0 := by
 have ho := asm_ok h
 have hc := asm_code h
 have h1 : ∀ x ∈ codeL L, 1 ≤ slotsN x.op := fun x hx => by rcases ho.slots x hx with e | e <;> omega
 have hp : 0 < slotsT (codeL L) := by
  have := slotsT_mono h1 (i := 0) (j := L.length) (by have := ho.ne; omega) (by rw [codeL_length]; exact Nat.le_refl _)
  rw [show (codeL L).take L.length = codeL L from List.take_of_length_le (by rw [codeL_length]; exact Nat.le_refl _)] at this
  exact this
 have hs := ho.size
 rw [asmO_ok h]
 unfold obE
 dsimp only
 rw [if_neg (fun e => e ho.maps), if_neg (by omega), if_neg (by omega), show (((resL L).flatMap encX9).length : Int) / 8 = slotsT (codeL L) by omega, if_pos (refs_ok h1)]
/-- The object of a program is read back. -/
theorem asm_pa {M : List Def} {L : List Stmt} (h : (resE M L).2 = 0) : paErr (packOf (asmO M L)) = 0 ∧ paOut (packOf (asmO M L)) = asmO M L := by
 obtain ⟨h1, h2⟩ := pa_pack (asm_obE h)
 exact ⟨by unfold paErr; rw [if_pos h1], h2⟩
end Go.Proofs.YtmofdnlefjfcfaaGreatDoor


set_option linter.unusedVariables false
set_option linter.unusedSimpArgs false
namespace Go.Proofs.YtmofdnlefjfcfaaGreatDoor
open Go.RowKit Go.Lib

/-- A step that lies in memory: from a world that meets I it returns r; if r finds nothing the world then meets J, and E in any case. -/
def StepOk (a : Addr) (I J E : World → Prop) (r : Int × Int) : Prop :=
 ∀ W, I W → ∃ F caps, W.cell? a = some (.func (.func F) #[] caps) ∧ (∀ args W, (callFunc F args).run Tryz.prog W = .ok (.enter F args) W) ∧
  Calls Tryz.prog F caps W fun e w' => e = .returned (.tuple #[.int .i64 r.1, .int .i64 r.2]) ∧ E w' ∧ (r.2 = 0 → J w')
theorem firstP_skip (pre suf : List (Int × Int)) (h : ∀ r ∈ pre, r.2 = 0) : firstP (pre ++ suf) = firstP suf := by
 induction pre with
 | nil => rfl
 | cons x l ih =>
  rw [List.cons_append, firstP, if_pos (h x (by simp))]
  exact ih fun r hr => h r (by simp [hr])
set_option maxRecDepth 20000 in
set_option maxHeartbeats 4000000 in
theorem asmRun_any (g c n : Nat) (rs : List (Int × Int)) (I : Nat → World → Prop) (E : World → Prop) (w : World) (hn : n = rs.length) (hnl : n ≤ 100) (hE : E w) (hI : I 0 w)
  (hst : ∀ k r, rs[k]? = some r → (∀ r' ∈ rs.take k, r'.2 = 0) → StepOk ⟨g, k, none⟩ (I k) (I (k + 1)) E r) :
  Calls Tryz.prog 58 #[.slice (some ⟨g, 0, none⟩) n c] w fun e w' => e = .returned (.tuple #[.int .i64 (firstP rs).1, .int .i64 (firstP rs).2]) ∧ E w' ∧ ((firstP rs).2 = 0 → I n w') := by
 have HN := hx hn
 have HST := hx hst
 clear hst hn
 go_enter Tryz.func58, Tryz.ntmps58
 go_wp2
 go_loopw [10] (fun i wr => ∃ k : Nat, k ≤ n ∧ i = .int .i64 (k : Nat) ∧ I k wr ∧ E wr ∧ (∀ r ∈ rs.take k, r.2 = 0)) (fun i _ => n - (RowKit.intOf i).toNat)
 case atStart => exact ⟨0, by omega, rfl, hI, hE, by simp⟩
 case round =>
  clear hI hE
  obtain ⟨k, hk, rfl, hI, hE, hz⟩ := hrel
  have HZ := hx hz
  clear hz
  by_cases hlt : k < n
  ·obtain ⟨r, hr⟩ : ∃ r, rs[k]? = some r := ⟨_, List.getElem?_eq_getElem (by have := HN.out; omega)⟩
   obtain ⟨F, caps, q1, q2, q3⟩ := HST.out k r hr HZ.out wr hI
   have hkm : (k : Int) < (n : Int) := by omega
   have hsp : rs = rs.take k ++ r :: rs.drop (k + 1) := by
    obtain ⟨h1, h2⟩ := List.getElem?_eq_some_iff.1 hr
    rw [← h2, ← List.drop_eq_getElem_cons h1, List.take_append_drop]
   have hfp : firstP rs = firstP (r :: rs.drop (k + 1)) := by
    have := firstP_skip (rs.take k) (r :: rs.drop (k + 1)) HZ.out
    rwa [← hsp] at this
   have HR := hx hr
   have HF := hx hfp
   have HLT := hx hlt
   have Q3 := hx q3
   clear hsp hfp hr q3 hlt
   obtain ⟨x, y⟩ := r
   by_cases h0 : y = 0
   ·subst h0
    go_wp2_with ((with_reducible refine Q3.out.mono ?_); rintro e w2 ⟨rfl, e2, j2⟩)
    go_roundw
    case rel => exact ⟨k + 1, HLT.out, by go_num, j2 (by first | rfl | trivial), e2, fun r hr => by
     rw [List.take_add_one, HR.out] at hr
     rcases List.mem_append.1 hr with h | h
     ·exact HZ.out r h
     ·simp at h; rw [h]⟩
    case measure => simp [RowKit.intOf]; omega
   ·have hne : (y != 0) = true := by simpa using h0
    have H0 := hx h0
    clear h0
    go_wp2_with ((with_reducible refine Q3.out.mono ?_); rintro e w2 ⟨rfl, e2, j2⟩)
    refine bodyPost_ret (results_tmp2 rfl _ _ _) rfl ?_
    have hfr : firstP rs = (x, y) := by rw [HF.out, firstP, if_neg H0.out]
    rw [hfr]
    exact ⟨rfl, e2, fun h => absurd h H0.out⟩
  ·obtain rfl : n = k := by omega
   have hfz : firstP rs = (0, 0) := by
    have := firstP_skip (rs.take n) (rs.drop n) HZ.out
    rw [List.take_append_drop, show rs.drop n = [] by rw [List.drop_eq_nil_iff]; have := HN.out; omega] at this
    rw [this]; rfl
   have HFZ := hx hfz
   clear hfz hlt
   go_wp2
   refine bodyPost_ret (results_tmp2 rfl _ _ _) rfl ?_
   rw [HFZ.out]
   exact ⟨rfl, hE, fun _ => hI⟩
end Go.Proofs.YtmofdnlefjfcfaaGreatDoor


set_option linter.unusedVariables false
set_option linter.unusedSimpArgs false
namespace Go.Proofs.YtmofdnlefjfcfaaGreatDoor
open Go.RowKit Go.Lib

theorem code_set {L : List Stmt} {k : Nat} {x : Stmt} {m : Nat} (hx : L[k]? = some x) (hm : m = L.length) : (codeL (L.take k) ++ List.replicate (m - k) insZ).set k x.ins = codeL (L.take (k + 1)) ++ List.replicate (m - (k + 1)) insZ := by
 have hk := (List.getElem?_eq_some_iff.1 hx).1
 have hl : (codeL (L.take k)).length = k := by rw [codeL_length, List.length_take]; omega
 rw [List.set_append_right _ _ (by omega), hl, Nat.sub_self, show m - k = (m - (k + 1)) + 1 by omega, List.replicate_succ, List.set_cons_zero]
 unfold codeL
 rw [List.take_add_one, hx]
 simp
set_option maxRecDepth 40000 in
set_option maxHeartbeats 4000000 in
theorem layCode_any (A1 A2 : Option Addr) (n1 c1 m c2 : Nat) (L : List Stmt) (w : World) (hm : m = L.length) (hml : m ≤ 1000000) (hv : IsStmts w (.slice A2 m c2) L) :
  Calls Tryz.prog 51 #[.agg #[.slice A1 n1 c1, .slice A2 m c2]] w fun e w' => ∃ g, e = .returned (.slice (some ⟨g, 0, none⟩) m m) ∧ OwnN w' (w.heap.size + 1) (.slice (some ⟨g, 0, none⟩) m m) (codeL L) ∧ Ext w w' := by
 obtain ⟨W0, hW0⟩ : ∃ W0, W0 = w.alloc (.cells #[.slice A1 n1 c1, .slice A2 m c2] 25) := ⟨_, rfl⟩
 have e0 : Ext w W0 := by rw [hW0]; exact Ext.new w _
 have q1 : W0.cell? ⟨w.heap.size, 1, none⟩ = some (.slice A2 m c2) := by rw [hW0]; simp
 have hs0 : W0.heap.size = w.heap.size + 1 := by rw [hW0]; simp
 have hi : (Tryz.prog.info? 53).map (fun i => (i.zero, i.size, i.bytes)) = some (some (.agg #[.int .i64 0, .bool false, .int .i64 0, .int .i64 0, .int .i64 0, .int .i64 0]), 6, 48) := by kernel_rfl
 obtain ⟨i, hi1, hi2⟩ := Option.map_eq_some_iff.1 hi
 simp only [Prod.mk.injEq] at hi2
 obtain ⟨hz, hsz6, hby⟩ := hi2
 obtain ⟨W1, hrun, hown, hgr⟩ := run_makeSlice_full W0 (w.heap.size + 1) 45 53 i _ 6 Tryz.underlying45 hi1 hz hsz6 .i64 .i64 m (by omega) (by rw [hby]; omega) (by simp only [maxLen]; omega) (by omega)
 have hmade : (madeCells (Value.cells (.agg #[.int .i64 0, .bool false, .int .i64 0, .int .i64 0, .int .i64 0, .int .i64 0])) (m * 6)).toList = (List.replicate m insZ).flatMap Ins.enc := made6 m
 rw [hmade] at hown
 have ho1 : OwnN W1 (w.heap.size + 1) (.slice (some ⟨W0.heap.size, 0, none⟩) m m) (List.replicate m insZ) := by
  show World.ownsRow _ _ _ _ _ _ _
  rw [List.length_replicate]
  exact hown
 have e1 : Ext w W1 := e0.grown hgr (fun k hk => by cases hk)
 rw [hs0] at hrun ho1
 have q2 := ((Ext.refl W0).grown hgr (fun k hk => by cases hk)).cell q1
 rw [hW0] at hrun q1
 have HM := hx hm
 have HRUN := hx hrun
 clear hi hi1 hz hsz6 hby hown hgr hmade hs0 e0 hrun hW0 hm
 have hrun := HRUN.out
 go_enter Tryz.func51, Tryz.ntmps51
 go_wp2
 clear hrun q1 q2
 go_loopw [13] (fun i wr => ∃ k : Nat, k ≤ m ∧ i = .int .i64 (k : Nat) ∧ OwnN wr (w.heap.size + 1) (.slice (some ⟨w.heap.size + 1, 0, none⟩) m m) (codeL (L.take k) ++ List.replicate (m - k) insZ) ∧ Ext w wr) (fun i _ => m - (RowKit.intOf i).toNat)
 case atStart => exact ⟨0, by omega, rfl, ho1, e1⟩
 case round =>
  clear ho1 e1
  obtain ⟨k, hk, rfl, os, he⟩ := hrel
  by_cases hlt : k < m
  ·obtain ⟨x, hx0⟩ : ∃ x, L[k]? = some x := ⟨_, List.getElem?_eq_getElem (by have := HM.out; omega)⟩
   obtain ⟨b, o, hAA, vl, d0, dl, ⟨d1, d2, d3, d4, d5, d6⟩, dok, ⟨d7, d7'⟩, d8, d8'⟩ := (IsStmts.ext hv he).get hx0
   subst hAA
   obtain ⟨Al, cl, rfl, -, -, -⟩ := dl.form
   have hkm : (k : Int) < (m : Int) := by omega
   have hcs := code_set hx0 HM.out
   have HCS := hx hcs
   have eN := Ext.new wr (.cells (stL Al x.labels.length cl x).toArray 55)
   have oN := os.ext eN
   have hll : (codeL (L.take k) ++ List.replicate (m - k) insZ).length = m := by rw [List.length_append, codeL_length, List.length_take, List.length_replicate]; have := HM.out; omega
   obtain ⟨oP, gP⟩ := OwnN.put oN k x.ins (by rw [hll]; exact hlt) hll.symm
   have eP := (he.trans eN).grown gP (fun k hk => by cases hk; omega)
   rw [HCS.out] at oP
   obtain ⟨z, hz⟩ : ∃ z, (codeL (L.take k) ++ List.replicate (m - k) insZ)[k]? = some z := ⟨_, List.getElem?_eq_getElem (by rw [hll]; exact hlt)⟩
   have hat := OwnN.at oN (by rw [hll]; exact hml) hz
   obtain ⟨a0, a1, a2, a3, a4, a5⟩ := hat
   have f0 := Own.frz oN (k * 6)
   have f1 := Own.frz oN (k * 6 + 1)
   have f2 := Own.frz oN (k * 6 + 2)
   have f3 := Own.frz oN (k * 6 + 3)
   have f4 := Own.frz oN (k * 6 + 4)
   have f5 := Own.frz oN (k * 6 + 5)
   have HLT := hx hlt
   obtain ⟨labels, ⟨op, reg, n1', n2', n3', n4'⟩, tt, tm⟩ := x
   simp only [stL, put6] at *
   have OP := hx oP
   have EP := hx eP
   clear hz hcs hx0 dl dok d7' d8' os he hlt eN oN gP hll oP eP
   go_wp2
   go_roundw
   case rel => exact ⟨k + 1, HLT.out, by go_num, OP.out, EP.out⟩
   case measure => simp [RowKit.intOf]; omega
  ·obtain rfl : m = k := by omega
   have h : codeL (L.take m) ++ List.replicate (m - m) insZ = codeL L := by rw [Nat.sub_self, List.take_of_length_le (by rw [← HM.out]; exact Nat.le_refl _)]; simp
   rw [h] at os
   have OS := hx os
   clear os h
   go_wp2
   go_ret
   exact ⟨_, rfl, OS.out, he⟩
end Go.Proofs.YtmofdnlefjfcfaaGreatDoor


set_option linter.unusedVariables false
set_option linter.unusedSimpArgs false
namespace Go.Proofs.YtmofdnlefjfcfaaGreatDoor
open Go.RowKit Go.Lib

def smR (L : List Stmt) : Int × Int := match fstB (szBad L) L.length with | some i => (i, 16) | none => (0, 0)
set_option maxRecDepth 40000 in
set_option maxHeartbeats 4000000 in
theorem ares3_any (g : Nat) (A1 A2 : Option Addr) (n1 c1 m c2 : Nat) (M : List Def) (L : List Stmt) (w : World) (hn1 : n1 = M.length) (hl1 : n1 ≤ 100000) (hm : m = L.length) (hml : m ≤ 1000000)
  (hd : IsDefs w (.slice A1 n1 c1) M) (hv : IsStmts w (.slice A2 m c2) L) (hfl : (flat L).length ≤ 1000000) (hG : Glob w) (hN : NoneV w) (hO : OpsN w) (hWd : WidN w)
  (rP : RowV w g 25 [.slice A1 n1 c1, .slice A2 m c2]) :
  Calls Tryz.prog 59 #[.pointer (some ⟨g, 0, none⟩)] w fun e w' => e = .returned (.tuple #[.int .i64 (pchk M L).1, .int .i64 (pchk M L).2]) ∧ Ext w w' := by
 have HC := hx (progCheck_any A1 A2 n1 c1 m c2 M L w hn1 hl1 hm hml hd hv hfl hG hN hO hWd)
 have q0 := rP.cell (i := 0) rfl
 have q1 := rP.cell (i := 1) rfl
 clear hn1 hl1 hm hml hd hv hfl hG hN hO hWd rP
 go_enter Tryz.func59, Tryz.ntmps59
 go_wp2_with fail
 refine HC.out.mono ?_
 rintro e w1 ⟨rfl, e1⟩
 go_wp2
 refine bodyPost_ret (results_tmp2 rfl _ _ _) rfl ?_
 exact ⟨rfl, e1⟩
set_option maxRecDepth 40000 in
set_option maxHeartbeats 8000000 in
theorem ares1_any (g : Nat) (B : Option Addr) (m b : Nat) (L : List Stmt) (w : World) (hm : m = L.length) (hml : m ≤ 1000000) (hl : IsIns w (.slice B m b) (codeL L)) (hO : OpsN w)
  (rL : RowV w g 45 [.slice B m b]) :
  Calls Tryz.prog 52 #[.pointer (some ⟨g, 0, none⟩)] w fun e w' => e = .returned (.tuple #[.int .i64 (smR L).1, .int .i64 (smR L).2]) ∧ Ext w w' := by
 have HST := hx (Starts_any _ (codeL L) w hl (by rw [codeL_length]; omega) hO)
 have HSL := hx fun (n : Int) (W : World) (h : Ext w W) (hn : I64 n) => insnSlots_any n W hn (hO.ext h)
 have hcl : (codeL L).length = m := by rw [codeL_length, hm]
 have HCL := hx hcl
 have HM := hx hm
 have HSR := hx (show ∀ i, fstB (szBad L) L.length = some i → smR L = (i, 16) from fun i h => by unfold smR; rw [h])
 have HSN := hx (show fstB (szBad L) L.length = none → smR L = (0, 0) from fun h => by unfold smR; rw [h])
 have q0 := rL.cell (i := 0) rfl
 generalize smR L = SR at *
 clear hO hm hcl
 go_enter Tryz.func52, Tryz.ntmps52
 go_wp2_with fail
 refine HST.out.mono ?_
 rintro e w1 ⟨v1, rfl, i1, e1⟩
 obtain ⟨B1, b1, rfl, -, -, i1'⟩ := i1.form
 rw [startsL_length, HCL.out] at i1'
 try rw [startsL_length, HCL.out]
 have q0' := e1.cell q0
 have rL1 := rL.ext e1
 have hl1 := IsIns.ext hl e1
 clear q0 rL hl i1
 go_wp2
 go_loopw [14] (fun i wr => ∃ k : Nat, k ≤ m ∧ i = .int .i64 (k : Nat) ∧ (∀ j, j < k → szBad L j = false) ∧ Ext w1 wr) (fun i _ => m - (RowKit.intOf i).toNat)
 case atStart => exact ⟨0, by omega, rfl, (by intro j hj; omega), Ext.refl _⟩
 case round =>
  obtain ⟨k, hk, rfl, hn, he⟩ := hrel
  have HN := hx hn
  clear hn
  by_cases hlt : k < m
  ·obtain ⟨x, hx0⟩ : ∃ x, (codeL L)[k]? = some x := ⟨_, List.getElem?_eq_getElem (by rw [HCL.out]; exact hlt)⟩
   obtain ⟨b', o', hBB, hE⟩ := (IsIns.ext hl1 he).get hx0
   subst hBB
   obtain ⟨⟨z0, -⟩, hok⟩ := hE
   obtain ⟨b2, o2, hB1, hs1⟩ := (IsInts.ext i1' he).get (startsL_get (l := codeL L) (k := k) (by rw [HCL.out]; exact hlt))
   subst hB1
   obtain ⟨s0, s1⟩ := hs1
   try rw [Nat.mul_one] at s0
   have q0 := he.cell q0'
   have hkm : (k : Int) < (m : Int) := by omega
   have hsx := slotsT_take hx0
   have hbd := slotsT_bd ((codeL L).take (k + 1))
   have hll : ((codeL L).take (k + 1)).length ≤ k + 1 := by rw [List.length_take]; omega
   have hwr : wrap64 (slotsT ((codeL L).take k) + slotsN x.op) = slotsT ((codeL L).take (k + 1)) := by rw [← hsx]; unfold wrap64; omega
   have HSB := hx (show szBad L k = decide (65535 < slotsT ((codeL L).take (k + 1))) from rfl)
   have HS := hx (HSL.out x.op _ (e1.trans he) hok.op)
   have HLT := hx hlt
   have HE := hx he
   generalize slotsT ((codeL L).take (k + 1)) = T2 at *
   generalize slotsT ((codeL L).take k) = T1 at *
   generalize slotsN x.op = sx at *
   clear hsx hbd hll hx0 hok hlt s1
   by_cases hbig : T2 > 65535
   ·have hb : decide (T2 > 65535) = true := decide_eq_true hbig
    have hf := fstB_hit (p := szBad L) (n := L.length) (k := k) (by rw [← HM.out]; exact HLT.out) HN.out (by rw [HSB.out]; exact decide_eq_true hbig)
    have HR := hx (HSR.out _ hf)
    clear hbig hf
    go_wp2_with (go_at_call 54; refine HS.out.mono ?_; rintro e w6 ⟨rfl, e6⟩)
    refine bodyPost_ret (results_tmp2 rfl _ _ _) rfl ?_
    exact ⟨by rw [HR.out]; rfl, e1.trans (HE.out.trans e6)⟩
   ·have hb : decide (T2 > 65535) = false := decide_eq_false hbig
    have HS0 := hx (show szBad L k = false by rw [HSB.out]; exact decide_eq_false hbig)
    clear hbig
    go_wp2_with (go_at_call 54; refine HS.out.mono ?_; rintro e w6 ⟨rfl, e6⟩)
    go_roundw
    case rel => exact ⟨k + 1, HLT.out, by go_num, (fun j hj => (Nat.lt_succ_iff_lt_or_eq.1 hj).elim (HN.out j) (fun h => by rw [h]; exact HS0.out)), HE.out.trans e6⟩
    case measure => simp [RowKit.intOf]; omega
  ·obtain rfl : m = k := by omega
   have HR := hx (HSN.out (fstB_none (p := szBad L) (n := L.length) (by rw [← HM.out]; exact HN.out)))
   clear hlt
   go_wp2
   refine bodyPost_ret (results_tmp2 rfl _ _ _) rfl ?_
   exact ⟨by rw [HR.out]; rfl, e1.trans he⟩
end Go.Proofs.YtmofdnlefjfcfaaGreatDoor
