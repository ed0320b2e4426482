/- The layer prog, the reference: Label, Map. -/
import Derived.Test.YtmofdnlefjfcfaaGreatDoorJPDec
import Derived.Test.YtmofdnlefjfcfaaGreatDoorJTgtR
import Derived.Test.YtmofdnlefjfcfaaGreatDoorJRefChkE
set_option linter.unusedVariables false
set_option linter.unusedSimpArgs false
namespace Go.Proofs.YtmofdnlefjfcfaaGreatDoor
open Go.RowKit Go.Lib

theorem labI_app : ∀ (a b : List Stmt) (k : Nat) (p : ByteArray → Option Int), labI k (a ++ b) p = labI (k + a.length) b (labI k a p) := by
 intro a
 induction a with
 | nil => intro b k p; rfl
 | cons x a ih => intro b k p; rw [List.cons_append, labI, ih, labI, List.length_cons]; congr 1; omega
theorem labI_none : ∀ (L : List Stmt) (k : Nat) (p : ByteArray → Option Int) (s : ByteArray), (∀ x ∈ L, inL x.labels s = false) → labI k L p s = p s := by
 intro L
 induction L with
 | nil => intro k p s _; rfl
 | cons x l ih =>
  intro k p s h
  rw [labI, ih _ _ _ (fun y hy => h y (List.mem_cons_of_mem _ hy)), h x (List.mem_cons_self ..)]
  rfl
theorem labAt_hit {L : List Stmt} {k : Nat} {x : Stmt} {s : ByteArray} (hx : L[k]? = some x) (hi : inL x.labels s = true) (hn : ∀ j, k < j → j < L.length → inL (L.getD j default).labels s = false) : labAt L s = some (k : Int) := by
 have hk := (List.getElem?_eq_some_iff.1 hx).1
 have hxe := (List.getElem?_eq_some_iff.1 hx).2
 have hsp : L = L.take k ++ x :: L.drop (k + 1) := by
  rw [← hxe, List.getElem_cons_drop, List.take_append_drop]
 have h1 : labAt L s = labAt (L.take k ++ x :: L.drop (k + 1)) s := by rw [← hsp]
 rw [h1]
 unfold labAt
 rw [labI_app, labI, labI_none]
 ·rw [hi, List.length_take, if_pos rfl]; congr 2; omega
 ·intro y hy
  obtain ⟨i, hi2, rfl⟩ := List.mem_iff_getElem.1 hy
  rw [List.length_drop] at hi2
  have := hn (k + 1 + i) (by omega) (by omega)
  rw [List.getD_eq_getElem?_getD, List.getElem?_eq_getElem (by omega)] at this
  rwa [List.getElem_drop]
theorem labAt_none {L : List Stmt} {s : ByteArray} (hn : ∀ j, j < L.length → inL (L.getD j default).labels s = false) : labAt L s = none := by
 unfold labAt
 rw [labI_none]
 intro y hy
 obtain ⟨i, hi, rfl⟩ := List.mem_iff_getElem.1 hy
 have := hn i hi
 rwa [List.getD_eq_getElem?_getD, List.getElem?_eq_getElem hi] at this
theorem inL_hit {l : List ByteArray} {k : Nat} {s : ByteArray} (h : l[k]? = some s) : inL l s = true := by
 unfold inL
 rw [List.any_eq_true]
 exact ⟨s, List.mem_of_getElem? h, by simp⟩
theorem inL_none {l : List ByteArray} {s : ByteArray} (h : ∀ j, j < l.length → l.getD j emS ≠ s) : inL l s = false := by
 unfold inL
 rw [List.any_eq_false]
 intro x hx
 obtain ⟨i, hi, rfl⟩ := List.mem_iff_getElem.1 hx
 have := h i hi
 rw [List.getD_eq_getElem?_getD, List.getElem?_eq_getElem hi] at this
 simpa using this
theorem flat_le : ∀ (L : List Stmt) (x : Stmt), x ∈ L → x.labels.length ≤ (flat L).length := by
 intro L
 induction L with
 | nil => intro x h; cases h
 | cons y l ih =>
  intro x h
  rw [flat_cons, List.length_append]
  rcases List.mem_cons.1 h with rfl | h
  ·omega
  ·have := ih x h; omega
/-- The index of the statement with a label, or -1. -/
def labX (L : List Stmt) (s : ByteArray) : Int := (labAt L s).getD (-1)
set_option maxRecDepth 40000 in
set_option maxHeartbeats 4000000 in
theorem refLabel_any (A1 A2 : Option Addr) (n1 c1 m c2 : Nat) (L : List Stmt) (s : ByteArray) (w : World) (hm : m = L.length) (hml : m ≤ 1000000) (hv : IsStmts w (.slice A2 m c2) L) (hfl : (flat L).length ≤ 1000000) :
  Calls Tryz.prog 47 #[.agg #[.slice A1 n1 c1, .slice A2 m c2], .string s] w fun e w' => e = .returned (.int .i64 (labX L s)) ∧ Ext w w' := by
 obtain ⟨W0, hW0⟩ : ∃ W0, W0 = w.alloc (.cells #[.slice A1 n1 c1, .slice A2 m c2] 25) := ⟨_, rfl⟩
 have e0 : Ext w W0 := by rw [hW0]; exact Ext.new w _
 have q1 : W0.cell? ⟨w.heap.size, 1, none⟩ = some (.slice A2 m c2) := by rw [hW0]; simp
 have hv0 := IsStmts.ext hv e0
 have HM := hx hm
 have E0 := hx e0
 have HFL := hx hfl
 have hw1 : wrap64 ((m : Int) - 1) = (m : Int) - 1 := by unfold wrap64; omega
 rw [hW0] at q1
 clear hm hv e0 hfl
 go_enter Tryz.func47, Tryz.ntmps47
 go_wp2
 rw [← hW0] at q1 ⊢
 clear hW0 hw1
 go_loop [5] (fun i => ∃ (k : Nat) (z : Int), k ≤ m ∧ i = .int .i64 z ∧ z = (k : Int) - 1 ∧ (∀ j, k ≤ j → j < L.length → inL (L.getD j default).labels s = false)) (fun i => (RowKit.intOf i + 1).toNat)
 case atStart => exact ⟨m, _, Nat.le_refl _, rfl, rfl, (by intro j h1 h2; have := HM.out; omega)⟩
 case round =>
  obtain ⟨k, z, hk, rfl, hz, hn⟩ := hrel
  have HN := hx hn
  clear hn
  rcases k with _ | k
  ·obtain rfl : z = -1 := by omega
   have HR := hx (show labX L s = -1 by unfold labX; rw [labAt_none fun j hj => HN.out j (Nat.zero_le _) hj]; rfl)
   clear hz
   go_wp2
   go_ret
   exact ⟨ret_int HR.out.symm, E0.out⟩
  ·obtain rfl : z = (k : Int) := by omega
   obtain ⟨x, hx0⟩ : ∃ x, L[k]? = some x := ⟨_, List.getElem?_eq_getElem (by have := HM.out; omega)⟩
   have hg : L.getD k default = x := by rw [List.getD_eq_getElem?_getD, hx0]; rfl
   obtain ⟨b, o, rfl, vl, d0, dl, -, -, -, -⟩ := hv0.get hx0
   obtain ⟨Al, cl, rfl, -, -, dl'⟩ := dl.form
   have hll : x.labels.length ≤ 1000000 := by
    have h1 := HFL.out
    have h2 : x.labels.length ≤ (flat L).length := by
     exact flat_le L x (List.mem_of_getElem? hx0)
    omega
   have hkm : (k : Int) < (m : Int) := by omega
   have hkg : (k : Int) ≥ 0 := by omega
   have hwk : wrap64 ((k : Int) - 1) = (k : Int) - 1 := by unfold wrap64; omega
   obtain ⟨ll, hl2⟩ : ∃ ll, ll = x.labels.length := ⟨_, rfl⟩
   rw [← hl2] at d0 dl' hll
   have HL2 := hx hl2
   have HX0 := hx hx0
   have HG := hx hg
   have HWK := hx hwk
   clear hz hx0 hg hwk hl2 dl
   go_wp2
   go_loop [6] (fun j => ∃ t : Nat, t ≤ ll ∧ j = .int .i64 (t : Nat) ∧ (∀ u, u < t → x.labels.getD u emS ≠ s)) (fun j => ll - (RowKit.intOf j).toNat)
   case atStart => exact ⟨0, by omega, rfl, (by intro j hj; omega)⟩
   case round =>
    obtain ⟨t, ht, rfl, hn⟩ := hrel
    have HN2 := hx hn
    clear hn
    by_cases hlt : t < ll
    ·obtain ⟨y, hy0⟩ : ∃ y, x.labels[t]? = some y := ⟨_, List.getElem?_eq_getElem (by have := HL2.out; omega)⟩
     have hgy : x.labels.getD t emS = y := by rw [List.getD_eq_getElem?_getD, hy0]; rfl
     obtain ⟨by', oy, rfl, d1, -⟩ := dl'.get hy0
     rw [Nat.mul_one] at d1
     have htl : (t : Int) < (ll : Int) := by omega
     by_cases hys : y = s
     ·subst hys
      have hr : labX L y = (k : Int) := by unfold labX; rw [labAt_hit HX0.out (inL_hit hy0) (fun j h1 h2 => HN.out j (by omega) h2)]; rfl
      have HR := hx hr
      clear hr hy0 hgy
      go_wp2
      go_ret
      exact ⟨ret_int HR.out.symm, E0.out⟩
     ·have hb := str_beq hys
      have HYS := hx (show x.labels.getD t emS ≠ s by rw [hgy]; exact hys)
      clear hys hy0 hgy
      go_wp2
      go_round
      case rel => exact ⟨t + 1, by omega, by go_num, fun u hu => (Nat.lt_succ_iff_lt_or_eq.1 hu).elim (HN2.out u) (fun h => by rw [h]; exact HYS.out)⟩
      case measure => simp [RowKit.intOf]; omega
    ·obtain rfl : ll = t := by omega
     have hin : inL x.labels s = false := inL_none (by rw [← HL2.out]; exact HN2.out)
     have HIN := hx hin
     have hwk := HWK.out
     clear hin
     go_wp2
     go_round
     case rel => exact ⟨k, _, by omega, rfl, rfl, fun j h1 h2 => by
      rcases Nat.lt_or_ge k j with h3 | h3
      ·exact HN.out j (by omega) h2
      ·obtain rfl : j = k := by omega
       rw [HG.out]; exact HIN.out⟩
     case measure => simp [RowKit.intOf]
/-- The index of the map with a name, or -1. -/
def mapX (M : List Def) (s : ByteArray) : Int := ((List.range M.length).findSome? fun i => if (M.getD i default).name = s then some (i : Int) else none).getD (-1)
theorem mapX_hit {M : List Def} {k : Nat} {s : ByteArray} (hk : k < M.length) (hn : ∀ j, j < k → (M.getD j default).name ≠ s) (h : (M.getD k default).name = s) : mapX M s = (k : Int) := by
 unfold mapX
 rw [range_first (fun i => if (M.getD i default).name = s then some (i : Int) else none) M.length k _ hk (fun j hj => if_neg (hn j hj)) (if_pos h)]
 rfl
theorem mapX_none {M : List Def} {s : ByteArray} (hn : ∀ j, j < M.length → (M.getD j default).name ≠ s) : mapX M s = -1 := by
 unfold mapX
 have : ((List.range M.length).findSome? fun i => if (M.getD i default).name = s then some (i : Int) else none) = none := by
  rw [List.findSome?_eq_none_iff]
  intro x hx
  exact if_neg (hn x (by simpa using hx))
 rw [this]
 rfl
set_option maxRecDepth 40000 in
set_option maxHeartbeats 4000000 in
theorem refMap_any (A1 A2 : Option Addr) (m c1 n2 c2 : Nat) (M : List Def) (s : ByteArray) (w : World) (hm : m = M.length) (hml : m ≤ 1000000) (hv : IsDefs w (.slice A1 m c1) M) :
  Calls Tryz.prog 49 #[.agg #[.slice A1 m c1, .slice A2 n2 c2], .string s] w fun e w' => e = .returned (.int .i64 (mapX M s)) ∧ Ext w w' := by
 obtain ⟨W0, hW0⟩ : ∃ W0, W0 = w.alloc (.cells #[.slice A1 m c1, .slice A2 n2 c2] 25) := ⟨_, rfl⟩
 have e0 : Ext w W0 := by rw [hW0]; exact Ext.new w _
 have q1 : W0.cell? ⟨w.heap.size, 0, none⟩ = some (.slice A1 m c1) := by rw [hW0]; simp
 have hv0 := IsDefs.ext hv e0
 have HM := hx hm
 have E0 := hx e0
 clear hm hv e0
 go_enter Tryz.func49, Tryz.ntmps49
 go_wp2
 rw [← hW0]
 clear hW0
 go_loop [5] (fun i => ∃ k : Nat, k ≤ m ∧ i = .int .i64 (k : Nat) ∧ (∀ j, j < k → (M.getD j default).name ≠ s)) (fun i => m - (RowKit.intOf i).toNat)
 case atStart => exact ⟨0, by omega, rfl, (by intro j hj; omega)⟩
 case round =>
  obtain ⟨k, hk, rfl, hn⟩ := hrel
  have HN := hx hn
  clear hn
  by_cases hlt : k < m
  ·obtain ⟨x, hx0⟩ : ∃ x, M[k]? = some x := ⟨_, List.getElem?_eq_getElem (by have := HM.out; omega)⟩
   have hg : M.getD k default = x := by rw [List.getD_eq_getElem?_getD, hx0]; rfl
   obtain ⟨b, o, rfl, ⟨d1, -, -, -⟩, -⟩ := hv0.get hx0
   have hkm : (k : Int) < (m : Int) := by omega
   have HG := hx hg
   have HLT := hx hlt
   clear hx0 hg
   by_cases hs : x.name = s
   ·have hr : mapX M s = (k : Int) := mapX_hit (by rw [← HM.out]; exact hlt) HN.out (by rw [HG.out]; exact hs)
    have HR := hx hr
    rw [hs] at d1
    clear hr hs hlt
    go_wp2
    go_ret
    exact ⟨ret_int HR.out.symm, E0.out⟩
   ·have hb := str_beq hs
    have HS := hx (show (M.getD k default).name ≠ s by rw [HG.out]; exact hs)
    clear hs hlt
    go_wp2
    go_round
    case rel => exact ⟨k + 1, HLT.out, by go_num, fun j hj => (Nat.lt_succ_iff_lt_or_eq.1 hj).elim (HN.out j) (fun h => by rw [h]; exact HS.out)⟩
    case measure => simp [RowKit.intOf]; omega
  ·obtain rfl : m = k := by omega
   have HR := hx (mapX_none (M := M) (s := s) (by rw [← HM.out]; exact HN.out))
   go_wp2
   go_ret
   exact ⟨ret_int HR.out.symm, E0.out⟩
end Go.Proofs.YtmofdnlefjfcfaaGreatDoor


set_option linter.unusedVariables false
set_option linter.unusedSimpArgs false
namespace Go.Proofs.YtmofdnlefjfcfaaGreatDoor
open Go.RowKit Go.Lib

theorem flatAt_app : ∀ (a b : List Stmt) (k : Nat), flatAt k (a ++ b) = flatAt k a ++ flatAt (k + a.length) b := by
 intro a
 induction a with
 | nil => intro b k; rfl
 | cons x a ih => intro b k; rw [List.cons_append, flatAt, ih, flatAt, List.append_assoc, List.length_cons]; congr 3; omega
theorem flatAt_length : ∀ (L : List Stmt) (k : Nat), (flatAt k L).length = (flat L).length := by
 intro L
 induction L with
 | nil => intro k; rfl
 | cons x l ih => intro k; rw [flatAt, flat_cons, List.length_append, List.length_append, List.length_map, ih]
theorem flatAt_bd : ∀ (L : List Stmt) (k : Nat), ∀ x ∈ flatAt k L, (k : Int) ≤ x ∧ x < (k : Int) + L.length := by
 intro L
 induction L with
 | nil => intro k x h; cases h
 | cons y l ih =>
  intro k x h
  rw [flatAt, List.mem_append] at h
  rw [List.length_cons]
  rcases h with h | h
  ·obtain ⟨_, _, rfl⟩ := List.mem_map.1 h; omega
  ·have := ih (k + 1) x h; omega
theorem lbl_sizes {w : World} {v : Value} {L : List Stmt} (h : IsStmts w v L) : ∀ s ∈ flat L, s.size ≤ 140737488355328 := by
 intro s hs
 unfold flat at hs
 obtain ⟨x, hx, hsx⟩ := List.mem_flatMap.1 hs
 have h2 := Sl.all (p := fun x : Stmt => ∀ s ∈ x.labels, s.size ≤ 140737488355328) h (fun b o x k => by
  obtain ⟨v, _, hl, _⟩ := k
  exact Sl.all hl fun _ _ _ k => k.2) x hx
 exact h2 s hsx
set_option maxRecDepth 40000 in
set_option maxHeartbeats 8000000 in
theorem refLabels_any (A1 A2 : Option Addr) (n1 c1 m c2 : Nat) (L : List Stmt) (w : World) (hm : m = L.length) (hml : m ≤ 1000000) (hv : IsStmts w (.slice A2 m c2) L) (hfl : (flat L).length ≤ 1000000) :
  Calls Tryz.prog 84 #[.agg #[.slice A1 n1 c1, .slice A2 m c2]] w fun e w' => ∃ v1 v2, e = .returned (.tuple #[v1, v2]) ∧ IsStrs w' v1 (flat L) ∧ IsInts w' v2 (flatAt 0 L) ∧ Ext w w' := by
 obtain ⟨W0, hW0⟩ : ∃ W0, W0 = w.alloc (.cells #[.slice A1 n1 c1, .slice A2 m c2] 25) := ⟨_, rfl⟩
 have e0 : Ext w W0 := by rw [hW0]; exact Ext.new w _
 have rP : RowV W0 w.heap.size 25 [.slice A1 n1 c1, .slice A2 m c2] := by rw [hW0]; exact RowV.new _ _ _
 have HM := hx hm
 have HFL := hx hfl
 have hsz := lbl_sizes hv
 have HSZ := hx hsz
 have hs0 : W0.heap.size = w.heap.size + 1 := by rw [hW0]; simp
 clear hm hfl hsz
 go_enter Tryz.func84, Tryz.ntmps84
 go_wp2
 rw [← hW0]
 clear hW0
 go_loopw [4, 5, 6] (fun vs vi i wr => ∃ (pre suf : List Stmt), L = pre ++ suf ∧ i = .int .i64 (pre.length : Nat) ∧ OwnS wr (w.heap.size + 1) vs (flat pre) ∧ OwnI wr (w.heap.size + 1) vi (flatAt 0 pre) ∧ RowV wr w.heap.size 25 [.slice A1 n1 c1, .slice A2 m c2] ∧ w.heap.size + 1 ≤ wr.heap.size ∧ Ext w wr) (fun _ _ i _ => m - (RowKit.intOf i).toNat)
 case atStart => exact ⟨[], L, rfl, rfl, Own.nil _ _ _ _ _, Own.nil _ _ _ _ _, rP, by omega, e0⟩
 case round =>
  clear e0 rP hs0
  obtain ⟨pre, suf, hl', rfl, os, oi, hr, hsz, he⟩ := hrel
  have q1 := hr.cell (i := 1) rfl
  obtain ⟨As, cs, rfl⟩ := os.slice
  obtain ⟨Ai, ci, rfl⟩ := oi.slice
  cases suf with
  | cons x suf =>
   have hlt : pre.length < m := by rw [HM.out, hl']; simp
   have hkm : (pre.length : Int) < (m : Int) := by omega
   have hvx := hv
   rw [hl'] at hvx
   have hfx : (flat pre).length + x.labels.length ≤ 1000000 := by
    have h := HFL.out
    rw [hl', flat_app, flat_cons, List.length_append, List.length_append] at h
    omega
   have HL := hx hl'
   have HFX := hx hfx
   have HLT := hx hlt
   obtain ⟨pl, hpl⟩ : ∃ pl, pl = pre.length := ⟨_, rfl⟩
   obtain ⟨b, o, hAA, vl, d0, dl, -, -, -, -⟩ := hvx.at
   subst hAA
   obtain ⟨Al, cl, rfl, -, -, dl'⟩ := dl.form
   rw [← hpl] at hkm HLT d0 ⊢
   have HPL := hx hpl
   obtain ⟨ll, hll⟩ : ∃ ll, ll = x.labels.length := ⟨_, rfl⟩
   rw [← hll] at d0 dl' HFX
   have HLL := hx hll
   have HD := hx d0
   clear hl' hvx hfx hlt dl hpl hll d0
   obtain ⟨labels, xi, tt, tm⟩ := x
   dsimp only at *
   go_wp2
   clear q1
   go_loopw [4, 5, 7] (fun vs vi j wi => ∃ (lp ls : List ByteArray), labels = lp ++ ls ∧ j = .int .i64 (lp.length : Nat) ∧ OwnS wi (w.heap.size + 1) vs (flat pre ++ lp) ∧ OwnI wi (w.heap.size + 1) vi (flatAt 0 pre ++ lp.map fun _ => (pl : Int)) ∧ RowV wi w.heap.size 25 [.slice A1 n1 c1, .slice (some ⟨b, o, none⟩) m c2] ∧ w.heap.size + 1 ≤ wi.heap.size ∧ Ext w wi) (fun _ _ j _ => ll - (RowKit.intOf j).toNat)
   case atStart => exact ⟨[], labels, rfl, rfl, (by simpa using os), (by simpa using oi), hr, hsz, he⟩
   case round =>
    clear os oi hr he hsz
    obtain ⟨lp, ls, hls, rfl, os, oi, hr, hsz, he⟩ := hrel
    have q1 := hr.cell (i := 1) rfl
    have d0 := he.cell HD.out
    obtain ⟨As, cs, rfl⟩ := os.slice
    obtain ⟨Ai, ci, rfl⟩ := oi.slice
    cases ls with
    | cons y ls =>
     have hlt2 : lp.length < ll := by rw [HLL.out, hls]; simp
     have hkm2 : (lp.length : Int) < (ll : Int) := by omega
     have ivx := dl'
     rw [hls] at ivx
     obtain ⟨by', oy, rfl, d1, -⟩ := (IsStrs.ext ivx he).at
     rw [Nat.mul_one] at d1
     have hlb : lp.length ≤ 1000000 := by have := HFX.out; omega
     have hl16 : ((flat pre ++ lp).length + 1) * 16 ≤ 140737488355328 := by rw [List.length_append]; have := HFX.out; omega
     have hl8 : ((flatAt 0 pre ++ lp.map fun _ => (pl : Int)).length + 1) * 8 ≤ 140737488355328 := by rw [List.length_append, List.length_map, flatAt_length]; have := HFX.out; omega
     have HLS := hx hls
     have H16 := hx hl16
     have H8 := hx hl8
     have hmap : (flatAt 0 pre ++ lp.map fun _ => (pl : Int)) ++ [(pl : Int)] = flatAt 0 pre ++ (lp ++ [y]).map fun _ => (pl : Int) := by simp
     have happ : (flat pre ++ lp) ++ [y] = flat pre ++ (lp ++ [y]) := by simp
     have HMP := hx hmap
     have HAP := hx happ
     generalize flat pre ++ lp = S1 at *
     generalize (flatAt 0 pre ++ lp.map fun _ => (pl : Int)) = I1 at *
     clear hls ivx hl16 hl8 hmap happ
     go_wp2_with (first
      | (at_builtin; refine wp_app1 tyI encI_ok oi2 (pl : Int) rfl rfl rfl rfl rfl hsz2 (by decide) H8.out ?_; intro g2 cap2 w3 oi3 hg3 hat3 hbg3)
      | (at_builtin; refine wp_app1 tyS encS_ok os y rfl rfl rfl rfl rfl hsz (by decide) H16.out ?_; intro g1 cap1 w2 os2 hg2 hat2 hbg2; have oi2 := oi.kept hg2 (oi.type_ne os (by decide)); have hr2 := hr.keep hg2 (fun e => by have := os.base_le _ e.symm; omega); have he2 := he.grown hg2 (fun k hk => by have := os.base_le k hk; omega); have hsz2 := Nat.le_trans hsz hg2.size))
     have he3 := he2.grown hg3 (fun k hk => by have := oi2.base_le k hk; omega)
     have os3 := os2.kept hg3 (os2.type_ne oi2 (by decide))
     have hr3 := hr2.keep hg3 (fun e => by have := oi2.base_le _ e.symm; omega)
     have hsz3 := Nat.le_trans hsz2 hg3.size
     rw [HMP.out] at oi3
     rw [HAP.out] at os3
     clear os os2 oi oi2 hg2 hg3 hr hr2 he he2 hsz hsz2 q1 d0 d1
     go_wp2
     go_roundw
     case rel => exact ⟨lp ++ [y], ls, by rw [HLS.out, List.append_assoc]; rfl, by first | go_num | simp, os3, oi3, hr3, hsz3, he3⟩
     case measure => simp [RowKit.intOf]; omega
    | nil =>
     obtain rfl : labels = lp := by simpa using hls
     have hlt2 : ¬ ((labels.length : Int) < (ll : Int)) := by rw [HLL.out]; omega
     have OS := hx os
     have OI := hx oi
     have HE := hx he
     have HR := hx hr
     clear hls os oi he hr
     go_wp2
     go_roundw
     case rel => exact ⟨pre ++ [⟨labels, xi, tt, tm⟩], suf, by rw [HL.out]; simp, by rw [List.length_append, List.length_singleton, ← HPL.out]; go_num, by rw [flat_app]; simpa [flat] using OS.out, by rw [flatAt_app, Nat.zero_add, ← HPL.out]; simpa [flatAt] using OI.out, HR.out, hsz, HE.out⟩
     case measure => simp [RowKit.intOf]; have := HLT.out; omega
  | nil =>
   obtain rfl : L = pre := by simpa using hl'
   have hlt : ¬ ((L.length : Int) < (m : Int)) := by rw [HM.out]; omega
   have HE := hx he
   have OS := hx os
   have OI := hx oi
   clear hl' he os oi
   go_wp2
   refine bodyPost_ret (results_tmp2 rfl _ _ _) rfl ?_
   exact ⟨_, _, rfl, OS.out.read HSZ.out (by have := HFL.out; omega), OI.out.read (fun x hx => by
    have h1 := flatAt_bd L 0 x hx
    have h2 := HM.out
    unfold I64
    omega) (by rw [flatAt_length]; have := HFL.out; omega), HE.out⟩
end Go.Proofs.YtmofdnlefjfcfaaGreatDoor


set_option linter.unusedVariables false
set_option linter.unusedSimpArgs false
namespace Go.Proofs.YtmofdnlefjfcfaaGreatDoor
open Go.RowKit Go.Lib

def firstP : List (Int × Int) → Int × Int
 | [] => (0, 0)
 | x :: l => if x.2 = 0 then firstP l else x
theorem firstF_fst : ∀ (l : List (Int × Int)) (i : Int), (firstF i l).1 = firstP l := by
 intro l
 induction l with
 | nil => intro i; rfl
 | cons x l ih =>
  intro i
  rw [firstF, firstP]
  split
  ·exact ih _
  ·rfl
def restP (M : List Def) (L : List Stmt) (k : Nat) : Int × Int := firstP ((prRs M L).drop k)
theorem pchk_rest (M : List Def) (L : List Stmt) : pchk M L = restP M L 0 := firstF_fst _ _
theorem findA_hit {chk : Int → Def → Int} : ∀ (l : List Def) (i : Int) (k : Nat), k < l.length → (∀ j : Nat, j < k → chk (i + j) (l.getD j default) = 0) → chk (i + k) (l.getD k default) ≠ 0 → findA chk i l = (i + k, chk (i + k) (l.getD k default)) := by
 intro l
 induction l with
 | nil => intro i k hk; simp at hk
 | cons x l ih =>
  intro i k hk hn h
  rw [findA]
  rcases k with _ | k
  ·have h' : chk i x ≠ 0 := by simpa using h
   rw [if_neg h']
   simp
  ·have h0 : chk i x = 0 := by simpa using hn 0 (by omega)
   rw [if_pos h0, ih (i + 1) k (by simpa using hk) (fun j hj => by
    have := hn (j + 1) (by omega)
    rw [List.getD_cons_succ] at this
    rw [show i + 1 + (j : Int) = i + ((j + 1 : Nat) : Int) by omega]
    exact this) (by
    rw [List.getD_cons_succ] at h
    rw [show i + 1 + (k : Int) = i + ((k + 1 : Nat) : Int) by omega]
    exact h)]
   rw [List.getD_cons_succ, show i + 1 + (k : Int) = i + ((k + 1 : Nat) : Int) by omega]
theorem rp0s {M : List Def} {L : List Stmt} {k : Nat} (hk : k < M.length) (hn : ∀ j, j < k → mapE (M.getD j default) = 0) {e : Int} (h : mapE (M.getD k default) = e) (he : e ≠ 0) : restP M L 0 = ((k : Int), e) := by
 have h1 := findA_hit (chk := fun _ d => mapE d) M 0 k hk (fun j hj => hn j hj) (by rw [h]; exact he)
 rw [h, Int.zero_add] at h1
 show (if (findA (fun _ d => mapE d) 0 M).2 = 0 then restP M L 1 else findA (fun _ d => mapE d) 0 M) = _
 rw [h1, if_neg he]
theorem rp0n {M : List Def} {L : List Stmt} (hn : ∀ j, j < M.length → mapE (M.getD j default) = 0) : restP M L 0 = restP M L 1 := by
 have h1 := findA_all (chk := fun _ d => mapE d) M 0 (fun k d h => by
  have := hn k (List.getElem?_eq_some_iff.1 h).1
  rw [List.getD_eq_getElem?_getD, h] at this
  exact this)
 show (if (findA (fun _ d => mapE d) 0 M).2 = 0 then restP M L 1 else findA (fun _ d => mapE d) 0 M) = _
 rw [h1, if_pos rfl]
theorem rp1s {M : List Def} {L : List Stmt} {k : Nat} (hk : k < L.length) (hn : ∀ j, j < k → stmtE (L.getD j default) = 0) {e : Int} (h : stmtE (L.getD k default) = e) (he : e ≠ 0) : restP M L 1 = ((k : Int), e) := by
 have h1 := findS_hit (chk := fun _ s => stmtE s) hk hn (by rw [h]; exact he)
 rw [h] at h1
 show (if (findS (fun _ s => stmtE s) L).2 = 0 then restP M L 2 else findS (fun _ s => stmtE s) L) = _
 rw [h1, if_neg he]
theorem rp1n {M : List Def} {L : List Stmt} (hn : ∀ j, j < L.length → stmtE (L.getD j default) = 0) : restP M L 1 = restP M L 2 := by
 have h1 := findS_none (chk := fun _ s => stmtE s) hn
 show (if (findS (fun _ s => stmtE s) L).2 = 0 then restP M L 2 else findS (fun _ s => stmtE s) L) = _
 rw [h1, if_pos rfl]
theorem rp2s {M : List Def} {L : List Stmt} (h : 255 < M.length) : restP M L 2 = (255, 16) := by
 have h1 := findA_hit (chk := fun i _ => whenN (decide (255 ≤ i)) 16) M 0 255 h (fun j hj => by rw [decide_eq_false (by omega)]; rfl) (by decide)
 show (if (findA (fun i _ => whenN (decide (255 ≤ i)) 16) 0 M).2 = 0 then restP M L 3 else findA (fun i _ => whenN (decide (255 ≤ i)) 16) 0 M) = _
 rw [h1]; rfl
theorem rp2n {M : List Def} {L : List Stmt} (h : ¬ 255 < M.length) : restP M L 2 = restP M L 3 := by
 have h1 := find_size M
 show (if (findA (fun i _ => whenN (decide (255 ≤ i)) 16) 0 M).2 = 0 then restP M L 3 else findA (fun i _ => whenN (decide (255 ≤ i)) 16) 0 M) = _
 rw [h1, if_neg h, if_pos rfl]
theorem rp3s {M : List Def} {L : List Stmt} (h : 0 ≤ repN (namesL M)) : restP M L 3 = (repN (namesL M), 10) := by
 have hb := repN_bd (namesL M)
 unfold namesL at *
 rw [List.length_map] at hb
 obtain ⟨k, hk⟩ := Int.eq_ofNat_of_zero_le h
 have h1 := findA_hit (chk := fun i _ => whenN (repN (M.map (·.name)) == i) 10) M 0 k (by omega) (fun j hj => by
  rw [beq_eq_false_iff_ne.2 (by omega)]; rfl) (by
  rw [hk, Int.zero_add, beq_self_eq_true]; decide)
 show (if (findA (fun i _ => whenN (repN (M.map (·.name)) == i) 10) 0 M).2 = 0 then restP M L 4 else findA (fun i _ => whenN (repN (M.map (·.name)) == i) 10) 0 M) = _
 rw [h1]
 dsimp only
 rw [hk, Int.zero_add, beq_self_eq_true]
 rfl
theorem rp3n {M : List Def} {L : List Stmt} (h : ¬ 0 ≤ repN (namesL M)) : restP M L 3 = restP M L 4 := by
 have hb := repN_bd (namesL M)
 unfold namesL at *
 rw [List.length_map] at hb
 have h1 := find_rep M (repN (M.map (·.name))) hb
 show (if (findA (fun i _ => whenN (repN (M.map (·.name)) == i) 10) 0 M).2 = 0 then restP M L 4 else findA (fun i _ => whenN (repN (M.map (·.name)) == i) 10) 0 M) = _
 rw [h1, if_neg h, if_pos rfl]
theorem rp4s {M : List Def} {L : List Stmt} {k : Nat} (h : repN (flat L) = (k : Int)) : restP M L 4 = ((flatAt 0 L).getD k 0, 10) := by
 have h1 := labD_rep L [] 0
 have h2 : repA [] (flat L) = (k : Int) := h
 rw [h2, if_pos (by omega), Int.toNat_natCast, List.length_nil, Nat.sub_zero] at h1
 show (if (labD [] 0 L).2 = 0 then restP M L 5 else labD [] 0 L) = _
 rw [h1]; rfl
theorem rp4n {M : List Def} {L : List Stmt} (h : ¬ 0 ≤ repN (flat L)) : restP M L 4 = restP M L 5 := by
 have h1 : labD [] 0 L = (0, 0) := (labD_rep L [] 0).trans (if_neg h)
 show (if (labD [] 0 L).2 = 0 then restP M L 5 else labD [] 0 L) = _
 rw [h1]; rfl
theorem rp5s {M : List Def} {L : List Stmt} (h : L.length = 0) : restP M L 5 = (0, 15) := by
 show (if (if L.length = 0 then ((0, 15) : Int × Int) else (0, 0)).2 = 0 then restP M L 6 else (if L.length = 0 then ((0, 15) : Int × Int) else (0, 0))) = _
 rw [if_pos h]; rfl
theorem rp5n {M : List Def} {L : List Stmt} (h : L.length ≠ 0) : restP M L 5 = restP M L 6 := by
 show (if (if L.length = 0 then ((0, 15) : Int × Int) else (0, 0)).2 = 0 then restP M L 6 else (if L.length = 0 then ((0, 15) : Int × Int) else (0, 0))) = _
 rw [if_neg h]; rfl
theorem rp6s {M : List Def} {L : List Stmt} {k : Nat} (hk : k < L.length) (hn : ∀ j, j < k → undB L (emS :: namesL M) (L.getD j default) = false) (h : undB L (emS :: namesL M) (L.getD k default) = true) : restP M L 6 = ((k : Int), 11) := by
 have hu : ∀ j s, undE L (emS :: namesL M) j s = if undB L (emS :: namesL M) s = true then 11 else 0 := fun _ _ => rfl
 have h1 := findS_hit (chk := undE L (emS :: namesL M)) hk (fun j hj => by rw [hu, if_neg (by rw [hn j hj]; decide)]) (by rw [hu, if_pos h]; decide)
 rw [hu, if_pos h] at h1
 show (if (findS (undE L (emS :: namesL M)) L).2 = 0 then restP M L 7 else findS (undE L (emS :: namesL M)) L) = _
 rw [h1]; rfl
theorem rp6n {M : List Def} {L : List Stmt} (hn : ∀ j, j < L.length → undB L (emS :: namesL M) (L.getD j default) = false) : restP M L 6 = restP M L 7 := by
 have hu : ∀ j s, undE L (emS :: namesL M) j s = if undB L (emS :: namesL M) s = true then 11 else 0 := fun _ _ => rfl
 have h1 := findS_none (chk := undE L (emS :: namesL M)) (l := L) (fun j hj => by rw [hu, if_neg (by rw [hn j hj]; decide)])
 show (if (findS (undE L (emS :: namesL M)) L).2 = 0 then restP M L 7 else findS (undE L (emS :: namesL M)) L) = _
 rw [h1]; rfl
theorem rp7s {M : List Def} {L : List Stmt} {k : Nat} (hk : k < L.length) (hn : ∀ j, j < k → (writesX (L.getD j default).ins == 10) = false) (h : (writesX (L.getD k default).ins == 10) = true) : restP M L 7 = ((k : Int), 14) := by
 have h1 := findS_hit (chk := wrE) hk (fun j hj => by unfold wrE; rw [hn j hj]; rfl) (by unfold wrE; rw [h]; decide)
 unfold wrE at h1
 rw [h] at h1
 show (if (findS wrE L).2 = 0 then restP M L 8 else findS wrE L) = _
 unfold wrE
 rw [h1]; rfl
theorem rp7n {M : List Def} {L : List Stmt} (hn : ∀ j, j < L.length → (writesX (L.getD j default).ins == 10) = false) : restP M L 7 = restP M L 8 := by
 have h1 := findS_none (chk := wrE) (l := L) (fun j hj => by unfold wrE; rw [hn j hj]; rfl)
 show (if (findS wrE L).2 = 0 then restP M L 8 else findS wrE L) = _
 rw [h1]; rfl
theorem rp8s {M : List Def} {L : List Stmt} {k : Nat} (hk : L.length = k + 1) (h : endsX (L.getD k default).ins = false) : restP M L 8 = ((k : Int), 15) := by
 have h1 := findS_hit (chk := enE L.length) (l := L) (k := k) (by omega) (fun j hj => by unfold enE; rw [decide_eq_false (by omega)]; rfl) (by unfold enE; rw [decide_eq_true (by omega), h]; decide)
 have h2 : enE L.length k (L.getD k default) = 15 := by unfold enE; rw [decide_eq_true (by omega), h]; rfl
 rw [h2] at h1
 show (if (findS (enE L.length) L).2 = 0 then restP M L 9 else findS (enE L.length) L) = _
 rw [h1]; rfl
theorem rp8n {M : List Def} {L : List Stmt} {k : Nat} (hk : L.length = k + 1) (h : endsX (L.getD k default).ins = true) : restP M L 8 = (0, 0) := by
 have h1 := findS_none (chk := enE L.length) (l := L) (fun j hj => by
  unfold enE
  by_cases hjk : j = k
  ·subst hjk; rw [h]; simp [whenN]
  ·rw [decide_eq_false (by omega)]; rfl)
 show (if (findS (enE L.length) L).2 = 0 then restP M L 9 else findS (enE L.length) L) = _
 rw [h1]; rfl
theorem mapX_in {M : List Def} {s : ByteArray} : (mapX M s < 0) = (inL (namesL M) s = false) := by
 apply propext
 constructor
 ·intro h
  refine inL_none fun j hj he => ?_
  unfold namesL at hj he
  rw [List.length_map] at hj
  have hnm : (M.getD j default).name = s := by
   rw [List.getD_eq_getElem?_getD, List.getElem?_map, List.getElem?_eq_getElem hj] at he
   rw [List.getD_eq_getElem?_getD, List.getElem?_eq_getElem hj]
   exact he
  have h2 : mapX M s ≠ -1 := by
   unfold mapX
   cases hf : ((List.range M.length).findSome? fun i => if (M.getD i default).name = s then some (i : Int) else none) with
   | none =>
    rw [List.findSome?_eq_none_iff] at hf
    have := hf j (by simpa using hj)
    rw [if_pos hnm] at this
    cases this
   | some r =>
    obtain ⟨i, _, hr⟩ := List.exists_of_findSome?_eq_some hf
    split at hr
    ·injection hr with hr; subst hr; simp
    ·cases hr
  unfold mapX at h h2
  cases hf : ((List.range M.length).findSome? fun i => if (M.getD i default).name = s then some (i : Int) else none) with
  | none => rw [hf] at h2; exact h2 rfl
  | some r =>
   rw [hf] at h
   obtain ⟨i, _, hr⟩ := List.exists_of_findSome?_eq_some hf
   split at hr
   ·injection hr with hr; subst hr; simp at h; omega
   ·cases hr
 ·intro h
  have := mapX_none (M := M) (s := s) (fun j hj he => by
   have h2 : inL (namesL M) s = true := inL_hit (k := j) (by unfold namesL; rw [List.getElem?_map, List.getElem?_eq_getElem hj]; rw [List.getD_eq_getElem?_getD, List.getElem?_eq_getElem hj] at he; exact congrArg some he)
   rw [h] at h2; cases h2)
  omega
theorem labX_lt (L : List Stmt) (s : ByteArray) : (labX L s < 0) = ((labAt L s).isSome = false) := by
 have hb : ∀ (L : List Stmt) (k : Nat) (p : ByteArray → Option Int), (∀ i, p s = some i → 0 ≤ i) → ∀ i, labI k L p s = some i → 0 ≤ i := by
  intro L
  induction L with
  | nil => intro k p h i hi; exact h i hi
  | cons x l ih =>
   intro k p h i hi
   refine ih (k + 1) _ (fun j hj => ?_) i hi
   split at hj
   ·injection hj with hj; omega
   ·exact h j hj
 apply propext
 unfold labX
 cases h : labAt L s with
 | none => simp
 | some i =>
  have := hb L 0 (fun _ => none) (fun i h => by cases h) i h
  simp
  omega
end Go.Proofs.YtmofdnlefjfcfaaGreatDoor


set_option linter.unusedVariables false
set_option linter.unusedSimpArgs false
namespace Go.Proofs.YtmofdnlefjfcfaaGreatDoor
open Go.RowKit Go.Lib

set_option maxRecDepth 40000 in
set_option maxHeartbeats 8000000 in
theorem refStmt_any (A : Option Addr) (c : Nat) (s : Stmt) (w : World) (hl : IsStrs w (.slice A s.labels.length c) s.labels) (hok : s.ins.Ok) (ht : s.target.size ≤ 140737488355328) (hm : s.map.size ≤ 140737488355328) :
  Calls Tryz.prog 82 #[StV A s.labels.length c s] w fun e w' => e = .returned (.int .i64 (stmtE s)) ∧ Ext w w' := by
 have hsl := stmtE_lbl (s := s)
 have hsi := fun h h2 => stmtE_ins (s := s) h h2
 have hst := fun h h2 => stmtE_tail (s := s) h h2
 obtain ⟨labels, ⟨op, reg, n1, n2, n3, n4⟩, tt, tm⟩ := s
 dsimp only at *
 generalize stmtE ⟨labels, ⟨op, reg, n1, n2, n3, n4⟩, tt, tm⟩ = SE at *
 unfold StV
 dsimp only
 have hop := hok.op
 have HC := hx fun W => ref04Check_any ⟨op, reg, n1, n2, n3, n4⟩ W hok
 have HF := hx fun W => (refForm_any op W hop).mono (R' := fun e w' => e = .returned (.int .i64 (formN op)) ∧ w' = W) fun e w' h => by rw [formN_eq]; exact h
 have hjx : jumpsX ⟨op, reg, n1, n2, n3, n4⟩ = decide (formN op = 3 ∨ formN op = 4) := rfl
 rw [hjx] at hst
 unfold Ins.v at HC
 generalize insE ⟨op, reg, n1, n2, n3, n4⟩ = IE at *
 generalize formN op = F at *
 clear hjx hok hop
 obtain ⟨m, hmm⟩ : ∃ m, m = labels.length := ⟨_, rfl⟩
 have hb0 : labels.length ≤ 281474976710656 := hl.len
 rw [← hmm] at hl hb0 ⊢
 have HM := hx hmm
 clear hmm
 have HSL := hx hsl
 have HSI := hx hsi
 have HSX := hx hst
 obtain ⟨W0, hW0⟩ : ∃ W0, W0 = w.alloc (.cells #[.slice A m c, .int .i64 op, .bool reg, .int .i64 n1, .int .i64 n2, .int .i64 n3, .int .i64 n4, .string tt, .string tm] 55) := ⟨_, rfl⟩
 have e0 : Ext w W0 := by rw [hW0]; exact Ext.new _ _
 have r0 : RowV W0 w.heap.size 55 [.slice A m c, .int .i64 op, .bool reg, .int .i64 n1, .int .i64 n2, .int .i64 n3, .int .i64 n4, .string tt, .string tm] := by rw [hW0]; exact RowV.new _ _ _
 have hl0 := IsStrs.ext hl e0
 have q0 := r0.cell (i := 0) rfl
 have q1 := r0.cell (i := 1) rfl
 have q2 := r0.cell (i := 2) rfl
 have q3 := r0.cell (i := 3) rfl
 have q4 := r0.cell (i := 4) rfl
 have q5 := r0.cell (i := 5) rfl
 have q6 := r0.cell (i := 6) rfl
 have R0 := hx r0
 have E0 := hx e0
 clear hl hsl hsi hst r0 e0
 go_enter Tryz.func82, Tryz.ntmps82
 go_wp2
 rw [← hW0]
 clear hW0
 go_loop [3] (fun i => ∃ k : Nat, k ≤ m ∧ i = .int .i64 (k : Nat) ∧ (∀ j, j < k → idB (labels.getD j emS) = true)) (fun i => m - (RowKit.intOf i).toNat)
 case atStart => exact ⟨0, by omega, rfl, by intro j hj; omega⟩
 case round =>
  obtain ⟨k, hk, rfl, hn⟩ := hrel
  have HN := Go.Proofs.YtmofdnlefjfcfaaGreatDoor.hx hn
  clear hn
  by_cases hlt : k < m
  ·obtain ⟨x, hx0⟩ : ∃ x, labels[k]? = some x := ⟨_, List.getElem?_eq_getElem (by have := HM.out; omega)⟩
   have hg : labels.getD k emS = x := by rw [List.getD_eq_getElem?_getD, hx0]; rfl
   obtain ⟨bx, ox, rfl, d1, d2⟩ := hl0.get hx0
   rw [Nat.mul_one] at d1
   have hkm : (k : Int) < (m : Int) := by omega
   have hV := ref02_Valid_any x W0 (by omega)
   have HG := hx hg
   have HX0 := hx hx0
   have HLT := hx hlt
   clear hg hx0 d2 hlt q1 q2 q3 q4 q5 q6
   cases hv : idB x with
   | true =>
    rw [hv] at hV
    have HV := hx hV
    have HVV := hx hv
    clear hV hv
    go_wp2_with fail
    refine HV.out.mono ?_
    rintro e w3 ⟨rfl, rfl⟩
    go_wp2
    go_round
    case rel => exact ⟨k + 1, HLT.out, by go_num, fun j hj => (Nat.lt_succ_iff_lt_or_eq.1 hj).elim (HN.out j) (fun h => by rw [h, HG.out, HVV.out])⟩
    case measure => simp [RowKit.intOf]; omega
   | false =>
    rw [hv] at hV
    have HV := hx hV
    have HB := hx (lbl_hit HX0.out hv)
    clear hV hv
    go_wp2_with fail
    refine HV.out.mono ?_
    rintro e w3 ⟨rfl, rfl⟩
    go_wp2
    go_ret
    exact ⟨ret_int (HSL.out HB.out).symm, E0.out⟩
  ·obtain rfl : m = k := by omega
   have hbn := lbl_none (l := labels) (by rw [← HM.out]; exact HN.out)
   have HBN := hx hbn
   clear hbn hlt hk HN
   by_cases hz : IE = 0
   ·subst hz
    have HST := hx (HSX.out HBN.out rfl)
    clear HSL HSI HSX HBN
    go_wp2_with fail
    refine (HC.out _).mono ?_
    rintro e w1 ⟨rfl, e1⟩
    have r1 := R0.out.ext e1
    have p1 := r1.cell (i := 1) rfl
    have p5 := r1.cell (i := 5) rfl
    have p6 := r1.cell (i := 6) rfl
    have p7 := r1.cell (i := 7) rfl
    have p8 := r1.cell (i := 8) rfl
    have E1 := hx (E0.out.trans e1)
    clear q0 q1 q2 q3 q4 q5 q6 e1 r1
    go_wp2_with fail
    refine (HF.out _).mono ?_
    rintro e w2 ⟨rfl, rfl⟩
    clear HF HC
    by_cases f3 : F = 3
    ·subst f3
     have f1 : decide ((3 : Int) = 3 ∨ (3 : Int) = 4) = true := by decide
     rw [f1, show ((3 : Int) == 11) = false from rfl] at HST
     clear f1
     by_cases c1 : n3 = 0
     ·subst c1
      by_cases c2 : tm = emS
      ·subst c2
       have u1 := em_list
       have u2 := em_isE
       cases hv : idB tt with
       | true =>
        have hT : tailB true false 0 n4 tt emS = 0 := by simp [tailB, neS, hv]
        have HT := hx hT
        clear hT
        have hV := fun W => ref02_Valid_any tt W (by omega)
        simp only [hv] at hV
        have HV := hx hV
        clear hV hv
        go_wp2_with fail
        refine (HV.out _).mono ?_
        rintro e w3 ⟨rfl, rfl⟩
        go_wp2
        go_ret
        exact ⟨ret_int (by rw [HST.out, HT.out]), E1.out⟩
       | false =>
        have hT : tailB true false 0 n4 tt emS = 7 := by simp [tailB, neS, hv]
        have HT := hx hT
        clear hT
        have hV := fun W => ref02_Valid_any tt W (by omega)
        simp only [hv] at hV
        have HV := hx hV
        clear hV hv
        go_wp2_with fail
        refine (HV.out _).mono ?_
        rintro e w3 ⟨rfl, rfl⟩
        go_wp2
        go_ret
        exact ⟨ret_int (by rw [HST.out, HT.out]), E1.out⟩
      ·have u1 := ne_list c2
       have u2 := ne_isE c2
       have hT : tailB true false 0 n4 tt tm = 12 := by simp [tailB, neS, c2]
       clear c2
       have HT := hx hT
       clear hT
       go_wp2
       go_ret
       exact ⟨ret_int (by rw [HST.out, HT.out]), E1.out⟩
     ·have q1 : (n3 != 0) = true := by simpa using c1
      have hT : tailB true false n3 n4 tt tm = 12 := by simp [tailB, c1]
      clear c1
      have HT := hx hT
      clear hT
      go_wp2
      go_ret
      exact ⟨ret_int (by rw [HST.out, HT.out]), E1.out⟩
    ·by_cases f4 : F = 4
     ·subst f4
      have f1 : decide ((4 : Int) = 3 ∨ (4 : Int) = 4) = true := by decide
      rw [f1, show ((4 : Int) == 11) = false from rfl] at HST
      clear f1 f3
      by_cases c1 : n3 = 0
      ·subst c1
       by_cases c2 : tm = emS
       ·subst c2
        have u1 := em_list
        have u2 := em_isE
        cases hv : idB tt with
        | true =>
         have hT : tailB true false 0 n4 tt emS = 0 := by simp [tailB, neS, hv]
         have HT := hx hT
         clear hT
         have hV := fun W => ref02_Valid_any tt W (by omega)
         simp only [hv] at hV
         have HV := hx hV
         clear hV hv
         go_wp2_with fail
         refine (HV.out _).mono ?_
         rintro e w3 ⟨rfl, rfl⟩
         go_wp2
         go_ret
         exact ⟨ret_int (by rw [HST.out, HT.out]), E1.out⟩
        | false =>
         have hT : tailB true false 0 n4 tt emS = 7 := by simp [tailB, neS, hv]
         have HT := hx hT
         clear hT
         have hV := fun W => ref02_Valid_any tt W (by omega)
         simp only [hv] at hV
         have HV := hx hV
         clear hV hv
         go_wp2_with fail
         refine (HV.out _).mono ?_
         rintro e w3 ⟨rfl, rfl⟩
         go_wp2
         go_ret
         exact ⟨ret_int (by rw [HST.out, HT.out]), E1.out⟩
       ·have u1 := ne_list c2
        have u2 := ne_isE c2
        have hT : tailB true false 0 n4 tt tm = 12 := by simp [tailB, neS, c2]
        clear c2
        have HT := hx hT
        clear hT
        go_wp2
        go_ret
        exact ⟨ret_int (by rw [HST.out, HT.out]), E1.out⟩
      ·have q1 : (n3 != 0) = true := by simpa using c1
       have hT : tailB true false n3 n4 tt tm = 12 := by simp [tailB, c1]
       clear c1
       have HT := hx hT
       clear hT
       go_wp2
       go_ret
       exact ⟨ret_int (by rw [HST.out, HT.out]), E1.out⟩
     ·by_cases f11 : F = 11
      ·subst f11
       have f1 : decide ((11 : Int) = 3 ∨ (11 : Int) = 4) = false := by decide
       rw [f1, show ((11 : Int) == 11) = true from rfl] at HST
       clear f1 f3 f4
       by_cases c1 : n4 = 0
       ·subst c1
        by_cases c2 : tt = emS
        ·subst c2
         have u1 := em_list
         have u2 := em_isE
         cases hv : idB tm with
         | true =>
          have hT : tailB false true n3 0 emS tm = 0 := by simp [tailB, neS, hv]
          have HT := hx hT
          clear hT
          have hV := fun W => ref02_Valid_any tm W (by omega)
          simp only [hv] at hV
          have HV := hx hV
          clear hV hv
          go_wp2_with fail
          refine (HV.out _).mono ?_
          rintro e w3 ⟨rfl, rfl⟩
          go_wp2
          go_ret
          exact ⟨ret_int (by rw [HST.out, HT.out]), E1.out⟩
         | false =>
          have hT : tailB false true n3 0 emS tm = 7 := by simp [tailB, neS, hv]
          have HT := hx hT
          clear hT
          have hV := fun W => ref02_Valid_any tm W (by omega)
          simp only [hv] at hV
          have HV := hx hV
          clear hV hv
          go_wp2_with fail
          refine (HV.out _).mono ?_
          rintro e w3 ⟨rfl, rfl⟩
          go_wp2
          go_ret
          exact ⟨ret_int (by rw [HST.out, HT.out]), E1.out⟩
        ·have u1 := ne_list c2
         have u2 := ne_isE c2
         have hT : tailB false true n3 0 tt tm = 12 := by simp [tailB, neS, c2]
         clear c2
         have HT := hx hT
         clear hT
         go_wp2
         go_ret
         exact ⟨ret_int (by rw [HST.out, HT.out]), E1.out⟩
       ·have q1 : (n4 != 0) = true := by simpa using c1
        have hT : tailB false true n3 n4 tt tm = 12 := by simp [tailB, c1]
        clear c1
        have HT := hx hT
        clear hT
        go_wp2
        go_ret
        exact ⟨ret_int (by rw [HST.out, HT.out]), E1.out⟩
      ·have f1 : decide (F = 3 ∨ F = 4) = false := decide_eq_false (by omega)
       have g3 : (F == 3) = false := by simpa using f3
       have g4 : (F == 4) = false := by simpa using f4
       have g11 : (F == 11) = false := by simpa using f11
       have g12 : (F != 11) = true := by simpa using f11
       rw [f1, g11] at HST
       clear f1 f3 f4 f11
       by_cases c1 : tt = emS
       ·subst c1
        have u1 := em_list
        have u2 := em_isE
        by_cases c2 : tm = emS
        ·subst c2
         have hT : tailB false false n3 n4 emS emS = 0 := by simp [tailB, neS]
         have HT := hx hT
         clear hT
         go_wp2
         go_ret
         exact ⟨ret_int (by rw [HST.out, HT.out]), E1.out⟩
        ·have u3 := ne_list c2
         have u4 := ne_isE c2
         have hT : tailB false false n3 n4 emS tm = 12 := by simp [tailB, neS, c2]
         clear c2
         have HT := hx hT
         clear hT
         go_wp2
         go_ret
         exact ⟨ret_int (by rw [HST.out, HT.out]), E1.out⟩
       ·have u1 := ne_list c1
        have u2 := ne_isE c1
        have hT : tailB false false n3 n4 tt tm = 12 := by simp [tailB, neS, c1]
        clear c1
        have HT := hx hT
        clear hT
        go_wp2
        go_ret
        exact ⟨ret_int (by rw [HST.out, HT.out]), E1.out⟩
   ·have hz' : (IE != 0) = true := by simpa using hz
    have HST := hx (HSI.out HBN.out hz)
    clear HSL HSI HSX HBN hz
    go_wp2_with fail
    refine (HC.out _).mono ?_
    rintro e w1 ⟨rfl, e1⟩
    go_wp2
    go_ret
    exact ⟨ret_int HST.out.symm, E0.out.trans e1⟩
end Go.Proofs.YtmofdnlefjfcfaaGreatDoor
