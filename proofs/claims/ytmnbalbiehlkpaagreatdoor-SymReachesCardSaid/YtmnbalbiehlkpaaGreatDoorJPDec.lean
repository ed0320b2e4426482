/- The layer prog: declared. -/
import Derived.Test.YtmnbalbiehlkpaaGreatDoorJAll
import Derived.Deep.RegionHeld3
import Derived.Laws.OwnMore
import Derived.Test.YtmnbalbiehlkpaaGreatDoorJSlot
set_option linter.unusedVariables false
set_option linter.unusedSimpArgs false
namespace Go.Proofs.YtmnbalbiehlkpaaGreatDoor
open Go.RowKit Go.Lib

/-- m[s] = x while a map is built, as an operation. -/
theorem wp_mapIns {ops : Array Oper} {rest : List Oper} {o : Oper} {a : Act} {Q : Exit → Act → World → Prop} {w : World} {b n : Nat} {p : ByteArray → Bool} (h : SetS w b n p) (s : ByteArray) (hs : s.size ≤ 140737488355328) (hn : n < 1000000000) (x : Bool) (hgd : o.guard = none) {m k v : Operand}
  (ho : o.op = .insert 271 m k v) (hm : a.eval m = .map (some b)) (hk : a.eval k = .string s) (hv : a.eval v = .bool x)
  (hK : ∀ w', SetS w' b (n + 1) (fun y => if y = s then x else p y) → w.grownBy w' (some b) → wpList Tryz.prog ops Q rest (a.put o.dst undef) w') : wpList Tryz.prog ops Q (o :: rest) a w := by
 refine wpList_plain hgd fun K hK' => ?_
 obtain ⟨w', hr, h1, h2⟩ := h.upd s hs hn x
 unfold Oper.wp
 simp [execOp, ho, hm, hk, hv, hr, Result.andThen]
 exact hK' _ _ (hK w' h1 h2)
def undB (L : List Stmt) (N : List ByteArray) (s : Stmt) : Bool := (neS s.target && !(labAt L s.target).isSome) || !(inL N s.map)
def undE (L : List Stmt) (N : List ByteArray) (_ : Nat) (s : Stmt) : Int := if undB L N s then 11 else 0
theorem MapS.lt {w : World} {b n : Nat} {p : ByteArray → Option Int} (h : MapS w b n p) : b < w.heap.size := by
 obtain ⟨D, h1, _⟩ := h
 exact h1.lt
set_option maxRecDepth 40000 in
set_option maxHeartbeats 8000000 in
theorem declared_any (A1 A2 : Option Addr) (m1 c1 m c2 : Nat) (M : List Def) (L : List Stmt) (w : World) (hm1 : m1 = M.length) (hm1l : m1 ≤ 1000000) (hm : m = L.length) (hml : m ≤ 1000000) (hd : IsDefs w (.slice A1 m1 c1) M) (hv : IsStmts w (.slice A2 m c2) L) (hfl : (flat L).length ≤ 1000000)
  (hn1 : w.cell? ⟨0, 0, none⟩ = some (.int .i64 0)) (hn2 : w.cell? ⟨0, 1, none⟩ = some (.int .i64 0)) :
  Calls Tryz.prog 164 #[.agg #[.slice A1 m1 c1, .slice A2 m c2]] w fun e w' => e = .returned (findV (findS (undE L (emS :: M.map (·.name))) L)) ∧ Ext w w' := by
 obtain ⟨W0, hW0⟩ : ∃ W0, W0 = (w.alloc (.cells #[.slice A1 m1 c1, .slice A2 m c2] 25)).alloc (.cells #[.int .i64 0, .int .i64 0] 146) := ⟨_, rfl⟩
 have e0 : Ext w W0 := by rw [hW0]; exact (Ext.new w _).alloc _
 have rP : RowV W0 w.heap.size 25 [.slice A1 m1 c1, .slice A2 m c2] := by
  rw [hW0]
  exact (RowV.new w [.slice A1 m1 c1, .slice A2 m c2] 25).ext (Ext.new _ _)
 have p3 : W0.heap[w.heap.size + 1]? = some (.cells #[.int .i64 0, .int .i64 0] 146 (0, 0)) := by
  rw [hW0]
  have h := heap_alloc_new (w.alloc (.cells #[.slice A1 m1 c1, .slice A2 m c2] 25)) (.cells #[.int .i64 0, .int .i64 0] 146)
  rwa [World.size_alloc] at h
 have hLB := Labels_any A1 A2 m1 c1 m c2 L W0 hm hml (IsStmts.ext hv e0) hfl
 have hs0 : W0.heap.size = w.heap.size + 1 + 1 := by rw [hW0]; simp
 rw [hW0] at hLB
 have HLB := hx hLB
 have HW0 := hx hW0
 have HM := hx hm
 have HM1 := hx hm1
 have hmm := @run_makeMap Tryz.prog
 have HMM := hx hmm
 clear hLB hW0 hm hm1 hfl hmm
 go_enter Tryz.func164, Tryz.ntmps164
 go_wp2_with fail
 refine HLB.out.mono ?_
 rintro e w1 ⟨b1, rfl, mp1, e1⟩
 rw [← HW0.out] at e1
 have rP1 := rP.ext e1
 have r3 := e1.obj p3
 have E1 := e0.trans e1
 have hs1 : w.heap.size + 1 + 1 ≤ w1.heap.size := by rw [← hs0]; exact e1.size
 have hb1 := mp1.lt
 have hM0 := SetS.made w1
 have mp2 := mp1.ext (Ext.new w1 (.map #[] 0))
 have x2 := Ext.new w1 (.map #[] 0)
 clear rP p3 HLB HW0 e0 e1
 have hmm := HMM.out
 go_upto_region 2 with fail
 go_wp2_with (refine wp_mapIns hM0 emS (by decide) (by omega) true rfl rfl (by rfl) (by rfl) (by rfl) ?_; intro w2 m2 g2; have rP2 := (rP1.ext x2).keep g2 (by simp; omega); have q1 := rP2.cell (i := 0) rfl; have q2 := rP2.cell (i := 1) rfl)
 have hfe : (fun y => if y = emS then true else false) = inL [emS] := by
  funext y
  by_cases h : y = emS
  ·subst h; rfl
  ·rw [if_neg h]; simp [inL]; exact fun e => h e.symm
 rw [hfe] at m2
 have e2 := (E1.trans x2).grown g2 (fun k hk => by cases hk; omega)
 have mp3 := mp2.kept g2 (by simp; omega)
 have q3 : w2.heap[w.heap.size + 1]? = some (.cells #[.int .i64 0, .int .i64 0] 146 (0, 0)) := (g2.block _ (by simp; omega) (by simp; omega)).trans (x2.obj r3)
 obtain ⟨b2, hb2⟩ : ∃ b2, b2 = w1.heap.size := ⟨_, rfl⟩
 have hb12 : b1 ≠ b2 := by omega
 have hbw : w.heap.size + 1 < b2 := by omega
 rw [← hb2] at m2 ⊢
 clear hb2 hfe g2 hM0 mp1 mp2 x2 E1 rP1 r3 hs1 hb1 hs0 hmm HMM q1
 go_loopw [18] (fun i wr => ∃ k : Nat, k ≤ m1 ∧ i = .int .i64 (k : Nat) ∧ SetS wr b2 (1 + k) (inL (emS :: (M.take k).map (·.name))) ∧ MapS wr b1 (flat L).length (labAt L) ∧ RowV wr w.heap.size 25 [.slice A1 m1 c1, .slice A2 m c2] ∧ wr.heap[w.heap.size + 1]? = some (.cells #[.int .i64 0, .int .i64 0] 146 (0, 0)) ∧ Ext w wr) (fun i _ => m1 - (RowKit.intOf i).toNat)
 case atStart => exact ⟨0, by omega, rfl, m2, mp3, rP2, q3, e2⟩
 case round =>
  clear m2 mp3 rP2 q3 e2 q2
  obtain ⟨k, hk, rfl, m2, mp3, rP2, q3, he⟩ := hrel
  by_cases hlt : k < m1
  ·obtain ⟨x, hx0⟩ : ∃ x, M[k]? = some x := ⟨_, List.getElem?_eq_getElem (by have := HM1.out; omega)⟩
   obtain ⟨bx, ox, rfl, ⟨d1, d2, d3, d4⟩, dok⟩ := (IsDefs.ext hd he).get hx0
   have hnm := dok.name
   have htk : (M.take (k + 1)).map (·.name) = (M.take k).map (·.name) ++ [x.name] := by rw [List.take_add_one, hx0]; simp
   have hfun : (fun z => if z = x.name then true else inL (emS :: (M.take k).map (·.name)) z) = inL (emS :: (M.take (k + 1)).map (·.name)) := by
    funext z
    rw [htk, ← List.cons_append, inL_snoc]
    by_cases h1 : z = x.name
    ·subst h1; simp
    ·have h1' : ¬ x.name = z := fun e => h1 e.symm
     rw [if_neg h1, decide_eq_false h1', Bool.or_false]
   have HFUN := hx hfun
   have hkm : (k : Int) < (m1 : Int) := by omega
   have eN := Ext.new wr (.cells #[.string x.name, .int .i64 x.key, .int .i64 x.val, .int .i64 x.ents] 100)
   have mN := m2.ext eN
   have pN := mp3.ext eN
   have rN := rP2.ext eN
   have qN := eN.obj q3
   have xN := he.trans eN
   obtain ⟨nm, ky, vl, en⟩ := x
   dsimp only at *
   have HLT := hx hlt
   clear m2 mp3 rP2 q3 he hx0 htk hfun dok hlt eN
   go_wp2_with (refine wp_mapUpd mN nm hnm (by omega) true rfl rfl (by rfl) (by rfl) (by rfl) ?_; intro w3 m3 g3)
   have e3 := xN.grown g3 (fun k hk => by cases hk; omega)
   have p3 := pN.kept g3 (by simpa using hb12)
   have r3 := rN.keep g3 (by simp; omega)
   have q3 := (g3.block (w.heap.size + 1) (Array.getElem?_eq_some_iff.1 qN).1 (by simp; omega)).trans qN
   rw [HFUN.out] at m3
   clear g3 mN pN rN qN xN d1 d2 d3 d4
   go_roundw
   case rel => exact ⟨k + 1, HLT.out, by go_num, by simpa [Nat.add_assoc] using m3, p3, r3, q3, e3⟩
   case measure => simp [RowKit.intOf]; omega
  ·obtain rfl : m1 = k := by omega
   rw [List.take_of_length_le (by rw [← HM1.out]; exact Nat.le_refl _)] at m2
   have q2 := rP2.cell (i := 1) rfl
   go_wp2
   clear q2 hlt hk
   go_loopw [29] (fun i wr => ∃ k : Nat, k ≤ m ∧ i = .int .i64 (k : Nat) ∧ (∀ j, j < k → undE L (emS :: M.map (·.name)) j (L.getD j default) = 0) ∧ SetS wr b2 (1 + m1) (inL (emS :: M.map (·.name))) ∧ MapS wr b1 (flat L).length (labAt L) ∧ wr.heap[w.heap.size + 1]? = some (.cells #[.int .i64 0, .int .i64 0] 146 (0, 0)) ∧ Ext w wr) (fun i _ => m - (RowKit.intOf i).toNat)
   case atStart => exact ⟨0, by omega, rfl, (by intro j hj; omega), m2, mp3, q3, he⟩
   case round =>
    clear m2 mp3 q3 he rP2
    obtain ⟨k, hk, rfl, hn, m2, mp3, q3, he⟩ := hrel
    have HN := hx hn
    clear hn
    by_cases hlt : k < m
    ·obtain ⟨x, hx0⟩ : ∃ x, L[k]? = some x := ⟨_, List.getElem?_eq_getElem (by have := HM.out; omega)⟩
     have hg : L.getD k default = x := by rw [List.getD_eq_getElem?_getD, hx0]; rfl
     obtain ⟨b, o, rfl, vl, d0, dl, ⟨d1, d2, d3, d4, d5, d6⟩, dok, ⟨d7, d7'⟩, d8, d8'⟩ := (IsStmts.ext hv he).get hx0
     obtain ⟨Al, cl, rfl, -, -, dl'⟩ := dl.form
     have hkm : (k : Int) < (m : Int) := by omega
     have eN := Ext.new wr (.cells (stL Al x.labels.length cl x).toArray 55)
     have hlk1 := (mp3.ext eN).look x.target d7'
     have hlk2 := (m2.ext eN).look x.map d8'
     have hchk : undE L (emS :: M.map (·.name)) k (L.getD k default) = if (neS x.target && !(labAt L x.target).isSome) || !(inL (emS :: M.map (·.name)) x.map) then 11 else 0 := by rw [hg]; rfl
     have HCHK := hx hchk
     have HLT := hx hlt
     have M2 := hx (m2.ext eN)
     have P3 := hx (mp3.ext eN)
     have qN := eN.obj q3
     have EN := hx (he.trans eN)
     obtain ⟨labels, ⟨op, reg, n1', n2', n3', n4'⟩, tt, tm⟩ := x
     simp only [stL] at *
     generalize labels.length = ll at *
     generalize (labAt L tt).isSome = S at *
     generalize (labAt L tt).getD 0 = G at *
     generalize inL (emS :: M.map (·.name)) tm = I at *
     have QN := hx qN
     clear hchk m2 mp3 q3 he hlt hg hx0 dl dl' dok d7' d8' eN qN
     by_cases ht : tt = emS
     ·subst ht
      have u1 := em_list
      have u2 := em_isE
      have HNE := hx (show neS emS = false by simp [neS])
      cases I with
      | true =>
       have h0 : undE L (emS :: M.map (·.name)) k (L.getD k default) = 0 := by rw [HCHK.out, HNE.out]; rfl
       have H0 := hx h0
       clear h0
       go_wp2
       go_roundw
       case rel => exact ⟨k + 1, HLT.out, by go_num, (fun j hj => (Nat.lt_succ_iff_lt_or_eq.1 hj).elim (HN.out j) (fun h => by rw [h]; exact H0.out)), M2.out, P3.out, QN.out, EN.out⟩
       case measure => simp [RowKit.intOf]; omega
      | false =>
       have h0 : undE L (emS :: M.map (·.name)) k (L.getD k default) = 11 := by rw [HCHK.out, HNE.out]; rfl
       have hf := findS_hit (l := L) (by rw [← HM.out]; exact HLT.out) HN.out (by rw [h0]; decide)
       rw [h0] at hf
       have HFX := hx hf
       obtain ⟨y1, y2, z1, z2⟩ := fin4 QN.out
       clear h0 hf
       go_wp2
       refine bodyPost_ret (results_cell_row rfl _ _ (w.heap.size + 1) 146 _ _ _ rfl (two_set _ _ QN.out) Tryz.underlying146 rfl (by kernel_rfl)) rfl ?_
       exact ⟨by rw [HFX.out]; rfl, (EN.out.setCell (a := ⟨w.heap.size + 1, 0, none⟩) _ (by simp)).setCell (a := ⟨w.heap.size + 1, 1, none⟩) _ (by simp)⟩
     ·have u1 := ne_list ht
      have u2 := ne_isE ht
      have HNE := hx (show neS tt = true by simp [neS, ht])
      clear ht
      cases S with
      | true =>
       cases I with
       | true =>
        have h0 : undE L (emS :: M.map (·.name)) k (L.getD k default) = 0 := by rw [HCHK.out, HNE.out]; rfl
        have H0 := hx h0
        clear h0
        go_wp2
        go_roundw
        case rel => exact ⟨k + 1, HLT.out, by go_num, (fun j hj => (Nat.lt_succ_iff_lt_or_eq.1 hj).elim (HN.out j) (fun h => by rw [h]; exact H0.out)), M2.out, P3.out, QN.out, EN.out⟩
        case measure => simp [RowKit.intOf]; omega
       | false =>
        have h0 : undE L (emS :: M.map (·.name)) k (L.getD k default) = 11 := by rw [HCHK.out, HNE.out]; rfl
        have hf := findS_hit (l := L) (by rw [← HM.out]; exact HLT.out) HN.out (by rw [h0]; decide)
        rw [h0] at hf
        have HFX := hx hf
        obtain ⟨y1, y2, z1, z2⟩ := fin4 QN.out
        clear h0 hf
        go_wp2
        refine bodyPost_ret (results_cell_row rfl _ _ (w.heap.size + 1) 146 _ _ _ rfl (two_set _ _ QN.out) Tryz.underlying146 rfl (by kernel_rfl)) rfl ?_
        exact ⟨by rw [HFX.out]; rfl, (EN.out.setCell (a := ⟨w.heap.size + 1, 0, none⟩) _ (by simp)).setCell (a := ⟨w.heap.size + 1, 1, none⟩) _ (by simp)⟩
      | false =>
       have h0 : undE L (emS :: M.map (·.name)) k (L.getD k default) = 11 := by rw [HCHK.out, HNE.out]; rfl
       have hf := findS_hit (l := L) (by rw [← HM.out]; exact HLT.out) HN.out (by rw [h0]; decide)
       rw [h0] at hf
       have HFX := hx hf
       obtain ⟨y1, y2, z1, z2⟩ := fin4 QN.out
       clear h0 hf
       go_wp2
       refine bodyPost_ret (results_cell_row rfl _ _ (w.heap.size + 1) 146 _ _ _ rfl (two_set _ _ QN.out) Tryz.underlying146 rfl (by kernel_rfl)) rfl ?_
       exact ⟨by rw [HFX.out]; rfl, (EN.out.setCell (a := ⟨w.heap.size + 1, 0, none⟩) _ (by simp)).setCell (a := ⟨w.heap.size + 1, 1, none⟩) _ (by simp)⟩
    ·obtain rfl : m = k := by omega
     have hf := findS_none (l := L) (chk := undE L (emS :: M.map (·.name))) (by rw [← HM.out]; exact HN.out)
     have HFX := hx hf
     have g1 := he.cell hn1
     have g2 := he.cell hn2
     obtain ⟨y1, y2, z1, z2⟩ := fin4 q3
     have HE := hx he
     have Q3 := hx q3
     clear hf m2 mp3 q3 he hlt hk HN
     go_wp2
     refine bodyPost_ret (results_cell_row rfl _ _ (w.heap.size + 1) 146 _ _ _ rfl (two_set _ _ Q3.out) Tryz.underlying146 rfl (by kernel_rfl)) rfl ?_
     exact ⟨by rw [HFX.out]; rfl, (HE.out.setCell (a := ⟨w.heap.size + 1, 0, none⟩) _ (by simp)).setCell (a := ⟨w.heap.size + 1, 1, none⟩) _ (by simp)⟩
end Go.Proofs.YtmnbalbiehlkpaaGreatDoor


set_option linter.unusedVariables false
set_option linter.unusedSimpArgs false
namespace Go.Proofs.YtmnbalbiehlkpaaGreatDoor
open Go.RowKit Go.Lib

theorem labI_app : ∀ (a b : List Stmt) (k : Nat) (p : ByteArray → Option Int), labI k (a ++ b) p = labI (k + a.length) b (labI k a p) := by
 intro a
 induction a with
 | nil => intro b k p; rfl
 | cons x a ih => intro b k p; rw [List.cons_append, labI, ih, labI, List.length_cons]; congr 1; omega
theorem labI_none : ∀ (L : List Stmt) (k : Nat) (p : ByteArray → Option Int) (s : ByteArray), (∀ x ∈ L, inL x.labels s = false) → labI k L p s = p s := by
 intro L
 induction L with
 | nil => intro k p s _; rfl
 | cons x l ih =>
  intro k p s h
  rw [labI, ih _ _ _ (fun y hy => h y (List.mem_cons_of_mem _ hy)), h x (List.mem_cons_self ..)]
  rfl
theorem labAt_hit {L : List Stmt} {k : Nat} {x : Stmt} {s : ByteArray} (hx : L[k]? = some x) (hi : inL x.labels s = true) (hn : ∀ j, k < j → j < L.length → inL (L.getD j default).labels s = false) : labAt L s = some (k : Int) := by
 have hk := (List.getElem?_eq_some_iff.1 hx).1
 have hxe := (List.getElem?_eq_some_iff.1 hx).2
 have hsp : L = L.take k ++ x :: L.drop (k + 1) := by
  rw [← hxe, List.getElem_cons_drop, List.take_append_drop]
 have h1 : labAt L s = labAt (L.take k ++ x :: L.drop (k + 1)) s := by rw [← hsp]
 rw [h1]
 unfold labAt
 rw [labI_app, labI, labI_none]
 ·rw [hi, List.length_take, if_pos rfl]; congr 2; omega
 ·intro y hy
  obtain ⟨i, hi2, rfl⟩ := List.mem_iff_getElem.1 hy
  rw [List.length_drop] at hi2
  have := hn (k + 1 + i) (by omega) (by omega)
  rw [List.getD_eq_getElem?_getD, List.getElem?_eq_getElem (by omega)] at this
  rwa [List.getElem_drop]
theorem labAt_none {L : List Stmt} {s : ByteArray} (hn : ∀ j, j < L.length → inL (L.getD j default).labels s = false) : labAt L s = none := by
 unfold labAt
 rw [labI_none]
 intro y hy
 obtain ⟨i, hi, rfl⟩ := List.mem_iff_getElem.1 hy
 have := hn i hi
 rwa [List.getD_eq_getElem?_getD, List.getElem?_eq_getElem hi] at this
theorem inL_hit {l : List ByteArray} {k : Nat} {s : ByteArray} (h : l[k]? = some s) : inL l s = true := by
 unfold inL
 rw [List.any_eq_true]
 exact ⟨s, List.mem_of_getElem? h, by simp⟩
theorem inL_none {l : List ByteArray} {s : ByteArray} (h : ∀ j, j < l.length → l.getD j emS ≠ s) : inL l s = false := by
 unfold inL
 rw [List.any_eq_false]
 intro x hx
 obtain ⟨i, hi, rfl⟩ := List.mem_iff_getElem.1 hx
 have := h i hi
 rw [List.getD_eq_getElem?_getD, List.getElem?_eq_getElem hi] at this
 simpa using this
theorem flat_le : ∀ (L : List Stmt) (x : Stmt), x ∈ L → x.labels.length ≤ (flat L).length := by
 intro L
 induction L with
 | nil => intro x h; cases h
 | cons y l ih =>
  intro x h
  rw [flat_cons, List.length_append]
  rcases List.mem_cons.1 h with rfl | h
  ·omega
  ·have := ih x h; omega
/-- The index of the statement with a label, or -1. -/
def labX (L : List Stmt) (s : ByteArray) : Int := (labAt L s).getD (-1)
set_option maxRecDepth 40000 in
set_option maxHeartbeats 4000000 in
theorem refLabel_any (A1 A2 : Option Addr) (n1 c1 m c2 : Nat) (L : List Stmt) (s : ByteArray) (w : World) (hm : m = L.length) (hml : m ≤ 1000000) (hv : IsStmts w (.slice A2 m c2) L) (hfl : (flat L).length ≤ 1000000) :
  Calls Tryz.prog 46 #[.agg #[.slice A1 n1 c1, .slice A2 m c2], .string s] w fun e w' => e = .returned (.int .i64 (labX L s)) ∧ Ext w w' := by
 obtain ⟨W0, hW0⟩ : ∃ W0, W0 = w.alloc (.cells #[.slice A1 n1 c1, .slice A2 m c2] 25) := ⟨_, rfl⟩
 have e0 : Ext w W0 := by rw [hW0]; exact Ext.new w _
 have q1 : W0.cell? ⟨w.heap.size, 1, none⟩ = some (.slice A2 m c2) := by rw [hW0]; simp
 have hv0 := IsStmts.ext hv e0
 have HM := hx hm
 have E0 := hx e0
 have HFL := hx hfl
 have hw1 : wrap64 ((m : Int) - 1) = (m : Int) - 1 := by unfold wrap64; omega
 rw [hW0] at q1
 clear hm hv e0 hfl
 go_enter Tryz.func46, Tryz.ntmps46
 go_wp2
 rw [← hW0] at q1 ⊢
 clear hW0 hw1
 go_loop [5] (fun i => ∃ (k : Nat) (z : Int), k ≤ m ∧ i = .int .i64 z ∧ z = (k : Int) - 1 ∧ (∀ j, k ≤ j → j < L.length → inL (L.getD j default).labels s = false)) (fun i => (RowKit.intOf i + 1).toNat)
 case atStart => exact ⟨m, _, Nat.le_refl _, rfl, rfl, (by intro j h1 h2; have := HM.out; omega)⟩
 case round =>
  obtain ⟨k, z, hk, rfl, hz, hn⟩ := hrel
  have HN := hx hn
  clear hn
  rcases k with _ | k
  ·obtain rfl : z = -1 := by omega
   have HR := hx (show labX L s = -1 by unfold labX; rw [labAt_none fun j hj => HN.out j (Nat.zero_le _) hj]; rfl)
   clear hz
   go_wp2
   go_ret
   exact ⟨ret_int HR.out.symm, E0.out⟩
  ·obtain rfl : z = (k : Int) := by omega
   obtain ⟨x, hx0⟩ : ∃ x, L[k]? = some x := ⟨_, List.getElem?_eq_getElem (by have := HM.out; omega)⟩
   have hg : L.getD k default = x := by rw [List.getD_eq_getElem?_getD, hx0]; rfl
   obtain ⟨b, o, rfl, vl, d0, dl, -, -, -, -⟩ := hv0.get hx0
   obtain ⟨Al, cl, rfl, -, -, dl'⟩ := dl.form
   have hll : x.labels.length ≤ 1000000 := by
    have h1 := HFL.out
    have h2 : x.labels.length ≤ (flat L).length := by
     exact flat_le L x (List.mem_of_getElem? hx0)
    omega
   have hkm : (k : Int) < (m : Int) := by omega
   have hkg : (k : Int) ≥ 0 := by omega
   have hwk : wrap64 ((k : Int) - 1) = (k : Int) - 1 := by unfold wrap64; omega
   obtain ⟨ll, hl2⟩ : ∃ ll, ll = x.labels.length := ⟨_, rfl⟩
   rw [← hl2] at d0 dl' hll
   have HL2 := hx hl2
   have HX0 := hx hx0
   have HG := hx hg
   have HWK := hx hwk
   clear hz hx0 hg hwk hl2 dl
   go_wp2
   go_loop [6] (fun j => ∃ t : Nat, t ≤ ll ∧ j = .int .i64 (t : Nat) ∧ (∀ u, u < t → x.labels.getD u emS ≠ s)) (fun j => ll - (RowKit.intOf j).toNat)
   case atStart => exact ⟨0, by omega, rfl, (by intro j hj; omega)⟩
   case round =>
    obtain ⟨t, ht, rfl, hn⟩ := hrel
    have HN2 := hx hn
    clear hn
    by_cases hlt : t < ll
    ·obtain ⟨y, hy0⟩ : ∃ y, x.labels[t]? = some y := ⟨_, List.getElem?_eq_getElem (by have := HL2.out; omega)⟩
     have hgy : x.labels.getD t emS = y := by rw [List.getD_eq_getElem?_getD, hy0]; rfl
     obtain ⟨by', oy, rfl, d1, -⟩ := dl'.get hy0
     rw [Nat.mul_one] at d1
     have htl : (t : Int) < (ll : Int) := by omega
     by_cases hys : y = s
     ·subst hys
      have hr : labX L y = (k : Int) := by unfold labX; rw [labAt_hit HX0.out (inL_hit hy0) (fun j h1 h2 => HN.out j (by omega) h2)]; rfl
      have HR := hx hr
      clear hr hy0 hgy
      go_wp2
      go_ret
      exact ⟨ret_int HR.out.symm, E0.out⟩
     ·have hb := str_beq hys
      have HYS := hx (show x.labels.getD t emS ≠ s by rw [hgy]; exact hys)
      clear hys hy0 hgy
      go_wp2
      go_round
      case rel => exact ⟨t + 1, by omega, by go_num, fun u hu => (Nat.lt_succ_iff_lt_or_eq.1 hu).elim (HN2.out u) (fun h => by rw [h]; exact HYS.out)⟩
      case measure => simp [RowKit.intOf]; omega
    ·obtain rfl : ll = t := by omega
     have hin : inL x.labels s = false := inL_none (by rw [← HL2.out]; exact HN2.out)
     have HIN := hx hin
     have hwk := HWK.out
     clear hin
     go_wp2
     go_round
     case rel => exact ⟨k, _, by omega, rfl, rfl, fun j h1 h2 => by
      rcases Nat.lt_or_ge k j with h3 | h3
      ·exact HN.out j (by omega) h2
      ·obtain rfl : j = k := by omega
       rw [HG.out]; exact HIN.out⟩
     case measure => simp [RowKit.intOf]
/-- The index of the map with a name, or -1. -/
def mapX (M : List Def) (s : ByteArray) : Int := ((List.range M.length).findSome? fun i => if (M.getD i default).name = s then some (i : Int) else none).getD (-1)
theorem mapX_hit {M : List Def} {k : Nat} {s : ByteArray} (hk : k < M.length) (hn : ∀ j, j < k → (M.getD j default).name ≠ s) (h : (M.getD k default).name = s) : mapX M s = (k : Int) := by
 unfold mapX
 rw [range_first (fun i => if (M.getD i default).name = s then some (i : Int) else none) M.length k _ hk (fun j hj => if_neg (hn j hj)) (if_pos h)]
 rfl
theorem mapX_none {M : List Def} {s : ByteArray} (hn : ∀ j, j < M.length → (M.getD j default).name ≠ s) : mapX M s = -1 := by
 unfold mapX
 have : ((List.range M.length).findSome? fun i => if (M.getD i default).name = s then some (i : Int) else none) = none := by
  rw [List.findSome?_eq_none_iff]
  intro x hx
  exact if_neg (hn x (by simpa using hx))
 rw [this]
 rfl
set_option maxRecDepth 40000 in
set_option maxHeartbeats 4000000 in
theorem refMap_any (A1 A2 : Option Addr) (m c1 n2 c2 : Nat) (M : List Def) (s : ByteArray) (w : World) (hm : m = M.length) (hml : m ≤ 1000000) (hv : IsDefs w (.slice A1 m c1) M) :
  Calls Tryz.prog 47 #[.agg #[.slice A1 m c1, .slice A2 n2 c2], .string s] w fun e w' => e = .returned (.int .i64 (mapX M s)) ∧ Ext w w' := by
 obtain ⟨W0, hW0⟩ : ∃ W0, W0 = w.alloc (.cells #[.slice A1 m c1, .slice A2 n2 c2] 25) := ⟨_, rfl⟩
 have e0 : Ext w W0 := by rw [hW0]; exact Ext.new w _
 have q1 : W0.cell? ⟨w.heap.size, 0, none⟩ = some (.slice A1 m c1) := by rw [hW0]; simp
 have hv0 := IsDefs.ext hv e0
 have HM := hx hm
 have E0 := hx e0
 clear hm hv e0
 go_enter Tryz.func47, Tryz.ntmps47
 go_wp2
 rw [← hW0]
 clear hW0
 go_loop [5] (fun i => ∃ k : Nat, k ≤ m ∧ i = .int .i64 (k : Nat) ∧ (∀ j, j < k → (M.getD j default).name ≠ s)) (fun i => m - (RowKit.intOf i).toNat)
 case atStart => exact ⟨0, by omega, rfl, (by intro j hj; omega)⟩
 case round =>
  obtain ⟨k, hk, rfl, hn⟩ := hrel
  have HN := hx hn
  clear hn
  by_cases hlt : k < m
  ·obtain ⟨x, hx0⟩ : ∃ x, M[k]? = some x := ⟨_, List.getElem?_eq_getElem (by have := HM.out; omega)⟩
   have hg : M.getD k default = x := by rw [List.getD_eq_getElem?_getD, hx0]; rfl
   obtain ⟨b, o, rfl, ⟨d1, -, -, -⟩, -⟩ := hv0.get hx0
   have hkm : (k : Int) < (m : Int) := by omega
   have HG := hx hg
   have HLT := hx hlt
   clear hx0 hg
   by_cases hs : x.name = s
   ·have hr : mapX M s = (k : Int) := mapX_hit (by rw [← HM.out]; exact hlt) HN.out (by rw [HG.out]; exact hs)
    have HR := hx hr
    rw [hs] at d1
    clear hr hs hlt
    go_wp2
    go_ret
    exact ⟨ret_int HR.out.symm, E0.out⟩
   ·have hb := str_beq hs
    have HS := hx (show (M.getD k default).name ≠ s by rw [HG.out]; exact hs)
    clear hs hlt
    go_wp2
    go_round
    case rel => exact ⟨k + 1, HLT.out, by go_num, fun j hj => (Nat.lt_succ_iff_lt_or_eq.1 hj).elim (HN.out j) (fun h => by rw [h]; exact HS.out)⟩
    case measure => simp [RowKit.intOf]; omega
  ·obtain rfl : m = k := by omega
   have HR := hx (mapX_none (M := M) (s := s) (by rw [← HM.out]; exact HN.out))
   go_wp2
   go_ret
   exact ⟨ret_int HR.out.symm, E0.out⟩
end Go.Proofs.YtmnbalbiehlkpaaGreatDoor


set_option linter.unusedVariables false
set_option linter.unusedSimpArgs false
namespace Go.Proofs.YtmnbalbiehlkpaaGreatDoor
open Go.RowKit Go.Lib

/-- The instructions of statements. -/
def codeL (L : List Stmt) : List Ins := L.map (·.ins)
theorem codeL_get {L : List Stmt} {k : Nat} {x : Stmt} (h : L[k]? = some x) : (codeL L)[k]? = some x.ins := by simp [codeL, h]
theorem stmts_ok {w : World} {v : Value} {L : List Stmt} (h : IsStmts w v L) : ∀ x ∈ codeL L, x.Ok := by
 intro x hx
 obtain ⟨s, hs, rfl⟩ := List.mem_map.1 hx
 exact Sl.all (p := fun s : Stmt => s.ins.Ok) h (fun b o x k => by obtain ⟨_, _, _, _, h5, _⟩ := k; exact h5) s hs
theorem mapX_bd (M : List Def) (s : ByteArray) : -1 ≤ mapX M s ∧ mapX M s < (M.length : Int) + 1 := by
 unfold mapX
 cases h : ((List.range M.length).findSome? fun i => if (M.getD i default).name = s then some (i : Int) else none) with
 | none => simp; omega
 | some r =>
  obtain ⟨k, hk, hr⟩ := List.exists_of_findSome?_eq_some h
  have hk' : k < M.length := by simpa using hk
  split at hr
  ·injection hr with hr; subst hr; simp; omega
  ·cases hr
end Go.Proofs.YtmnbalbiehlkpaaGreatDoor


set_option linter.unusedVariables false
set_option linter.unusedSimpArgs false
namespace Go.Proofs.YtmnbalbiehlkpaaGreatDoor
open Go.RowKit Go.Lib

theorem flat_set6 : ∀ (l : List Ins) (k : Nat) (x : Ins), k < l.length → ((((((l.flatMap Ins.enc).set (k * 6) (.int .i64 x.op)).set (k * 6 + 1) (.bool x.reg)).set (k * 6 + 2) (.int .i64 x.dst)).set (k * 6 + 3) (.int .i64 x.src)).set (k * 6 + 4) (.int .i64 x.off)).set (k * 6 + 5) (.int .i64 x.imm) = (l.set k x).flatMap Ins.enc := by
 intro l
 induction l with
 | nil => intro k x h; simp at h
 | cons y t ih =>
  intro k x h
  rcases k with _ | k
  ·simp [Ins.enc]
  ·have h6 : ∀ j, (k + 1) * 6 + j = (y.enc).length + (k * 6 + j) := fun j => by simp [Ins.enc]; omega
   have h60 : (k + 1) * 6 = (y.enc).length + k * 6 := by simp [Ins.enc]; omega
   rw [List.flatMap_cons, List.set_cons_succ, List.flatMap_cons, ← ih k x (by simpa using h), h60]
   have e : ∀ (a b : List Value) (j : Nat) (u : Value), (a ++ b).set (a.length + j) u = a ++ b.set j u := fun a b j u => by
    rw [List.set_append_right _ _ (by omega), Nat.add_sub_cancel_left]
   rw [e, Nat.add_assoc, e, Nat.add_assoc, e, Nat.add_assoc, e, Nat.add_assoc, e, Nat.add_assoc, e]
def put6 (W : World) (g k : Nat) (x : Ins) : World :=
 (((((W.setCell ⟨g, k * 6, none⟩ (.int .i64 x.op)).setCell ⟨g, k * 6 + 1, none⟩ (.bool x.reg)).setCell ⟨g, k * 6 + 2, none⟩ (.int .i64 x.dst)).setCell ⟨g, k * 6 + 3, none⟩ (.int .i64 x.src)).setCell ⟨g, k * 6 + 4, none⟩ (.int .i64 x.off)).setCell ⟨g, k * 6 + 5, none⟩ (.int .i64 x.imm)
theorem OwnN.put {w : World} {base g cap n : Nat} {l : List Ins} (h : OwnN w base (.slice (some ⟨g, 0, none⟩) n cap) l) (k : Nat) (x : Ins) (hk : k < l.length) (hn : n = l.length) :
  OwnN (put6 w g k x) base (.slice (some ⟨g, 0, none⟩) n cap) (l.set k x) ∧ w.grownBy (put6 w g k x) (some g) := by
 subst hn
 obtain ⟨s1, g1⟩ := World.ownsRow.stored (h : w.ownsRow _ _ _ _ _ _) (k * 6) (.int .i64 x.op)
 obtain ⟨s2, g2⟩ := World.ownsRow.stored s1 (k * 6 + 1) (.bool x.reg)
 obtain ⟨s3, g3⟩ := World.ownsRow.stored s2 (k * 6 + 2) (.int .i64 x.dst)
 obtain ⟨s4, g4⟩ := World.ownsRow.stored s3 (k * 6 + 3) (.int .i64 x.src)
 obtain ⟨s5, g5⟩ := World.ownsRow.stored s4 (k * 6 + 4) (.int .i64 x.off)
 obtain ⟨s6, g6⟩ := World.ownsRow.stored s5 (k * 6 + 5) (.int .i64 x.imm)
 rw [flat_set6 l k x hk] at s6
 refine ⟨?_, ((((g1.trans g2).trans g3).trans g4).trans g5).trans g6⟩
 show World.ownsRow _ _ _ _ _ _ _
 rw [List.length_set]
 exact s6
theorem Own.frz {α : Type} {e : TypeId} {sz : Nat} {enc : α → List Value} {w : World} {base g n cap : Nat} {l : List α} (h : Own e sz enc w base (.slice (some ⟨g, 0, none⟩) n cap) l) (j : Nat) : w.frozen? ⟨g, j, none⟩ = false := by
 rcases h.2 with ⟨h', _⟩ | ⟨g', cap', cur, h', hb, hg, _⟩
 ·simp at h'
 ·injection h' with h' _ _
  injection h' with h'
  injection h' with h' _ _
  subst h'
  simp [World.frozen?, hg]
theorem OwnN.at {w : World} {base g n cap : Nat} {l : List Ins} (h : OwnN w base (.slice (some ⟨g, 0, none⟩) n cap) l) (hl : l.length ≤ 1000000) {k : Nat} {x : Ins} (hx : l[k]? = some x) : CIns w g (k * 6) x := by
 have hs : Sl 6 CIns w (.slice (some ⟨g, 0, none⟩) n cap) l := Own.read encN_ok h (by omega) fun x hx b o hh => ⟨by simpa using hh 0 _ rfl, hh 1 _ rfl, hh 2 _ rfl, hh 3 _ rfl, hh 4 _ rfl, hh 5 _ rfl⟩
 obtain ⟨b, o, e, hE⟩ := hs.get hx
 injection e with e
 injection e with e1 e2 _
 subst e1 e2
 rwa [Nat.zero_add] at hE
end Go.Proofs.YtmnbalbiehlkpaaGreatDoor


set_option linter.unusedVariables false
set_option linter.unusedSimpArgs false
namespace Go.Proofs.YtmnbalbiehlkpaaGreatDoor
open Go.RowKit Go.Lib

abbrev OwnBo := Own 4 1 (fun x : Bool => [Value.bool x])
theorem madeBo (n : Nat) : (madeCells #[.bool false] (n * 1)).toList = (List.replicate n false).flatMap fun x => [Value.bool x] := by
 rw [flat1, List.map_replicate]
 apply List.ext_getElem?
 intro i
 by_cases hi : i < n
 ·simp [madeCells, List.getElem?_replicate, hi, Nat.mod_one]
 ·simp [madeCells, List.getElem?_replicate, hi]
theorem makeBo (W : World) (base n : Nat) (hn : n ≤ 1000000) (hb : base ≤ W.heap.size) : ∃ W1, (Instr.makeSlice 88 (.int .i64 (n : Int)) (.int .i64 (n : Int))).run Tryz.prog W = .ok (.slice (some ⟨W.heap.size, 0, none⟩) n n) W1 ∧
  OwnBo W1 base (.slice (some ⟨W.heap.size, 0, none⟩) n n) (List.replicate n false) ∧ W.grownBy W1 none := by
 have hi : (Tryz.prog.info? 4).map (fun i => (i.zero, i.size, i.bytes)) = some (some (.bool false), 1, 1) := by kernel_rfl
 obtain ⟨i, hi1, hi2⟩ := Option.map_eq_some_iff.1 hi
 simp only [Prod.mk.injEq] at hi2
 obtain ⟨hz, hsz, hby⟩ := hi2
 obtain ⟨W1, hrun, hown, hgr⟩ := run_makeSlice_full W base 88 4 i _ 1 Tryz.underlying88 hi1 hz hsz .i64 .i64 n (by omega) (by rw [hby]; omega) (by simp only [maxLen]; omega) hb
 have hm : (madeCells (Value.cells (.bool false)) (n * 1)).toList = (List.replicate n false).flatMap fun x => [Value.bool x] := madeBo n
 rw [hm] at hown
 refine ⟨W1, hrun, ?_, hgr⟩
 show World.ownsRow _ _ _ _ _ _ _
 rw [List.length_replicate]
 exact hown
theorem OwnBo.get {w : World} {base g n cap k : Nat} {s : List Bool} {b : Bool} (h : OwnBo w base (.slice (some ⟨g, 0, none⟩) n cap) s) (hn : n = s.length) (hk : s[k]? = some b) : w.cell? ⟨g, k, none⟩ = some (.bool b) := by
 subst hn
 have hlt := (List.getElem?_eq_some_iff.1 hk).1
 rw [World.ownsRow.cellAt (h : w.ownsRow _ _ _ _ _ _) k (by omega), flat1, List.getElem?_map, hk]
 rfl
theorem flatBo_set (s : List Bool) (k : Nat) (b : Bool) : (s.flatMap fun x => [Value.bool x]).set k (.bool b) = (s.set k b).flatMap fun x => [Value.bool x] := by
 rw [flat1, flat1, List.map_set]
theorem OwnBo.put {w : World} {base g n cap : Nat} {s : List Bool} (h : OwnBo w base (.slice (some ⟨g, 0, none⟩) n cap) s) (hn : n = s.length) (k : Nat) (b : Bool) :
  OwnBo (w.setCell ⟨g, k, none⟩ (.bool b)) base (.slice (some ⟨g, 0, none⟩) n cap) (s.set k b) ∧ w.grownBy (w.setCell ⟨g, k, none⟩ (.bool b)) (some g) := by
 subst hn
 obtain ⟨s1, g1⟩ := World.ownsRow.stored (h : w.ownsRow _ _ _ _ _ _) k (.bool b)
 rw [flatBo_set] at s1
 refine ⟨?_, g1⟩
 show World.ownsRow _ _ _ _ _ _ _
 rw [List.length_set]
 exact s1
theorem OwnI.pop {w : World} {base g n cap : Nat} {l : List Int} {x : Int} (h : OwnI w base (.slice (some ⟨g, 0, none⟩) (n + 1) cap) (l ++ [x])) (hn : n = l.length) : OwnI w base (.slice (some ⟨g, 0, none⟩) n cap) l := by
 subst hn
 rcases h.2 with ⟨h', _⟩ | ⟨g', cap', cur, h', hb, hg, hc1, hc2, hs, ht⟩
 ·simp at h'
 ·refine ⟨by rw [flat1]; simp, .inr ⟨g', cap', cur, ?_, hb, hg, by simp at hc1; omega, hc2, hs, ?_⟩⟩
  ·injection h' with h1 h2 h3
   rw [h1, h3]
  ·rw [flat1] at ht ⊢
   have h1 := congrArg (List.take (l.length * 1)) ht
   rw [List.take_take, Nat.min_eq_left (by simp)] at h1
   rw [h1]
   simp
theorem OwnI.get {w : World} {base g n cap k : Nat} {l : List Int} {x : Int} (h : OwnI w base (.slice (some ⟨g, 0, none⟩) n cap) l) (hn : n = l.length) (hk : l[k]? = some x) : w.cell? ⟨g, k, none⟩ = some (.int .i64 x) := by
 subst hn
 have hlt := (List.getElem?_eq_some_iff.1 hk).1
 rw [World.ownsRow.cellAt (h : w.ownsRow _ _ _ _ _ _) k (by omega), flat1, List.getElem?_map, hk]
 rfl
end Go.Proofs.YtmnbalbiehlkpaaGreatDoor


set_option linter.unusedVariables false
set_option linter.unusedSimpArgs false
namespace Go.Proofs.YtmnbalbiehlkpaaGreatDoor
open Go.RowKit Go.Lib

set_option maxRecDepth 20000 in
set_option maxHeartbeats 1000000 in
theorem rules3_some (A1 A2 : Option Addr) (n1 c1 m c2 : Nat) (hm : 0 < m) (w : World) :
  Calls Tryz.prog 163 #[.agg #[.slice A1 n1 c1, .slice A2 m c2]] w fun e w' => e = .returned (findV (0, 0)) ∧ Ext w w' := by
 have hw := hx fun W => when_any false 15 W
 have p3 := heap_alloc_new (w.alloc (.cells #[.slice A1 n1 c1, .slice A2 m c2] 25)) (.cells #[.int .i64 0, .int .i64 0] 146)
 rw [World.size_alloc] at p3
 have e0 := (Ext.new w (.cells #[.slice A1 n1 c1, .slice A2 m c2] 25)).alloc (.cells #[.int .i64 0, .int .i64 0] 146)
 have hb : ((m : Int) == 0) = false := by simp; omega
 go_enter Tryz.func163, Tryz.ntmps163
 go_wp2_with (first | (go_at_call 159; refine (hw.out _).mono ?_; rintro e w' ⟨rfl, rfl⟩))
 refine bodyPost_ret (results_cell_row rfl _ _ (w.heap.size + 1) 146 _ _ _ rfl p3 Tryz.underlying146 rfl (by kernel_rfl)) rfl ?_
 exact ⟨rfl, e0⟩
set_option maxRecDepth 40000 in
set_option maxHeartbeats 2000000 in
theorem rules4_any (A1 A2 : Option Addr) (n1 c1 n2 c2 : Nat) (ix : Int) (A : Option Addr) (n c : Nat) (s : Stmt) (w : World) (hok : s.ins.Ok) (hO : OpsQ s.ins.op w) :
  Calls Tryz.prog 165 #[.agg #[.slice A1 n1 c1, .slice A2 n2 c2], .int .i64 ix, StV A n c s] w fun e w' => e = .returned (.int .i64 (whenN (writesX s.ins == 10) 14)) ∧ Ext w w' := by
 have HW := hx when_any
 have e0 := (Ext.new w (.cells #[.slice A1 n1 c1, .slice A2 n2 c2] 25)).alloc (.cells (stL A n c s).toArray 55)
 have hc := insnWrites_any s.ins _ hok (hO.ext e0)
 unfold StV
 unfold Ins.v stL at hc
 obtain ⟨labels, ⟨op, reg, n1', n2', n3', n4'⟩, tt, tm⟩ := s
 simp only [stL] at *
 generalize writesX ⟨op, reg, n1', n2', n3', n4'⟩ = X at *
 have HC := hx hc
 have E0 := hx e0
 clear hc e0 hok hO
 go_enter Tryz.func165, Tryz.ntmps165
 go_wp2_with fail
 refine HC.out.mono ?_
 rintro e w1 ⟨rfl, e1⟩
 go_wp2_with (go_at_call 159; refine (HW.out _ _ _).mono ?_; rintro e w4 ⟨rfl, rfl⟩)
 go_ret
 exact ⟨ret_int (by simp), E0.out.trans e1⟩
set_option maxRecDepth 40000 in
set_option maxHeartbeats 2000000 in
theorem rules5_any (A1 A2 : Option Addr) (n1 c1 m c2 i : Nat) (A : Option Addr) (n c : Nat) (s : Stmt) (w : World) (hok : s.ins.Ok) (hO : OpsQ s.ins.op w) (hi : i < m) (hm : m ≤ 1000000) :
  Calls Tryz.prog 167 #[.agg #[.slice A1 n1 c1, .slice A2 m c2], .int .i64 (i : Nat), StV A n c s] w fun e w' => e = .returned (.int .i64 (whenN (decide (i + 1 = m) && !endsX s.ins) 15)) ∧ Ext w w' := by
 have HW := hx when_any
 have e0 := (Ext.new w (.cells #[.slice A1 n1 c1, .slice A2 m c2] 25)).alloc (.cells (stL A n c s).toArray 55)
 have hc := insnEnds_any s.ins _ hok (hO.ext e0)
 unfold StV
 unfold Ins.v stL at hc
 obtain ⟨j, hj⟩ : ∃ j, m = j + 1 := ⟨m - 1, by omega⟩
 have hk1 : (m : Int) - 1 = (j : Int) := by omega
 have hw1 : wrap64 (j : Int) = (j : Int) := by unfold wrap64; omega
 obtain ⟨labels, ⟨op, reg, n1', n2', n3', n4'⟩, tt, tm⟩ := s
 simp only [stL] at *
 generalize endsX ⟨op, reg, n1', n2', n3', n4'⟩ = X at *
 have HC := hx hc
 have E0 := hx e0
 clear hc e0 hok hO
 by_cases hij : i = j
 ·have hd : decide (i + 1 = m) = true := decide_eq_true (by omega)
  have hb : ((i : Int) == (j : Int)) = true := by simp; omega
  have HD := hx hd
  clear hd hij hj hi hm
  go_enter Tryz.func167, Tryz.ntmps167
  go_wp2_with fail
  refine HC.out.mono ?_
  rintro e w1 ⟨rfl, e1⟩
  go_wp2_with (go_at_call 159; refine (HW.out _ _ _).mono ?_; rintro e w4 ⟨rfl, rfl⟩)
  go_ret
  exact ⟨ret_int (by rw [HD.out]; simp), E0.out.trans e1⟩
 ·have hd : decide (i + 1 = m) = false := decide_eq_false (by omega)
  have hb : ((i : Int) == (j : Int)) = false := by simp; omega
  have HD := hx hd
  clear hd hij hj hi hm
  go_enter Tryz.func167, Tryz.ntmps167
  go_wp2_with (go_at_call 159; refine (HW.out _ _ _).mono ?_; rintro e w4 ⟨rfl, rfl⟩)
  go_ret
  exact ⟨ret_int (by rw [HD.out]; simp), E0.out⟩
end Go.Proofs.YtmnbalbiehlkpaaGreatDoor
