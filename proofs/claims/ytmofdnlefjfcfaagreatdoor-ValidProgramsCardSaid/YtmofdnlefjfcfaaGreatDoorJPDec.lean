/- The layer prog: declared. -/
import Derived.Test.YtmofdnlefjfcfaaGreatDoorJTgtR
import Derived.Test.YtmofdnlefjfcfaaGreatDoorJSlot
import Derived.Test.YtmofdnlefjfcfaaGreatDoorJRegP
import Derived.Deep.RegionHeld3
import Derived.Deep.QuietTactic
import Derived.BigQuiet
import Derived.Test.YtmofdnlefjfcfaaGreatDoorJObj
set_option linter.unusedVariables false
set_option linter.unusedSimpArgs false
namespace Go.Proofs.YtmofdnlefjfcfaaGreatDoor
open Go.RowKit Go.Lib

/-- m[s] = x while a map is built, as an operation. -/
theorem wp_mapIns {ops : Array Oper} {rest : List Oper} {o : Oper} {a : Act} {Q : Exit → Act → World → Prop} {w : World} {b n : Nat} {p : ByteArray → Bool} (h : SetS w b n p) (s : ByteArray) (hs : s.size ≤ 140737488355328) (hn : n < 1000000000) (x : Bool) (hgd : o.guard = none) {m k v : Operand}
  (ho : o.op = .insert 212 m k v) (hm : a.eval m = .map (some b)) (hk : a.eval k = .string s) (hv : a.eval v = .bool x)
  (hK : ∀ w', SetS w' b (n + 1) (fun y => if y = s then x else p y) → w.grownBy w' (some b) → wpList Tryz.prog ops Q rest (a.put o.dst undef) w') : wpList Tryz.prog ops Q (o :: rest) a w := by
 refine wpList_plain hgd fun K hK' => ?_
 obtain ⟨w', hr, h1, h2⟩ := h.upd s hs hn x
 unfold Oper.wp
 simp [execOp, ho, hm, hk, hv, hr, Result.andThen]
 exact hK' _ _ (hK w' h1 h2)
def undB (L : List Stmt) (N : List ByteArray) (s : Stmt) : Bool := (neS s.target && !(labAt L s.target).isSome) || !(inL N s.map)
def undE (L : List Stmt) (N : List ByteArray) (_ : Nat) (s : Stmt) : Int := if undB L N s then 11 else 0
theorem MapS.lt {w : World} {b n : Nat} {p : ByteArray → Option Int} (h : MapS w b n p) : b < w.heap.size := by
 obtain ⟨D, h1, _⟩ := h
 exact h1.lt
set_option maxRecDepth 40000 in
set_option maxHeartbeats 8000000 in
theorem declared_any (A1 A2 : Option Addr) (m1 c1 m c2 : Nat) (M : List Def) (L : List Stmt) (w : World) (hm1 : m1 = M.length) (hm1l : m1 ≤ 1000000) (hm : m = L.length) (hml : m ≤ 1000000) (hd : IsDefs w (.slice A1 m1 c1) M) (hv : IsStmts w (.slice A2 m c2) L) (hfl : (flat L).length ≤ 1000000)
  (hn1 : w.cell? ⟨0, 0, none⟩ = some (.int .i64 0)) (hn2 : w.cell? ⟨0, 1, none⟩ = some (.int .i64 0)) :
  Calls Tryz.prog 135 #[.agg #[.slice A1 m1 c1, .slice A2 m c2]] w fun e w' => e = .returned (findV (findS (undE L (emS :: M.map (·.name))) L)) ∧ Ext w w' := by
 obtain ⟨W0, hW0⟩ : ∃ W0, W0 = (w.alloc (.cells #[.slice A1 m1 c1, .slice A2 m c2] 25)).alloc (.cells #[.int .i64 0, .int .i64 0] 126) := ⟨_, rfl⟩
 have e0 : Ext w W0 := by rw [hW0]; exact (Ext.new w _).alloc _
 have rP : RowV W0 w.heap.size 25 [.slice A1 m1 c1, .slice A2 m c2] := by
  rw [hW0]
  exact (RowV.new w [.slice A1 m1 c1, .slice A2 m c2] 25).ext (Ext.new _ _)
 have p3 : W0.heap[w.heap.size + 1]? = some (.cells #[.int .i64 0, .int .i64 0] 126 (0, 0)) := by
  rw [hW0]
  have h := heap_alloc_new (w.alloc (.cells #[.slice A1 m1 c1, .slice A2 m c2] 25)) (.cells #[.int .i64 0, .int .i64 0] 126)
  rwa [World.size_alloc] at h
 have hLB := Labels_any A1 A2 m1 c1 m c2 L W0 hm hml (IsStmts.ext hv e0) hfl
 have hs0 : W0.heap.size = w.heap.size + 1 + 1 := by rw [hW0]; simp
 rw [hW0] at hLB
 have HLB := hx hLB
 have HW0 := hx hW0
 have HM := hx hm
 have HM1 := hx hm1
 have hmm := @run_makeMap Tryz.prog
 have HMM := hx hmm
 clear hLB hW0 hm hm1 hfl hmm
 go_enter Tryz.func135, Tryz.ntmps135
 go_wp2_with fail
 refine HLB.out.mono ?_
 rintro e w1 ⟨b1, rfl, mp1, e1⟩
 rw [← HW0.out] at e1
 have rP1 := rP.ext e1
 have r3 := e1.obj p3
 have E1 := e0.trans e1
 have hs1 : w.heap.size + 1 + 1 ≤ w1.heap.size := by rw [← hs0]; exact e1.size
 have hb1 := mp1.lt
 have hM0 := SetS.made w1
 have mp2 := mp1.ext (Ext.new w1 (.map #[] 0))
 have x2 := Ext.new w1 (.map #[] 0)
 clear rP p3 HLB HW0 e0 e1
 have hmm := HMM.out
 go_upto_region 2 with fail
 go_wp2_with (refine wp_mapIns hM0 emS (by decide) (by omega) true rfl rfl (by rfl) (by rfl) (by rfl) ?_; intro w2 m2 g2; have rP2 := (rP1.ext x2).keep g2 (by simp; omega); have q1 := rP2.cell (i := 0) rfl; have q2 := rP2.cell (i := 1) rfl)
 have hfe : (fun y => if y = emS then true else false) = inL [emS] := by
  funext y
  by_cases h : y = emS
  ·subst h; rfl
  ·rw [if_neg h]; simp [inL]; exact fun e => h e.symm
 rw [hfe] at m2
 have e2 := (E1.trans x2).grown g2 (fun k hk => by cases hk; omega)
 have mp3 := mp2.kept g2 (by simp; omega)
 have q3 : w2.heap[w.heap.size + 1]? = some (.cells #[.int .i64 0, .int .i64 0] 126 (0, 0)) := (g2.block _ (by simp; omega) (by simp; omega)).trans (x2.obj r3)
 obtain ⟨b2, hb2⟩ : ∃ b2, b2 = w1.heap.size := ⟨_, rfl⟩
 have hb12 : b1 ≠ b2 := by omega
 have hbw : w.heap.size + 1 < b2 := by omega
 rw [← hb2] at m2 ⊢
 clear hb2 hfe g2 hM0 mp1 mp2 x2 E1 rP1 r3 hs1 hb1 hs0 hmm HMM q1
 go_loopw [18] (fun i wr => ∃ k : Nat, k ≤ m1 ∧ i = .int .i64 (k : Nat) ∧ SetS wr b2 (1 + k) (inL (emS :: (M.take k).map (·.name))) ∧ MapS wr b1 (flat L).length (labAt L) ∧ RowV wr w.heap.size 25 [.slice A1 m1 c1, .slice A2 m c2] ∧ wr.heap[w.heap.size + 1]? = some (.cells #[.int .i64 0, .int .i64 0] 126 (0, 0)) ∧ Ext w wr) (fun i _ => m1 - (RowKit.intOf i).toNat)
 case atStart => exact ⟨0, by omega, rfl, m2, mp3, rP2, q3, e2⟩
 case round =>
  clear m2 mp3 rP2 q3 e2 q2
  obtain ⟨k, hk, rfl, m2, mp3, rP2, q3, he⟩ := hrel
  by_cases hlt : k < m1
  ·obtain ⟨x, hx0⟩ : ∃ x, M[k]? = some x := ⟨_, List.getElem?_eq_getElem (by have := HM1.out; omega)⟩
   obtain ⟨bx, ox, rfl, ⟨d1, d2, d3, d4⟩, dok⟩ := (IsDefs.ext hd he).get hx0
   have hnm := dok.name
   have htk : (M.take (k + 1)).map (·.name) = (M.take k).map (·.name) ++ [x.name] := by rw [List.take_add_one, hx0]; simp
   have hfun : (fun z => if z = x.name then true else inL (emS :: (M.take k).map (·.name)) z) = inL (emS :: (M.take (k + 1)).map (·.name)) := by
    funext z
    rw [htk, ← List.cons_append, inL_snoc]
    by_cases h1 : z = x.name
    ·subst h1; simp
    ·have h1' : ¬ x.name = z := fun e => h1 e.symm
     rw [if_neg h1, decide_eq_false h1', Bool.or_false]
   have HFUN := hx hfun
   have hkm : (k : Int) < (m1 : Int) := by omega
   have eN := Ext.new wr (.cells #[.string x.name, .int .i64 x.key, .int .i64 x.val, .int .i64 x.ents] 65)
   have mN := m2.ext eN
   have pN := mp3.ext eN
   have rN := rP2.ext eN
   have qN := eN.obj q3
   have xN := he.trans eN
   obtain ⟨nm, ky, vl, en⟩ := x
   dsimp only at *
   have HLT := hx hlt
   clear m2 mp3 rP2 q3 he hx0 htk hfun dok hlt eN
   go_wp2_with (refine wp_mapUpd mN nm hnm (by omega) true rfl rfl (by rfl) (by rfl) (by rfl) ?_; intro w3 m3 g3)
   have e3 := xN.grown g3 (fun k hk => by cases hk; omega)
   have p3 := pN.kept g3 (by simpa using hb12)
   have r3 := rN.keep g3 (by simp; omega)
   have q3 := (g3.block (w.heap.size + 1) (Array.getElem?_eq_some_iff.1 qN).1 (by simp; omega)).trans qN
   rw [HFUN.out] at m3
   clear g3 mN pN rN qN xN d1 d2 d3 d4
   go_roundw
   case rel => exact ⟨k + 1, HLT.out, by go_num, by simpa [Nat.add_assoc] using m3, p3, r3, q3, e3⟩
   case measure => simp [RowKit.intOf]; omega
  ·obtain rfl : m1 = k := by omega
   rw [List.take_of_length_le (by rw [← HM1.out]; exact Nat.le_refl _)] at m2
   have q2 := rP2.cell (i := 1) rfl
   go_wp2
   clear q2 hlt hk
   go_loopw [29] (fun i wr => ∃ k : Nat, k ≤ m ∧ i = .int .i64 (k : Nat) ∧ (∀ j, j < k → undE L (emS :: M.map (·.name)) j (L.getD j default) = 0) ∧ SetS wr b2 (1 + m1) (inL (emS :: M.map (·.name))) ∧ MapS wr b1 (flat L).length (labAt L) ∧ wr.heap[w.heap.size + 1]? = some (.cells #[.int .i64 0, .int .i64 0] 126 (0, 0)) ∧ Ext w wr) (fun i _ => m - (RowKit.intOf i).toNat)
   case atStart => exact ⟨0, by omega, rfl, (by intro j hj; omega), m2, mp3, q3, he⟩
   case round =>
    clear m2 mp3 q3 he rP2
    obtain ⟨k, hk, rfl, hn, m2, mp3, q3, he⟩ := hrel
    have HN := hx hn
    clear hn
    by_cases hlt : k < m
    ·obtain ⟨x, hx0⟩ : ∃ x, L[k]? = some x := ⟨_, List.getElem?_eq_getElem (by have := HM.out; omega)⟩
     have hg : L.getD k default = x := by rw [List.getD_eq_getElem?_getD, hx0]; rfl
     obtain ⟨b, o, rfl, vl, d0, dl, ⟨d1, d2, d3, d4, d5, d6⟩, dok, ⟨d7, d7'⟩, d8, d8'⟩ := (IsStmts.ext hv he).get hx0
     obtain ⟨Al, cl, rfl, -, -, dl'⟩ := dl.form
     have hkm : (k : Int) < (m : Int) := by omega
     have eN := Ext.new wr (.cells (stL Al x.labels.length cl x).toArray 55)
     have hlk1 := (mp3.ext eN).look x.target d7'
     have hlk2 := (m2.ext eN).look x.map d8'
     have hchk : undE L (emS :: M.map (·.name)) k (L.getD k default) = if (neS x.target && !(labAt L x.target).isSome) || !(inL (emS :: M.map (·.name)) x.map) then 11 else 0 := by rw [hg]; rfl
     have HCHK := hx hchk
     have HLT := hx hlt
     have M2 := hx (m2.ext eN)
     have P3 := hx (mp3.ext eN)
     have qN := eN.obj q3
     have EN := hx (he.trans eN)
     obtain ⟨labels, ⟨op, reg, n1', n2', n3', n4'⟩, tt, tm⟩ := x
     simp only [stL] at *
     generalize labels.length = ll at *
     generalize (labAt L tt).isSome = S at *
     generalize (labAt L tt).getD 0 = G at *
     generalize inL (emS :: M.map (·.name)) tm = I at *
     have QN := hx qN
     clear hchk m2 mp3 q3 he hlt hg hx0 dl dl' dok d7' d8' eN qN
     by_cases ht : tt = emS
     ·subst ht
      have u1 := em_list
      have u2 := em_isE
      have HNE := hx (show neS emS = false by simp [neS])
      cases I with
      | true =>
       have h0 : undE L (emS :: M.map (·.name)) k (L.getD k default) = 0 := by rw [HCHK.out, HNE.out]; rfl
       have H0 := hx h0
       clear h0
       go_wp2
       go_roundw
       case rel => exact ⟨k + 1, HLT.out, by go_num, (fun j hj => (Nat.lt_succ_iff_lt_or_eq.1 hj).elim (HN.out j) (fun h => by rw [h]; exact H0.out)), M2.out, P3.out, QN.out, EN.out⟩
       case measure => simp [RowKit.intOf]; omega
      | false =>
       have h0 : undE L (emS :: M.map (·.name)) k (L.getD k default) = 11 := by rw [HCHK.out, HNE.out]; rfl
       have hf := findS_hit (l := L) (by rw [← HM.out]; exact HLT.out) HN.out (by rw [h0]; decide)
       rw [h0] at hf
       have HFX := hx hf
       obtain ⟨y1, y2, z1, z2⟩ := fin4 QN.out
       clear h0 hf
       go_wp2
       refine bodyPost_ret (results_cell_row rfl _ _ (w.heap.size + 1) 126 _ _ _ rfl (two_set _ _ QN.out) Tryz.underlying126 rfl (by kernel_rfl)) rfl ?_
       exact ⟨by rw [HFX.out]; rfl, (EN.out.setCell (a := ⟨w.heap.size + 1, 0, none⟩) _ (by simp)).setCell (a := ⟨w.heap.size + 1, 1, none⟩) _ (by simp)⟩
     ·have u1 := ne_list ht
      have u2 := ne_isE ht
      have HNE := hx (show neS tt = true by simp [neS, ht])
      clear ht
      cases S with
      | true =>
       cases I with
       | true =>
        have h0 : undE L (emS :: M.map (·.name)) k (L.getD k default) = 0 := by rw [HCHK.out, HNE.out]; rfl
        have H0 := hx h0
        clear h0
        go_wp2
        go_roundw
        case rel => exact ⟨k + 1, HLT.out, by go_num, (fun j hj => (Nat.lt_succ_iff_lt_or_eq.1 hj).elim (HN.out j) (fun h => by rw [h]; exact H0.out)), M2.out, P3.out, QN.out, EN.out⟩
        case measure => simp [RowKit.intOf]; omega
       | false =>
        have h0 : undE L (emS :: M.map (·.name)) k (L.getD k default) = 11 := by rw [HCHK.out, HNE.out]; rfl
        have hf := findS_hit (l := L) (by rw [← HM.out]; exact HLT.out) HN.out (by rw [h0]; decide)
        rw [h0] at hf
        have HFX := hx hf
        obtain ⟨y1, y2, z1, z2⟩ := fin4 QN.out
        clear h0 hf
        go_wp2
        refine bodyPost_ret (results_cell_row rfl _ _ (w.heap.size + 1) 126 _ _ _ rfl (two_set _ _ QN.out) Tryz.underlying126 rfl (by kernel_rfl)) rfl ?_
        exact ⟨by rw [HFX.out]; rfl, (EN.out.setCell (a := ⟨w.heap.size + 1, 0, none⟩) _ (by simp)).setCell (a := ⟨w.heap.size + 1, 1, none⟩) _ (by simp)⟩
      | false =>
       have h0 : undE L (emS :: M.map (·.name)) k (L.getD k default) = 11 := by rw [HCHK.out, HNE.out]; rfl
       have hf := findS_hit (l := L) (by rw [← HM.out]; exact HLT.out) HN.out (by rw [h0]; decide)
       rw [h0] at hf
       have HFX := hx hf
       obtain ⟨y1, y2, z1, z2⟩ := fin4 QN.out
       clear h0 hf
       go_wp2
       refine bodyPost_ret (results_cell_row rfl _ _ (w.heap.size + 1) 126 _ _ _ rfl (two_set _ _ QN.out) Tryz.underlying126 rfl (by kernel_rfl)) rfl ?_
       exact ⟨by rw [HFX.out]; rfl, (EN.out.setCell (a := ⟨w.heap.size + 1, 0, none⟩) _ (by simp)).setCell (a := ⟨w.heap.size + 1, 1, none⟩) _ (by simp)⟩
    ·obtain rfl : m = k := by omega
     have hf := findS_none (l := L) (chk := undE L (emS :: M.map (·.name))) (by rw [← HM.out]; exact HN.out)
     have HFX := hx hf
     have g1 := he.cell hn1
     have g2 := he.cell hn2
     obtain ⟨y1, y2, z1, z2⟩ := fin4 q3
     have HE := hx he
     have Q3 := hx q3
     clear hf m2 mp3 q3 he hlt hk HN
     go_wp2
     refine bodyPost_ret (results_cell_row rfl _ _ (w.heap.size + 1) 126 _ _ _ rfl (two_set _ _ Q3.out) Tryz.underlying126 rfl (by kernel_rfl)) rfl ?_
     exact ⟨by rw [HFX.out]; rfl, (HE.out.setCell (a := ⟨w.heap.size + 1, 0, none⟩) _ (by simp)).setCell (a := ⟨w.heap.size + 1, 1, none⟩) _ (by simp)⟩
end Go.Proofs.YtmofdnlefjfcfaaGreatDoor


set_option linter.unusedVariables false
set_option linter.unusedSimpArgs false
namespace Go.Proofs.YtmofdnlefjfcfaaGreatDoor
open Go.RowKit Go.Lib

set_option maxRecDepth 20000 in
set_option maxHeartbeats 1000000 in
theorem rules3_some (A1 A2 : Option Addr) (n1 c1 m c2 : Nat) (hm : 0 < m) (w : World) :
  Calls Tryz.prog 134 #[.agg #[.slice A1 n1 c1, .slice A2 m c2]] w fun e w' => e = .returned (findV (0, 0)) ∧ Ext w w' := by
 have hw := hx fun W => when_any false 15 W
 have p3 := heap_alloc_new (w.alloc (.cells #[.slice A1 n1 c1, .slice A2 m c2] 25)) (.cells #[.int .i64 0, .int .i64 0] 126)
 rw [World.size_alloc] at p3
 have e0 := (Ext.new w (.cells #[.slice A1 n1 c1, .slice A2 m c2] 25)).alloc (.cells #[.int .i64 0, .int .i64 0] 126)
 have hb : ((m : Int) == 0) = false := by simp; omega
 go_enter Tryz.func134, Tryz.ntmps134
 go_wp2_with (first | (go_at_call 130; refine (hw.out _).mono ?_; rintro e w' ⟨rfl, rfl⟩))
 refine bodyPost_ret (results_cell_row rfl _ _ (w.heap.size + 1) 126 _ _ _ rfl p3 Tryz.underlying126 rfl (by kernel_rfl)) rfl ?_
 exact ⟨rfl, e0⟩
set_option maxRecDepth 40000 in
set_option maxHeartbeats 2000000 in
theorem rules4_any (A1 A2 : Option Addr) (n1 c1 n2 c2 : Nat) (ix : Int) (A : Option Addr) (n c : Nat) (s : Stmt) (w : World) (hok : s.ins.Ok) (hO : OpsN w) :
  Calls Tryz.prog 136 #[.agg #[.slice A1 n1 c1, .slice A2 n2 c2], .int .i64 ix, StV A n c s] w fun e w' => e = .returned (.int .i64 (whenN (writesX s.ins == 10) 14)) ∧ Ext w w' := by
 have HW := hx when_any
 have e0 := (Ext.new w (.cells #[.slice A1 n1 c1, .slice A2 n2 c2] 25)).alloc (.cells (stL A n c s).toArray 55)
 have hc := insnWrites_any s.ins _ hok (hO.ext e0)
 unfold StV
 unfold Ins.v stL at hc
 obtain ⟨labels, ⟨op, reg, n1', n2', n3', n4'⟩, tt, tm⟩ := s
 simp only [stL] at *
 generalize writesX ⟨op, reg, n1', n2', n3', n4'⟩ = X at *
 have HC := hx hc
 have E0 := hx e0
 clear hc e0 hok hO
 go_enter Tryz.func136, Tryz.ntmps136
 go_wp2_with fail
 refine HC.out.mono ?_
 rintro e w1 ⟨rfl, e1⟩
 go_wp2_with (go_at_call 130; refine (HW.out _ _ _).mono ?_; rintro e w4 ⟨rfl, rfl⟩)
 go_ret
 exact ⟨ret_int (by simp), E0.out.trans e1⟩
set_option maxRecDepth 40000 in
set_option maxHeartbeats 2000000 in
theorem rules5_any (A1 A2 : Option Addr) (n1 c1 m c2 i : Nat) (A : Option Addr) (n c : Nat) (s : Stmt) (w : World) (hok : s.ins.Ok) (hO : OpsN w) (hi : i < m) (hm : m ≤ 1000000) :
  Calls Tryz.prog 137 #[.agg #[.slice A1 n1 c1, .slice A2 m c2], .int .i64 (i : Nat), StV A n c s] w fun e w' => e = .returned (.int .i64 (whenN (decide (i + 1 = m) && !endsX s.ins) 15)) ∧ Ext w w' := by
 have HW := hx when_any
 have e0 := (Ext.new w (.cells #[.slice A1 n1 c1, .slice A2 m c2] 25)).alloc (.cells (stL A n c s).toArray 55)
 have hc := insnEnds_any s.ins _ hok (hO.ext e0)
 unfold StV
 unfold Ins.v stL at hc
 obtain ⟨j, hj⟩ : ∃ j, m = j + 1 := ⟨m - 1, by omega⟩
 have hk1 : (m : Int) - 1 = (j : Int) := by omega
 have hw1 : wrap64 (j : Int) = (j : Int) := by unfold wrap64; omega
 obtain ⟨labels, ⟨op, reg, n1', n2', n3', n4'⟩, tt, tm⟩ := s
 simp only [stL] at *
 generalize endsX ⟨op, reg, n1', n2', n3', n4'⟩ = X at *
 have HC := hx hc
 have E0 := hx e0
 clear hc e0 hok hO
 by_cases hij : i = j
 ·have hd : decide (i + 1 = m) = true := decide_eq_true (by omega)
  have hb : ((i : Int) == (j : Int)) = true := by simp; omega
  have HD := hx hd
  clear hd hij hj hi hm
  go_enter Tryz.func137, Tryz.ntmps137
  go_wp2_with fail
  refine HC.out.mono ?_
  rintro e w1 ⟨rfl, e1⟩
  go_wp2_with (go_at_call 130; refine (HW.out _ _ _).mono ?_; rintro e w4 ⟨rfl, rfl⟩)
  go_ret
  exact ⟨ret_int (by rw [HD.out]; simp), E0.out.trans e1⟩
 ·have hd : decide (i + 1 = m) = false := decide_eq_false (by omega)
  have hb : ((i : Int) == (j : Int)) = false := by simp; omega
  have HD := hx hd
  clear hd hij hj hi hm
  go_enter Tryz.func137, Tryz.ntmps137
  go_wp2_with (go_at_call 130; refine (HW.out _ _ _).mono ?_; rintro e w4 ⟨rfl, rfl⟩)
  go_ret
  exact ⟨ret_int (by rw [HD.out]; simp), E0.out⟩
end Go.Proofs.YtmofdnlefjfcfaaGreatDoor


set_option linter.unusedVariables false
set_option linter.unusedSimpArgs false
namespace Go.Proofs.YtmofdnlefjfcfaaGreatDoor
open Go.RowKit Go.Lib

set_option maxRecDepth 40000 in
set_option maxHeartbeats 8000000 in
theorem checkStmt_any (B1 B2 : Option Addr) (u1 d1 u2 d2 : Nat) (ix : Int) (A : Option Addr) (c : Nat) (s : Stmt) (w : World) (hl : IsStrs w (.slice A s.labels.length c) s.labels) (hok : s.ins.Ok) (ht : s.target.size ≤ 140737488355328) (hm : s.map.size ≤ 140737488355328)
  (hGL : Glob w) (hO : OpsN w) (hWd : WidN w) :
  Calls Tryz.prog 128 #[.agg #[.slice B1 u1 d1, .slice B2 u2 d2], .int .i64 ix, StV A s.labels.length c s] w fun e w' => e = .returned (.int .i64 (stmtE s)) ∧ Ext w w' := by
 have hsl := stmtE_lbl (s := s)
 have hsi := fun h h2 => stmtE_ins (s := s) h h2
 have hst := fun h h2 => stmtE_tail (s := s) h h2
 obtain ⟨labels, ⟨op, reg, n1, n2, n3, n4⟩, tt, tm⟩ := s
 dsimp only at *
 generalize stmtE ⟨labels, ⟨op, reg, n1, n2, n3, n4⟩, tt, tm⟩ = SE at *
 unfold StV
 dsimp only
 have hop := hok.op
 have HC := hx fun W (hW : Ext w W) => insnCheck_any ⟨op, reg, n1, n2, n3, n4⟩ W hok (hO.ext hW) (hWd.ext hW)
 have HJ := hx fun W (hW : Ext w W) => insnJumps_any ⟨op, reg, n1, n2, n3, n4⟩ W hok (hO.ext hW)
 have HF := hx fun W (hW : Ext w W) => opForm_any op W hop (hO.ext hW)
 have HGL := hx hGL
 have HWH := hx when_any
 have hjx : jumpsX ⟨op, reg, n1, n2, n3, n4⟩ = decide (formN op = 3 ∨ formN op = 4) := rfl
 rw [hjx] at hst
 rw [hjx] at HJ
 unfold Ins.v at HC HJ
 generalize insE ⟨op, reg, n1, n2, n3, n4⟩ = IE at *
 generalize formN op = F at *
 clear hjx hok hop hO hWd hGL
 obtain ⟨m, hmm⟩ : ∃ m, m = labels.length := ⟨_, rfl⟩
 have hb0 : labels.length ≤ 281474976710656 := hl.len
 rw [← hmm] at hl hb0 ⊢
 have HM := hx hmm
 clear hmm
 have HSL := hx hsl
 have HSI := hx hsi
 have HSX := hx hst
 obtain ⟨W0, hW0⟩ : ∃ W0, W0 = (w.alloc (.cells #[.slice B1 u1 d1, .slice B2 u2 d2] 25)).alloc (.cells #[.slice A m c, .int .i64 op, .bool reg, .int .i64 n1, .int .i64 n2, .int .i64 n3, .int .i64 n4, .string tt, .string tm] 55) := ⟨_, rfl⟩
 have e0 : Ext w W0 := by rw [hW0]; exact (Ext.new _ _).alloc _
 have r0 : RowV W0 (w.heap.size + 1) 55 [.slice A m c, .int .i64 op, .bool reg, .int .i64 n1, .int .i64 n2, .int .i64 n3, .int .i64 n4, .string tt, .string tm] := by
  rw [hW0]
  have h := RowV.new (w.alloc (.cells #[.slice B1 u1 d1, .slice B2 u2 d2] 25)) [.slice A m c, .int .i64 op, .bool reg, .int .i64 n1, .int .i64 n2, .int .i64 n3, .int .i64 n4, .string tt, .string tm] 55
  rwa [World.size_alloc] at h
 have hl0 := IsStrs.ext hl e0
 have q0 := r0.cell (i := 0) rfl
 have q1 := r0.cell (i := 1) rfl
 have q2 := r0.cell (i := 2) rfl
 have q3 := r0.cell (i := 3) rfl
 have q4 := r0.cell (i := 4) rfl
 have q5 := r0.cell (i := 5) rfl
 have q6 := r0.cell (i := 6) rfl
 have R0 := hx r0
 have E0 := hx e0
 clear hl hsl hsi hst r0 e0
 go_enter Tryz.func128, Tryz.ntmps128
 go_wp2
 rw [← hW0]
 clear hW0
 go_loopw [15] (fun i wr => ∃ k : Nat, k ≤ m ∧ i = .int .i64 (k : Nat) ∧ (∀ j, j < k → idB (labels.getD j emS) = true) ∧ Ext W0 wr) (fun i _ => m - (RowKit.intOf i).toNat)
 case atStart => exact ⟨0, by omega, rfl, (by intro j hj; omega), Ext.refl _⟩
 case round =>
  obtain ⟨k, hk, rfl, hn, he⟩ := hrel
  have HN := Go.Proofs.YtmofdnlefjfcfaaGreatDoor.hx hn
  clear hn q0
  by_cases hlt : k < m
  ·obtain ⟨x, hx0⟩ : ∃ x, labels[k]? = some x := ⟨_, List.getElem?_eq_getElem (by have := HM.out; omega)⟩
   have hg : labels.getD k emS = x := by rw [List.getD_eq_getElem?_getD, hx0]; rfl
   obtain ⟨bx, ox, rfl, dd1, dd2⟩ := (IsStrs.ext hl0 he).get hx0
   rw [Nat.mul_one] at dd1
   have hkm : (k : Int) < (m : Int) := by omega
   have hV := ident_Valid_any x wr (by omega) (HGL.out.ext (E0.out.trans he))
   have HG := hx hg
   have HX0 := hx hx0
   have HLT := hx hlt
   have HE := hx he
   clear hg hx0 dd2 hlt q1 q2 q3 q4 q5 q6 he
   cases hv : idB x with
   | true =>
    rw [hv] at hV
    have HV := hx hV
    have HVV := hx hv
    clear hV hv
    go_wp2_with fail
    refine HV.out.mono ?_
    rintro e w3 ⟨rfl, e3⟩
    have Y := hx (HE.out.trans e3)
    clear e3 dd1
    go_wp2
    go_roundw
    case rel => exact ⟨k + 1, HLT.out, by go_num, (fun j hj => (Nat.lt_succ_iff_lt_or_eq.1 hj).elim (HN.out j) (fun h => by rw [h, HG.out, HVV.out])), Y.out⟩
    case measure => simp [RowKit.intOf]; omega
   | false =>
    rw [hv] at hV
    have HV := hx hV
    have HB := hx (lbl_hit HX0.out hv)
    clear hV hv
    go_wp2_with fail
    refine HV.out.mono ?_
    rintro e w3 ⟨rfl, e3⟩
    have Y := hx ((E0.out.trans HE.out).trans e3)
    clear e3 dd1
    go_wp2
    go_ret
    exact ⟨ret_int (HSL.out HB.out).symm, Y.out⟩
  ·obtain rfl : m = k := by omega
   have hbn := lbl_none (l := labels) (by rw [← HM.out]; exact HN.out)
   have HBN := hx hbn
   have r9 := R0.out.ext he
   have z1 := r9.cell (i := 1) rfl
   have z2 := r9.cell (i := 2) rfl
   have z3 := r9.cell (i := 3) rfl
   have z4 := r9.cell (i := 4) rfl
   have z5 := r9.cell (i := 5) rfl
   have z6 := r9.cell (i := 6) rfl
   have E9 := hx (E0.out.trans he)
   have R9 := hx r9
   clear hbn hlt hk HN he r9 q1 q2 q3 q4 q5 q6
   by_cases hz : IE = 0
   ·subst hz
    have HST := hx (HSX.out HBN.out rfl)
    clear HSL HSI HSX HBN
    go_wp2_with fail
    refine (HC.out _ E9.out).mono ?_
    rintro e w1 ⟨rfl, e1⟩
    have E1 := hx (E9.out.trans e1)
    have L5 := hx fun (W : World) (h : Ext w1 W) => And.intro ((R9.out.ext (e1.trans h)).cell (i := 1) rfl) (And.intro ((R9.out.ext (e1.trans h)).cell (i := 2) rfl) (And.intro ((R9.out.ext (e1.trans h)).cell (i := 3) rfl) (And.intro ((R9.out.ext (e1.trans h)).cell (i := 4) rfl) (And.intro ((R9.out.ext (e1.trans h)).cell (i := 5) rfl) ((R9.out.ext (e1.trans h)).cell (i := 6) rfl)))))
    have R1 := hx (R9.out.ext e1)
    clear z1 z2 z3 z4 z5 z6 e1
    go_upto_region 10 with fail
    have hd : Ext w1 w1.drew := (Ext.refl w1).drew
    have hr0 : Ext w1 w1 := Ext.refl w1
    generalize hJ : decide (F = 3 ∨ F = 4) = J at *
    generalize hRR : (F == 11) = R at *
    go_cut [10, 11] (fun s10 s11 wx => s10 = .bool J ∧ s11 = .bool R ∧ Ext w1 wx)
    case first =>
     go_region_held3 (fun w' => w'.cell? ⟨w.heap.size + 1, 1, none⟩ = some (.int .i64 op) ∧ w'.cell? ⟨w.heap.size + 1, 2, none⟩ = some (.bool reg) ∧ w'.cell? ⟨w.heap.size + 1, 3, none⟩ = some (.int .i64 n1) ∧ w'.cell? ⟨w.heap.size + 1, 4, none⟩ = some (.int .i64 n2) ∧ w'.cell? ⟨w.heap.size + 1, 5, none⟩ = some (.int .i64 n3) ∧ w'.cell? ⟨w.heap.size + 1, 6, none⟩ = some (.int .i64 n4)) (exact L5.out _ (by assumption))
      (first
       | (go_at_call 73; refine (HJ.out _ (E1.out.trans (by assumption))).mono ?_; rintro e wA ⟨rfl, eA⟩; have fA : Ext w1 wA := Ext.trans (by assumption) eA)
       | (go_at_call 61; refine (HF.out _ (E1.out.trans (by assumption))).mono ?_; rintro e wB ⟨rfl, eB⟩; have fB : Ext w1 wB := Ext.trans (by assumption) eB))
     all_goals
      go_wp2
      go_meet
      exact ⟨rfl, rfl, by assumption⟩
    case rest =>
     obtain ⟨rfl, rfl, x6⟩ := hcut
     have r2 := R1.out.ext x6
     have p5 := r2.cell (i := 5) rfl
     have p6 := r2.cell (i := 6) rfl
     have p7 := r2.cell (i := 7) rfl
     have p8 := r2.cell (i := 8) rfl
     have E2 := hx (E1.out.trans x6)
     clear L5 hd hr0 x6 r2 HF HJ HC
     have hjr : (J = true ∧ R = false) ∨ (J = false ∧ R = true) ∨ (J = false ∧ R = false) := by
      rw [← hJ, ← hRR]
      by_cases f3 : F = 3
      ·subst f3; exact .inl ⟨rfl, rfl⟩
      ·by_cases f4 : F = 4
       ·subst f4; exact .inl ⟨rfl, rfl⟩
       ·by_cases f11 : F = 11
        ·subst f11; exact .inr (.inl ⟨rfl, rfl⟩)
        ·exact .inr (.inr ⟨decide_eq_false (by omega), by simpa using f11⟩)
     clear hJ hRR
     rcases hjr with ⟨rfl, rfl⟩ | ⟨rfl, rfl⟩ | ⟨rfl, rfl⟩
     ·skip
      by_cases c1 : n3 = 0
      ·subst c1
       by_cases c2 : tm = emS
       ·subst c2
        have u1 := em_list
        have u2 := em_isE
        cases hv : idB tt with
        | true =>
         have hT : tailB true false 0 n4 tt emS = 0 := by simp [tailB, neS, hv]
         have HT := hx hT
         clear hT
         have hV := fun W hW => ident_Valid_any tt W (by omega) (HGL.out.ext hW)
         simp only [hv] at hV
         have HV := hx hV
         clear hV hv
         go_wp2_with fail
         refine (HV.out _ E2.out).mono ?_
         rintro e w3 ⟨rfl, e3⟩
         go_wp2_with (go_at_call 130; refine (HWH.out _ _ _).mono ?_; rintro e w4 ⟨rfl, rfl⟩)
         go_ret
         exact ⟨ret_int (by rw [HST.out, HT.out]; try rfl), E2.out.trans e3⟩
        | false =>
         have hT : tailB true false 0 n4 tt emS = 7 := by simp [tailB, neS, hv]
         have HT := hx hT
         clear hT
         have hV := fun W hW => ident_Valid_any tt W (by omega) (HGL.out.ext hW)
         simp only [hv] at hV
         have HV := hx hV
         clear hV hv
         go_wp2_with fail
         refine (HV.out _ E2.out).mono ?_
         rintro e w3 ⟨rfl, e3⟩
         go_wp2_with (go_at_call 130; refine (HWH.out _ _ _).mono ?_; rintro e w4 ⟨rfl, rfl⟩)
         go_ret
         exact ⟨ret_int (by rw [HST.out, HT.out]; try rfl), E2.out.trans e3⟩
       ·have u1 := ne_list c2
        have u2 := ne_isE c2
        have hT : tailB true false 0 n4 tt tm = 12 := by simp [tailB, neS, c2]
        clear c2
        have HT := hx hT
        clear hT
        go_wp2_with (go_at_call 130; refine (HWH.out _ _ _).mono ?_; rintro e w4 ⟨rfl, rfl⟩)
        go_ret
        exact ⟨ret_int (by rw [HST.out, HT.out]; try rfl), E2.out⟩
      ·have q1 : (n3 != 0) = true := by simpa using c1
       have hT : tailB true false n3 n4 tt tm = 12 := by simp [tailB, c1]
       clear c1
       have HT := hx hT
       clear hT
       go_wp2_with (go_at_call 130; refine (HWH.out _ _ _).mono ?_; rintro e w4 ⟨rfl, rfl⟩)
       go_ret
       exact ⟨ret_int (by rw [HST.out, HT.out]; try rfl), E2.out⟩
     ·skip
      by_cases c1 : n4 = 0
      ·subst c1
       by_cases c2 : tt = emS
       ·subst c2
        have u1 := em_list
        have u2 := em_isE
        cases hv : idB tm with
        | true =>
         have hT : tailB false true n3 0 emS tm = 0 := by simp [tailB, neS, hv]
         have HT := hx hT
         clear hT
         have hV := fun W hW => ident_Valid_any tm W (by omega) (HGL.out.ext hW)
         simp only [hv] at hV
         have HV := hx hV
         clear hV hv
         go_wp2_with fail
         refine (HV.out _ E2.out).mono ?_
         rintro e w3 ⟨rfl, e3⟩
         go_wp2_with (go_at_call 130; refine (HWH.out _ _ _).mono ?_; rintro e w4 ⟨rfl, rfl⟩)
         go_ret
         exact ⟨ret_int (by rw [HST.out, HT.out]; try rfl), E2.out.trans e3⟩
        | false =>
         have hT : tailB false true n3 0 emS tm = 7 := by simp [tailB, neS, hv]
         have HT := hx hT
         clear hT
         have hV := fun W hW => ident_Valid_any tm W (by omega) (HGL.out.ext hW)
         simp only [hv] at hV
         have HV := hx hV
         clear hV hv
         go_wp2_with fail
         refine (HV.out _ E2.out).mono ?_
         rintro e w3 ⟨rfl, e3⟩
         go_wp2_with (go_at_call 130; refine (HWH.out _ _ _).mono ?_; rintro e w4 ⟨rfl, rfl⟩)
         go_ret
         exact ⟨ret_int (by rw [HST.out, HT.out]; try rfl), E2.out.trans e3⟩
       ·have u1 := ne_list c2
        have u2 := ne_isE c2
        have hT : tailB false true n3 0 tt tm = 12 := by simp [tailB, neS, c2]
        clear c2
        have HT := hx hT
        clear hT
        go_wp2_with (go_at_call 130; refine (HWH.out _ _ _).mono ?_; rintro e w4 ⟨rfl, rfl⟩)
        go_ret
        exact ⟨ret_int (by rw [HST.out, HT.out]; try rfl), E2.out⟩
      ·have q1 : (n4 != 0) = true := by simpa using c1
       have hT : tailB false true n3 n4 tt tm = 12 := by simp [tailB, c1]
       clear c1
       have HT := hx hT
       clear hT
       go_wp2_with (go_at_call 130; refine (HWH.out _ _ _).mono ?_; rintro e w4 ⟨rfl, rfl⟩)
       go_ret
       exact ⟨ret_int (by rw [HST.out, HT.out]; try rfl), E2.out⟩
     ·skip
      by_cases c1 : tt = emS
      ·subst c1
       have u1 := em_list
       have u2 := em_isE
       by_cases c2 : tm = emS
       ·subst c2
        have hT : tailB false false n3 n4 emS emS = 0 := by simp [tailB, neS]
        have HT := hx hT
        clear hT
        go_wp2_with (go_at_call 130; refine (HWH.out _ _ _).mono ?_; rintro e w4 ⟨rfl, rfl⟩)
        go_ret
        exact ⟨ret_int (by rw [HST.out, HT.out]; try rfl), E2.out⟩
       ·have u3 := ne_list c2
        have u4 := ne_isE c2
        have hT : tailB false false n3 n4 emS tm = 12 := by simp [tailB, neS, c2]
        clear c2
        have HT := hx hT
        clear hT
        go_wp2_with (go_at_call 130; refine (HWH.out _ _ _).mono ?_; rintro e w4 ⟨rfl, rfl⟩)
        go_ret
        exact ⟨ret_int (by rw [HST.out, HT.out]; try rfl), E2.out⟩
      ·have u1 := ne_list c1
       have u2 := ne_isE c1
       have hT : tailB false false n3 n4 tt tm = 12 := by simp [tailB, neS, c1]
       clear c1
       have HT := hx hT
       clear hT
       go_wp2_with (go_at_call 130; refine (HWH.out _ _ _).mono ?_; rintro e w4 ⟨rfl, rfl⟩)
       go_ret
       exact ⟨ret_int (by rw [HST.out, HT.out]; try rfl), E2.out⟩
   ·have hz' : (IE != 0) = true := by simpa using hz
    have HST := hx (HSI.out HBN.out hz)
    clear HSL HSI HSX HBN hz
    go_wp2_with fail
    refine (HC.out _ E9.out).mono ?_
    rintro e w1 ⟨rfl, e1⟩
    go_wp2
    go_ret
    exact ⟨ret_int HST.out.symm, E9.out.trans e1⟩
end Go.Proofs.YtmofdnlefjfcfaaGreatDoor


set_option linter.unusedVariables false
set_option linter.unusedSimpArgs false
namespace Go.Proofs.YtmofdnlefjfcfaaGreatDoor
open Go.RowKit Go.Lib

theorem enT1 : ∀ args W, (callFunc 128 args).run Tryz.prog W = .ok (.enter 128 args) W := fun _ _ => by kernel_rfl
theorem enT4 : ∀ args W, (callFunc 136 args).run Tryz.prog W = .ok (.enter 136 args) W := fun _ _ => by kernel_rfl
theorem enT5 : ∀ args W, (callFunc 137 args).run Tryz.prog W = .ok (.enter 137 args) W := fun _ _ => by kernel_rfl
theorem enDc : ∀ args W, (callFunc 135 args).run Tryz.prog W = .ok (.enter 135 args) W := fun _ _ => by kernel_rfl
def wrE (_ : Nat) (s : Stmt) : Int := whenN (writesX s.ins == 10) 14
def enE (m : Nat) (i : Nat) (s : Stmt) : Int := whenN (decide (i + 1 = m) && !endsX s.ins) 15
def namesL (M : List Def) : List ByteArray := M.map (·.name)
/-- What the nine rules find. -/
def prRs (M : List Def) (L : List Stmt) : List (Int × Int) :=
 [findA (fun _ d => mapE d) 0 M, findS (fun _ s => stmtE s) L, findA (fun i _ => whenN (decide (255 ≤ i)) 16) 0 M, findA (fun i _ => whenN (repN (M.map (·.name)) == i) 10) 0 M,
  labD [] 0 L, (if L.length = 0 then (0, 15) else (0, 0)), findS (undE L (emS :: M.map (·.name))) L, findS wrE L, findS (enE L.length) L]
/-- The index and the error of a program. -/
def pchk (M : List Def) (L : List Stmt) : Int × Int := (firstF 0 (prRs M L)).1
theorem progCheck_any (A1 A2 : Option Addr) (n1 c1 m c2 : Nat) (M : List Def) (L : List Stmt) (w : World) (hn1 : n1 = M.length) (hl1 : n1 ≤ 100000) (hm : m = L.length) (hml : m ≤ 1000000)
  (hd : IsDefs w (.slice A1 n1 c1) M) (hv : IsStmts w (.slice A2 m c2) L) (hfl : (flat L).length ≤ 1000000) (hG : Glob w) (hN : NoneV w) (hO : OpsN w) (hWd : WidN w) :
  Calls Tryz.prog 37 #[.agg #[.slice A1 n1 c1, .slice A2 m c2]] w fun e w' => e = .returned (.tuple #[.int .i64 (pchk M L).1, .int .i64 (pchk M L).2]) ∧ Ext w w' := by
 subst hn1 hm
 have hok := defs_ok hd
 refine progCheck_of A1 A2 M.length c1 L.length c2 (firstF 0 (prRs M L)).1 (firstF 0 (prRs M L)).2 w fun W0 hW0 => ?_
 refine check_nine A1 A2 M.length c1 L.length c2 (prRs M L) W0 rfl (hN.ext hW0).a (hN.ext hW0).b fun W R hW ra k r hr hz => ?_
 have e1 := hW0.trans hW
 match k, hr with
 | 0, hr =>
  obtain ⟨a, b, q1, q2, q3⟩ := ra.r1
  obtain rfl := Option.some.inj hr
  refine ⟨_, _, q1, enD, fun W' hW' => ?_⟩
  have e2 := e1.trans hW'
  refine eachDef1_any a b _ A2 L.length c2 M (fun _ d => mapE d) W' hl1 (IsDefs.ext hd e2) (hW'.cell q2) (hW'.cell q3) (hN.ext e2).a (hN.ext e2).b fun i d W'' hW'' hdm => ?_
  exact checkMap_any A1 A2 M.length c1 L.length c2 i d (hok d hdm) W'' (hG.ext (e2.trans hW''))
 | 1, hr =>
  obtain ⟨a, b, q1, q2, q3⟩ := ra.r2
  obtain rfl := Option.some.inj hr
  refine ⟨_, _, q1, enS, fun W' hW' => ?_⟩
  have e2 := e1.trans hW'
  refine eachStmt_of a b 128 A1 A2 M.length c1 c2 L.length L (fun _ s => stmtE s) W' rfl hml (IsStmts.ext hv e2) (hW'.cell q2) (hW'.cell q3) (hN.ext e2).a (hN.ext e2).b enT1 fun i s A c W'' hW'' hs hsl hso => ?_
  have e3 := e2.trans hW''
  exact checkStmt_any A1 A2 M.length c1 L.length c2 i A c s W'' hsl hso.ins hso.tgt hso.map (hG.ext e3) (hO.ext e3) (hWd.ext e3)
 | 2, hr =>
  obtain ⟨a, b, q1, q2, q3⟩ := ra.r3
  obtain rfl := Option.some.inj hr
  refine ⟨_, _, q1, enD, fun W' hW' => ?_⟩
  have e2 := e1.trans hW'
  refine eachDefR1_any a b _ A2 L.length c2 M (fun i _ => whenN (decide (255 ≤ i)) 16) W' hl1 (IsDefs.ext hd e2) (hW'.cell q2) (hW'.cell q3) (hN.ext e2).a (hN.ext e2).b fun i d W'' hW'' hdm => ?_
  exact rules1_any A1 A2 M.length c1 L.length c2 i d W''
 | 3, hr =>
  obtain ⟨a, b, q1, q2, q3⟩ := ra.r4
  obtain rfl := Option.some.inj hr
  refine ⟨_, _, q1, enD, fun W' hW' => ?_⟩
  have e2 := e1.trans hW'
  refine eachDefR2_any a b _ A2 L.length c2 M (fun i _ => whenN (repN (M.map (·.name)) == i) 10) W' hl1 (IsDefs.ext hd e2) (hW'.cell q2) (hW'.cell q3) (hN.ext e2).a (hN.ext e2).b fun i d W'' hW'' hdm => ?_
  exact rules2_any _ A2 L.length c2 M i d W'' hl1 (IsDefs.ext hd (e2.trans hW''))
 | 4, hr =>
  obtain rfl := Option.some.inj hr
  refine ⟨_, _, ra.r5, enL, fun W' hW' => ?_⟩
  have e2 := e1.trans hW'
  exact labelsOnce_any A1 A2 M.length c1 L.length c2 L W' rfl hml (IsStmts.ext hv e2) hfl (hN.ext e2).a (hN.ext e2).b
 | 5, hr =>
  obtain rfl := Option.some.inj hr
  refine ⟨_, _, ra.r6, en3, fun W' hW' => ?_⟩
  by_cases h0 : L.length = 0
  ·rw [h0, if_pos rfl]
   exact rules3_none A1 A2 M.length c1 c2 W'
  ·rw [if_neg h0]
   exact rules3_some A1 A2 M.length c1 L.length c2 (by omega) W'
 | 6, hr =>
  obtain rfl := Option.some.inj hr
  refine ⟨_, _, ra.r7, enDc, fun W' hW' => ?_⟩
  have e2 := e1.trans hW'
  exact declared_any A1 A2 M.length c1 L.length c2 M L W' rfl (by omega) rfl hml (IsDefs.ext hd e2) (IsStmts.ext hv e2) hfl (hN.ext e2).a (hN.ext e2).b
 | 7, hr =>
  obtain ⟨a, b, q1, q2, q3⟩ := ra.r8
  obtain rfl := Option.some.inj hr
  refine ⟨_, _, q1, enS, fun W' hW' => ?_⟩
  have e2 := e1.trans hW'
  refine eachStmt_of a b 136 A1 A2 M.length c1 c2 L.length L wrE W' rfl hml (IsStmts.ext hv e2) (hW'.cell q2) (hW'.cell q3) (hN.ext e2).a (hN.ext e2).b enT4 fun i s A c W'' hW'' hs hsl hso => ?_
  exact rules4_any A1 A2 M.length c1 L.length c2 i A s.labels.length c s W'' hso.ins (hO.ext (e2.trans hW''))
 | 8, hr =>
  obtain ⟨a, b, q1, q2, q3⟩ := ra.r9
  obtain rfl := Option.some.inj hr
  refine ⟨_, _, q1, enS, fun W' hW' => ?_⟩
  have e2 := e1.trans hW'
  refine eachStmt_of a b 137 A1 A2 M.length c1 c2 L.length L (enE L.length) W' rfl hml (IsStmts.ext hv e2) (hW'.cell q2) (hW'.cell q3) (hN.ext e2).a (hN.ext e2).b enT5 fun i s A c W'' hW'' hs hsl hso => ?_
  exact rules5_any A1 A2 M.length c1 L.length c2 i A s.labels.length c s W'' hso.ins (hO.ext (e2.trans hW'')) (List.getElem?_eq_some_iff.1 hs).1 hml
 | k + 9, hr => simp [prRs] at hr
end Go.Proofs.YtmofdnlefjfcfaaGreatDoor
