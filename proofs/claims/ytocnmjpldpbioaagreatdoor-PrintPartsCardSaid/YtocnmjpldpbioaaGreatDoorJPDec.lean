/- The layer prog: declared. -/
import Derived.Test.YtocnmjpldpbioaaGreatDoorJAll
import Derived.Test.YtocnmjpldpbioaaGreatDoorJRefChkE
import Derived.Deep.RegionHeld3
import Derived.Deep.QuietTactic
import Derived.BigQuiet
import Derived.Test.YtocnmjpldpbioaaGreatDoorJFmtI
import Derived.Deep.RegionWith
import Derived.Orders
import Derived.Laws.AppendOwn
set_option linter.unusedVariables false
set_option linter.unusedSimpArgs false
namespace Go.Proofs.YtocnmjpldpbioaaGreatDoor
open Go.RowKit Go.Lib

/-- m[s] = x while a map is built, as an operation. -/
theorem wp_mapIns {ops : Array Oper} {rest : List Oper} {o : Oper} {a : Act} {Q : Exit → Act → World → Prop} {w : World} {b n : Nat} {p : ByteArray → Bool} (h : SetS w b n p) (s : ByteArray) (hs : s.size ≤ 140737488355328) (hn : n < 1000000000) (x : Bool) (hgd : o.guard = none) {m k v : Operand}
  (ho : o.op = .insert 149 m k v) (hm : a.eval m = .map (some b)) (hk : a.eval k = .string s) (hv : a.eval v = .bool x)
  (hK : ∀ w', SetS w' b (n + 1) (fun y => if y = s then x else p y) → w.grownBy w' (some b) → wpList Tryz.prog ops Q rest (a.put o.dst undef) w') : wpList Tryz.prog ops Q (o :: rest) a w := by
 refine wpList_plain hgd fun K hK' => ?_
 obtain ⟨w', hr, h1, h2⟩ := h.upd s hs hn x
 unfold Oper.wp
 simp [execOp, ho, hm, hk, hv, hr, Result.andThen]
 exact hK' _ _ (hK w' h1 h2)
def undB (L : List Stmt) (N : List ByteArray) (s : Stmt) : Bool := (neS s.target && !(labAt L s.target).isSome) || !(inL N s.map)
def undE (L : List Stmt) (N : List ByteArray) (_ : Nat) (s : Stmt) : Int := if undB L N s then 11 else 0
theorem MapS.lt {w : World} {b n : Nat} {p : ByteArray → Option Int} (h : MapS w b n p) : b < w.heap.size := by
 obtain ⟨D, h1, _⟩ := h
 exact h1.lt
set_option maxRecDepth 40000 in
set_option maxHeartbeats 8000000 in
theorem declared_any (A1 A2 : Option Addr) (m1 c1 m c2 : Nat) (M : List Def) (L : List Stmt) (w : World) (hm1 : m1 = M.length) (hm1l : m1 ≤ 1000000) (hm : m = L.length) (hml : m ≤ 1000000) (hd : IsDefs w (.slice A1 m1 c1) M) (hv : IsStmts w (.slice A2 m c2) L) (hfl : (flat L).length ≤ 1000000)
  (hn1 : w.cell? ⟨1, 0, none⟩ = some (.int .i64 0)) (hn2 : w.cell? ⟨1, 1, none⟩ = some (.int .i64 0)) :
  Calls Tryz.prog 81 #[.agg #[.slice A1 m1 c1, .slice A2 m c2]] w fun e w' => e = .returned (findV (findS (undE L (emS :: M.map (·.name))) L)) ∧ Ext w w' := by
 obtain ⟨W0, hW0⟩ : ∃ W0, W0 = (w.alloc (.cells #[.slice A1 m1 c1, .slice A2 m c2] 40)).alloc (.cells #[.int .i64 0, .int .i64 0] 65) := ⟨_, rfl⟩
 have e0 : Ext w W0 := by rw [hW0]; exact (Ext.new w _).alloc _
 have rP : RowV W0 w.heap.size 40 [.slice A1 m1 c1, .slice A2 m c2] := by
  rw [hW0]
  exact (RowV.new w [.slice A1 m1 c1, .slice A2 m c2] 40).ext (Ext.new _ _)
 have p3 : W0.heap[w.heap.size + 1]? = some (.cells #[.int .i64 0, .int .i64 0] 65 (0, 0)) := by
  rw [hW0]
  have h := heap_alloc_new (w.alloc (.cells #[.slice A1 m1 c1, .slice A2 m c2] 40)) (.cells #[.int .i64 0, .int .i64 0] 65)
  rwa [World.size_alloc] at h
 have hLB := Labels_any A1 A2 m1 c1 m c2 L W0 hm hml (IsStmts.ext hv e0) hfl
 have hs0 : W0.heap.size = w.heap.size + 1 + 1 := by rw [hW0]; simp
 rw [hW0] at hLB
 have HLB := hx hLB
 have HW0 := hx hW0
 have HM := hx hm
 have HM1 := hx hm1
 have hmm := @run_makeMap Tryz.prog
 have HMM := hx hmm
 clear hLB hW0 hm hm1 hfl hmm
 go_enter Tryz.func81, Tryz.ntmps81
 go_wp2_with fail
 refine HLB.out.mono ?_
 rintro e w1 ⟨b1, rfl, mp1, e1⟩
 rw [← HW0.out] at e1
 have rP1 := rP.ext e1
 have r3 := e1.obj p3
 have E1 := e0.trans e1
 have hs1 : w.heap.size + 1 + 1 ≤ w1.heap.size := by rw [← hs0]; exact e1.size
 have hb1 := mp1.lt
 have hM0 := SetS.made w1
 have mp2 := mp1.ext (Ext.new w1 (.map #[] 0))
 have x2 := Ext.new w1 (.map #[] 0)
 clear rP p3 HLB HW0 e0 e1
 have hmm := HMM.out
 go_upto_region 2 with fail
 go_wp2_with (refine wp_mapIns hM0 emS (by decide) (by omega) true rfl rfl (by rfl) (by rfl) (by rfl) ?_; intro w2 m2 g2; have rP2 := (rP1.ext x2).keep g2 (by simp; omega); have q1 := rP2.cell (i := 0) rfl; have q2 := rP2.cell (i := 1) rfl)
 have hfe : (fun y => if y = emS then true else false) = inL [emS] := by
  funext y
  by_cases h : y = emS
  ·subst h; rfl
  ·rw [if_neg h]; simp [inL]; exact fun e => h e.symm
 rw [hfe] at m2
 have e2 := (E1.trans x2).grown g2 (fun k hk => by cases hk; omega)
 have mp3 := mp2.kept g2 (by simp; omega)
 have q3 : w2.heap[w.heap.size + 1]? = some (.cells #[.int .i64 0, .int .i64 0] 65 (0, 0)) := (g2.block _ (by simp; omega) (by simp; omega)).trans (x2.obj r3)
 obtain ⟨b2, hb2⟩ : ∃ b2, b2 = w1.heap.size := ⟨_, rfl⟩
 have hb12 : b1 ≠ b2 := by omega
 have hbw : w.heap.size + 1 < b2 := by omega
 rw [← hb2] at m2 ⊢
 clear hb2 hfe g2 hM0 mp1 mp2 x2 E1 rP1 r3 hs1 hb1 hs0 hmm HMM q1
 go_loopw [18] (fun i wr => ∃ k : Nat, k ≤ m1 ∧ i = .int .i64 (k : Nat) ∧ SetS wr b2 (1 + k) (inL (emS :: (M.take k).map (·.name))) ∧ MapS wr b1 (flat L).length (labAt L) ∧ RowV wr w.heap.size 40 [.slice A1 m1 c1, .slice A2 m c2] ∧ wr.heap[w.heap.size + 1]? = some (.cells #[.int .i64 0, .int .i64 0] 65 (0, 0)) ∧ Ext w wr) (fun i _ => m1 - (RowKit.intOf i).toNat)
 case atStart => exact ⟨0, by omega, rfl, m2, mp3, rP2, q3, e2⟩
 case round =>
  clear m2 mp3 rP2 q3 e2 q2
  obtain ⟨k, hk, rfl, m2, mp3, rP2, q3, he⟩ := hrel
  by_cases hlt : k < m1
  ·obtain ⟨x, hx0⟩ : ∃ x, M[k]? = some x := ⟨_, List.getElem?_eq_getElem (by have := HM1.out; omega)⟩
   obtain ⟨bx, ox, rfl, ⟨d1, d2, d3, d4⟩, dok⟩ := (IsDefs.ext hd he).get hx0
   have hnm := dok.name
   have htk : (M.take (k + 1)).map (·.name) = (M.take k).map (·.name) ++ [x.name] := by rw [List.take_add_one, hx0]; simp
   have hfun : (fun z => if z = x.name then true else inL (emS :: (M.take k).map (·.name)) z) = inL (emS :: (M.take (k + 1)).map (·.name)) := by
    funext z
    rw [htk, ← List.cons_append, inL_snoc]
    by_cases h1 : z = x.name
    ·subst h1; simp
    ·have h1' : ¬ x.name = z := fun e => h1 e.symm
     rw [if_neg h1, decide_eq_false h1', Bool.or_false]
   have HFUN := hx hfun
   have hkm : (k : Int) < (m1 : Int) := by omega
   have eN := Ext.new wr (.cells #[.string x.name, .int .i64 x.key, .int .i64 x.val, .int .i64 x.ents] 27)
   have mN := m2.ext eN
   have pN := mp3.ext eN
   have rN := rP2.ext eN
   have qN := eN.obj q3
   have xN := he.trans eN
   obtain ⟨nm, ky, vl, en⟩ := x
   dsimp only at *
   have HLT := hx hlt
   clear m2 mp3 rP2 q3 he hx0 htk hfun dok hlt eN
   go_wp2_with (refine wp_mapUpd mN nm hnm (by omega) true rfl rfl (by rfl) (by rfl) (by rfl) ?_; intro w3 m3 g3)
   have e3 := xN.grown g3 (fun k hk => by cases hk; omega)
   have p3 := pN.kept g3 (by simpa using hb12)
   have r3 := rN.keep g3 (by simp; omega)
   have q3 := (g3.block (w.heap.size + 1) (Array.getElem?_eq_some_iff.1 qN).1 (by simp; omega)).trans qN
   rw [HFUN.out] at m3
   clear g3 mN pN rN qN xN d1 d2 d3 d4
   go_roundw
   case rel => exact ⟨k + 1, HLT.out, by go_num, by simpa [Nat.add_assoc] using m3, p3, r3, q3, e3⟩
   case measure => simp [RowKit.intOf]; omega
  ·obtain rfl : m1 = k := by omega
   rw [List.take_of_length_le (by rw [← HM1.out]; exact Nat.le_refl _)] at m2
   have q2 := rP2.cell (i := 1) rfl
   go_wp2
   clear q2 hlt hk
   go_loopw [29] (fun i wr => ∃ k : Nat, k ≤ m ∧ i = .int .i64 (k : Nat) ∧ (∀ j, j < k → undE L (emS :: M.map (·.name)) j (L.getD j default) = 0) ∧ SetS wr b2 (1 + m1) (inL (emS :: M.map (·.name))) ∧ MapS wr b1 (flat L).length (labAt L) ∧ wr.heap[w.heap.size + 1]? = some (.cells #[.int .i64 0, .int .i64 0] 65 (0, 0)) ∧ Ext w wr) (fun i _ => m - (RowKit.intOf i).toNat)
   case atStart => exact ⟨0, by omega, rfl, (by intro j hj; omega), m2, mp3, q3, he⟩
   case round =>
    clear m2 mp3 q3 he rP2
    obtain ⟨k, hk, rfl, hn, m2, mp3, q3, he⟩ := hrel
    have HN := hx hn
    clear hn
    by_cases hlt : k < m
    ·obtain ⟨x, hx0⟩ : ∃ x, L[k]? = some x := ⟨_, List.getElem?_eq_getElem (by have := HM.out; omega)⟩
     have hg : L.getD k default = x := by rw [List.getD_eq_getElem?_getD, hx0]; rfl
     obtain ⟨b, o, rfl, vl, d0, dl, ⟨d1, d2, d3, d4, d5, d6⟩, dok, ⟨d7, d7'⟩, d8, d8'⟩ := (IsStmts.ext hv he).get hx0
     obtain ⟨Al, cl, rfl, -, -, dl'⟩ := dl.form
     have hkm : (k : Int) < (m : Int) := by omega
     have eN := Ext.new wr (.cells (stL Al x.labels.length cl x).toArray 34)
     have hlk1 := (mp3.ext eN).look x.target d7'
     have hlk2 := (m2.ext eN).look x.map d8'
     have hchk : undE L (emS :: M.map (·.name)) k (L.getD k default) = if (neS x.target && !(labAt L x.target).isSome) || !(inL (emS :: M.map (·.name)) x.map) then 11 else 0 := by rw [hg]; rfl
     have HCHK := hx hchk
     have HLT := hx hlt
     have M2 := hx (m2.ext eN)
     have P3 := hx (mp3.ext eN)
     have qN := eN.obj q3
     have EN := hx (he.trans eN)
     obtain ⟨labels, ⟨op, reg, n1', n2', n3', n4'⟩, tt, tm⟩ := x
     simp only [stL] at *
     generalize labels.length = ll at *
     generalize (labAt L tt).isSome = S at *
     generalize (labAt L tt).getD 0 = G at *
     generalize inL (emS :: M.map (·.name)) tm = I at *
     have QN := hx qN
     clear hchk m2 mp3 q3 he hlt hg hx0 dl dl' dok d7' d8' eN qN
     by_cases ht : tt = emS
     ·subst ht
      have u1 := em_list
      have u2 := em_isE
      have HNE := hx (show neS emS = false by simp [neS])
      cases I with
      | true =>
       have h0 : undE L (emS :: M.map (·.name)) k (L.getD k default) = 0 := by rw [HCHK.out, HNE.out]; rfl
       have H0 := hx h0
       clear h0
       go_wp2
       go_roundw
       case rel => exact ⟨k + 1, HLT.out, by go_num, (fun j hj => (Nat.lt_succ_iff_lt_or_eq.1 hj).elim (HN.out j) (fun h => by rw [h]; exact H0.out)), M2.out, P3.out, QN.out, EN.out⟩
       case measure => simp [RowKit.intOf]; omega
      | false =>
       have h0 : undE L (emS :: M.map (·.name)) k (L.getD k default) = 11 := by rw [HCHK.out, HNE.out]; rfl
       have hf := findS_hit (l := L) (by rw [← HM.out]; exact HLT.out) HN.out (by rw [h0]; decide)
       rw [h0] at hf
       have HFX := hx hf
       obtain ⟨y1, y2, z1, z2⟩ := fin4 QN.out
       clear h0 hf
       go_wp2
       refine bodyPost_ret (results_cell_row rfl _ _ (w.heap.size + 1) 65 _ _ _ rfl (two_set _ _ QN.out) Tryz.underlying65 rfl (by kernel_rfl)) rfl ?_
       exact ⟨by rw [HFX.out]; rfl, (EN.out.setCell (a := ⟨w.heap.size + 1, 0, none⟩) _ (by simp)).setCell (a := ⟨w.heap.size + 1, 1, none⟩) _ (by simp)⟩
     ·have u1 := ne_list ht
      have u2 := ne_isE ht
      have HNE := hx (show neS tt = true by simp [neS, ht])
      clear ht
      cases S with
      | true =>
       cases I with
       | true =>
        have h0 : undE L (emS :: M.map (·.name)) k (L.getD k default) = 0 := by rw [HCHK.out, HNE.out]; rfl
        have H0 := hx h0
        clear h0
        go_wp2
        go_roundw
        case rel => exact ⟨k + 1, HLT.out, by go_num, (fun j hj => (Nat.lt_succ_iff_lt_or_eq.1 hj).elim (HN.out j) (fun h => by rw [h]; exact H0.out)), M2.out, P3.out, QN.out, EN.out⟩
        case measure => simp [RowKit.intOf]; omega
       | false =>
        have h0 : undE L (emS :: M.map (·.name)) k (L.getD k default) = 11 := by rw [HCHK.out, HNE.out]; rfl
        have hf := findS_hit (l := L) (by rw [← HM.out]; exact HLT.out) HN.out (by rw [h0]; decide)
        rw [h0] at hf
        have HFX := hx hf
        obtain ⟨y1, y2, z1, z2⟩ := fin4 QN.out
        clear h0 hf
        go_wp2
        refine bodyPost_ret (results_cell_row rfl _ _ (w.heap.size + 1) 65 _ _ _ rfl (two_set _ _ QN.out) Tryz.underlying65 rfl (by kernel_rfl)) rfl ?_
        exact ⟨by rw [HFX.out]; rfl, (EN.out.setCell (a := ⟨w.heap.size + 1, 0, none⟩) _ (by simp)).setCell (a := ⟨w.heap.size + 1, 1, none⟩) _ (by simp)⟩
      | false =>
       have h0 : undE L (emS :: M.map (·.name)) k (L.getD k default) = 11 := by rw [HCHK.out, HNE.out]; rfl
       have hf := findS_hit (l := L) (by rw [← HM.out]; exact HLT.out) HN.out (by rw [h0]; decide)
       rw [h0] at hf
       have HFX := hx hf
       obtain ⟨y1, y2, z1, z2⟩ := fin4 QN.out
       clear h0 hf
       go_wp2
       refine bodyPost_ret (results_cell_row rfl _ _ (w.heap.size + 1) 65 _ _ _ rfl (two_set _ _ QN.out) Tryz.underlying65 rfl (by kernel_rfl)) rfl ?_
       exact ⟨by rw [HFX.out]; rfl, (EN.out.setCell (a := ⟨w.heap.size + 1, 0, none⟩) _ (by simp)).setCell (a := ⟨w.heap.size + 1, 1, none⟩) _ (by simp)⟩
    ·obtain rfl : m = k := by omega
     have hf := findS_none (l := L) (chk := undE L (emS :: M.map (·.name))) (by rw [← HM.out]; exact HN.out)
     have HFX := hx hf
     have g1 := he.cell hn1
     have g2 := he.cell hn2
     obtain ⟨y1, y2, z1, z2⟩ := fin4 q3
     have HE := hx he
     have Q3 := hx q3
     clear hf m2 mp3 q3 he hlt hk HN
     go_wp2
     refine bodyPost_ret (results_cell_row rfl _ _ (w.heap.size + 1) 65 _ _ _ rfl (two_set _ _ Q3.out) Tryz.underlying65 rfl (by kernel_rfl)) rfl ?_
     exact ⟨by rw [HFX.out]; rfl, (HE.out.setCell (a := ⟨w.heap.size + 1, 0, none⟩) _ (by simp)).setCell (a := ⟨w.heap.size + 1, 1, none⟩) _ (by simp)⟩
end Go.Proofs.YtocnmjpldpbioaaGreatDoor


set_option linter.unusedVariables false
set_option linter.unusedSimpArgs false
namespace Go.Proofs.YtocnmjpldpbioaaGreatDoor
open Go.RowKit Go.Lib

/-- How a function value with one captured variable reads. -/
def funR : Value → Option (DataW Unit × List MemPlace)
 | .func (.func f) ⟨[]⟩ ⟨[.pointer (some ⟨c, 0, none⟩)]⟩ => some (.agg [.lit (.int .i64 (f : Nat)), .lit (.int .i64 (c : Nat))], [])
 | .nilFunc => some (.lit (.bool false), [])
 | _ => none
def funV (f c : Nat) : Value := .func (.func f) #[] #[.pointer (some ⟨c, 0, none⟩)]
theorem funR_mk (f c : Nat) : funR (funV f c) = some (.agg [.lit (.int .i64 (f : Nat)), .lit (.int .i64 (c : Nat))], []) := rfl
theorem funR_inv {v : Value} {f c : Nat} {ps : List MemPlace} (h : funR v = some (.agg [.lit (.int .i64 (f : Nat)), .lit (.int .i64 (c : Nat))], ps)) : v = funV f c := by
 unfold funR at h
 split at h
 ·simp only [Option.some.injEq, Prod.mk.injEq, DataW.agg.injEq, List.cons.injEq, DataW.lit.injEq, Lit.int.injEq, true_and, and_true, Int.ofNat_inj] at h
  obtain ⟨⟨rfl, rfl⟩, -⟩ := h
  rfl
 ·simp at h
 ·cases h
/-- The map's block, with the functions and the variables that they have captured. -/
def MapF (w : World) (b n : Nat) (p : Int → Option (Nat × Nat)) : Prop :=
 ∃ D : DataW Unit, w.ownsMap Tryz.prog 3 funR b n D ∧ ∀ s, D.atKey (keyI s) (.lit (.bool false)) = match p s with | some fc => .agg [.lit (.int .i64 (fc.1 : Nat)), .lit (.int .i64 (fc.2 : Nat))] | none => .lit (.bool false)
theorem MapF.made (w : World) : MapF (w.alloc (.map #[] 0)) w.heap.size 0 (fun _ => none) := ⟨.map [], World.ownsMap_made _ _ _ _, fun s => rfl⟩
theorem MapF.kept {w w' : World} {row : Option Nat} {b n : Nat} {p : Int → Option (Nat × Nat)} (h : MapF w b n p) (hg : w.grownBy w' row) (hne : some b ≠ row) : MapF w' b n p := by
 obtain ⟨D, h1, h2⟩ := h
 exact ⟨D, h1.kept hg hne, h2⟩
theorem MapF.ext {w w' : World} {b n : Nat} {p : Int → Option (Nat × Nat)} (h : MapF w b n p) (he : Ext w w') : MapF w' b n p := h.kept (he.toGrown none) (by simp)
theorem MapF.lt {w : World} {b n : Nat} {p : Int → Option (Nat × Nat)} (h : MapF w b n p) : b < w.heap.size := by
 obtain ⟨D, h1, -⟩ := h
 exact h1.lt
theorem zeroFun (w : World) : (zeroValue 51).run Tryz.prog w = .ok .nilFunc w := by
 have h : (Tryz.prog.info? 51).map (fun i => i.zero) = some (some .nilFunc) := by kernel_rfl
 obtain ⟨i, hi, hz⟩ := Option.map_eq_some_iff.1 h
 simp [zeroValue, typeInfo, hi, hz]
set_option maxRecDepth 20000 in
theorem MapF.look {w : World} {b n : Nat} {p : Int → Option (Nat × Nat)} (h : MapF w b n p) (s : Int) (hs : I64 s) {f c : Nat} (hp : p s = some (f, c)) :
  (Instr.lookup 52 (.map (some b)) (.int .i64 s) false).run Tryz.prog w = .ok (funV f c) w := by
 obtain ⟨D, ⟨es, clock, hb, F, _, rfl⟩, h2⟩ := h
 have h3 := h2 s
 rw [hp] at h3
 rcases Maps.fit_look false (Maps.int_keyed Tryz.underlying3) Tryz.underlying52 (zeroFun w) hb F (Maps.keyOf_int_mk Tryz.underlying3 (keyI_wf hs)) with ⟨hrun, _, hat⟩ | ⟨e0, y, _, _, hrun, hRv, hat, _⟩
 ·have h4 := (hat (.lit (.bool false))).symm.trans h3
  simp at h4
 ·have h4 := (hat (.lit (.bool false))).symm.trans h3
  rw [show e0.val = funV f c from funR_inv (ps := y.2) (by rw [hRv]; exact congrArg some (Prod.ext h4 rfl))] at hrun
  exact hrun
set_option maxRecDepth 20000 in
theorem MapF.upd {w : World} {b n : Nat} {p : Int → Option (Nat × Nat)} (h : MapF w b n p) (s : Int) (f c : Nat) (hs : I64 s) (hn : n < 1000000000) :
  ∃ w', (Instr.mapUpdate 52 (.map (some b)) (.int .i64 s) (funV f c)).run Tryz.prog w = .ok () w' ∧ MapF w' b (n + 1) (fun y => if y = s then some (f, c) else p y) ∧ w.grownBy w' (some b) := by
 obtain ⟨D, h1, h2⟩ := h
 obtain ⟨w', hr, h3, h4⟩ := h1.update (Maps.int_keyed Tryz.underlying3) Tryz.underlying52 (by simp only [maxLen]; omega) (Maps.keyOf_int_mk Tryz.underlying3 (keyI_wf hs)) (funR_mk f c)
 refine ⟨w', hr, ⟨_, h3, fun y => ?_⟩, h4⟩
 by_cases hy : y = s
 ·subst hy
  dsimp only
  rw [if_pos rfl]
  exact Maps.atKey_put_same h1.isMap (by trivial) _ _
 ·dsimp only
  rw [if_neg hy]
  exact (Maps.atKey_put_other (fun e => hy (keyI_inj e)) _ _).trans (h2 y)
end Go.Proofs.YtocnmjpldpbioaaGreatDoor


set_option linter.unusedVariables false
set_option linter.unusedSimpArgs false
namespace Go.Proofs.YtocnmjpldpbioaaGreatDoor
open Go.RowKit Go.Lib

set_option maxRecDepth 40000 in
set_option maxHeartbeats 8000000 in
theorem checkStmt_any (B1 B2 : Option Addr) (u1 d1 u2 d2 : Nat) (ix : Int) (A : Option Addr) (c : Nat) (s : Stmt) (w : World) (hl : IsStrs w (.slice A s.labels.length c) s.labels) (hok : s.ins.Ok) (ht : s.target.size ≤ 140737488355328) (hm : s.map.size ≤ 140737488355328)
  (hGL : GlobQ s.names w) (hO : OpsQ s.ins.op w) (hWd : WidN w) :
  Calls Tryz.prog 74 #[.agg #[.slice B1 u1 d1, .slice B2 u2 d2], .int .i64 ix, StV A s.labels.length c s] w fun e w' => e = .returned (.int .i64 (stmtE s)) ∧ Ext w w' := by
 have hsl := stmtE_lbl (s := s)
 have hsi := fun h h2 => stmtE_ins (s := s) h h2
 have hst := fun h h2 => stmtE_tail (s := s) h h2
 obtain ⟨labels, ⟨op, reg, n1, n2, n3, n4⟩, tt, tm⟩ := s
 dsimp only at *
 generalize stmtE ⟨labels, ⟨op, reg, n1, n2, n3, n4⟩, tt, tm⟩ = SE at *
 unfold StV
 dsimp only
 have hop := hok.op
 have HC := hx fun W (hW : Ext w W) => insnCheck_any ⟨op, reg, n1, n2, n3, n4⟩ W hok (hO.ext hW) (hWd.ext hW)
 have HJ := hx fun W (hW : Ext w W) => insnJumps_any ⟨op, reg, n1, n2, n3, n4⟩ W hok (hO.ext hW)
 have HF := hx fun W (hW : Ext w W) => opForm_any op W hop (hO.ext hW)
 have HGL := hx hGL
 have HWH := hx when_any
 have hjx : jumpsX ⟨op, reg, n1, n2, n3, n4⟩ = decide (formN op = 3 ∨ formN op = 4) := rfl
 rw [hjx] at hst
 rw [hjx] at HJ
 unfold Ins.v at HC HJ
 generalize insE ⟨op, reg, n1, n2, n3, n4⟩ = IE at *
 generalize formN op = F at *
 clear hjx hok hop hO hWd hGL
 obtain ⟨m, hmm⟩ : ∃ m, m = labels.length := ⟨_, rfl⟩
 have hb0 : labels.length ≤ 281474976710656 := hl.len
 rw [← hmm] at hl hb0 ⊢
 have HM := hx hmm
 clear hmm
 have HSL := hx hsl
 have HSI := hx hsi
 have HSX := hx hst
 obtain ⟨W0, hW0⟩ : ∃ W0, W0 = (w.alloc (.cells #[.slice B1 u1 d1, .slice B2 u2 d2] 40)).alloc (.cells #[.slice A m c, .int .i64 op, .bool reg, .int .i64 n1, .int .i64 n2, .int .i64 n3, .int .i64 n4, .string tt, .string tm] 34) := ⟨_, rfl⟩
 have e0 : Ext w W0 := by rw [hW0]; exact (Ext.new _ _).alloc _
 have r0 : RowV W0 (w.heap.size + 1) 34 [.slice A m c, .int .i64 op, .bool reg, .int .i64 n1, .int .i64 n2, .int .i64 n3, .int .i64 n4, .string tt, .string tm] := by
  rw [hW0]
  have h := RowV.new (w.alloc (.cells #[.slice B1 u1 d1, .slice B2 u2 d2] 40)) [.slice A m c, .int .i64 op, .bool reg, .int .i64 n1, .int .i64 n2, .int .i64 n3, .int .i64 n4, .string tt, .string tm] 34
  rwa [World.size_alloc] at h
 have hl0 := IsStrs.ext hl e0
 have q0 := r0.cell (i := 0) rfl
 have q1 := r0.cell (i := 1) rfl
 have q2 := r0.cell (i := 2) rfl
 have q3 := r0.cell (i := 3) rfl
 have q4 := r0.cell (i := 4) rfl
 have q5 := r0.cell (i := 5) rfl
 have q6 := r0.cell (i := 6) rfl
 have R0 := hx r0
 have E0 := hx e0
 clear hl hsl hsi hst r0 e0
 go_enter Tryz.func74, Tryz.ntmps74
 go_wp2
 rw [← hW0]
 clear hW0
 go_loopw [15] (fun i wr => ∃ k : Nat, k ≤ m ∧ i = .int .i64 (k : Nat) ∧ (∀ j, j < k → idB (labels.getD j emS) = true) ∧ Ext W0 wr) (fun i _ => m - (RowKit.intOf i).toNat)
 case atStart => exact ⟨0, by omega, rfl, (by intro j hj; omega), Ext.refl _⟩
 case round =>
  obtain ⟨k, hk, rfl, hn, he⟩ := hrel
  have HN := Go.Proofs.YtocnmjpldpbioaaGreatDoor.hx hn
  clear hn q0
  by_cases hlt : k < m
  ·obtain ⟨x, hx0⟩ : ∃ x, labels[k]? = some x := ⟨_, List.getElem?_eq_getElem (by have := HM.out; omega)⟩
   have hg : labels.getD k emS = x := by rw [List.getD_eq_getElem?_getD, hx0]; rfl
   obtain ⟨bx, ox, rfl, dd1, dd2⟩ := (IsStrs.ext hl0 he).get hx0
   rw [Nat.mul_one] at dd1
   have hkm : (k : Int) < (m : Int) := by omega
   have hV := ident_Valid_any x wr (by omega) ((HGL.out.ext (E0.out.trans he)).sub (by intro y hy; have e : y = x := (by simpa using hy); rw [e]; exact List.mem_append_left _ (List.mem_of_getElem? hx0)))
   have HG := hx hg
   have HX0 := hx hx0
   have HLT := hx hlt
   have HE := hx he
   clear hg hx0 dd2 hlt q1 q2 q3 q4 q5 q6 he
   cases hv : idB x with
   | true =>
    rw [hv] at hV
    have HV := hx hV
    have HVV := hx hv
    clear hV hv
    go_wp2_with fail
    refine HV.out.mono ?_
    rintro e w3 ⟨rfl, e3⟩
    have Y := hx (HE.out.trans e3)
    clear e3 dd1
    go_wp2
    go_roundw
    case rel => exact ⟨k + 1, HLT.out, by go_num, (fun j hj => (Nat.lt_succ_iff_lt_or_eq.1 hj).elim (HN.out j) (fun h => by rw [h, HG.out, HVV.out])), Y.out⟩
    case measure => simp [RowKit.intOf]; omega
   | false =>
    rw [hv] at hV
    have HV := hx hV
    have HB := hx (lbl_hit HX0.out hv)
    clear hV hv
    go_wp2_with fail
    refine HV.out.mono ?_
    rintro e w3 ⟨rfl, e3⟩
    have Y := hx ((E0.out.trans HE.out).trans e3)
    clear e3 dd1
    go_wp2
    go_ret
    exact ⟨ret_int (HSL.out HB.out).symm, Y.out⟩
  ·obtain rfl : m = k := by omega
   have hbn := lbl_none (l := labels) (by rw [← HM.out]; exact HN.out)
   have HBN := hx hbn
   have r9 := R0.out.ext he
   have z1 := r9.cell (i := 1) rfl
   have z2 := r9.cell (i := 2) rfl
   have z3 := r9.cell (i := 3) rfl
   have z4 := r9.cell (i := 4) rfl
   have z5 := r9.cell (i := 5) rfl
   have z6 := r9.cell (i := 6) rfl
   have E9 := hx (E0.out.trans he)
   have R9 := hx r9
   clear hbn hlt hk HN he r9 q1 q2 q3 q4 q5 q6
   by_cases hz : IE = 0
   ·subst hz
    have HST := hx (HSX.out HBN.out rfl)
    clear HSL HSI HSX HBN
    go_wp2_with fail
    refine (HC.out _ E9.out).mono ?_
    rintro e w1 ⟨rfl, e1⟩
    have E1 := hx (E9.out.trans e1)
    have L5 := hx fun (W : World) (h : Ext w1 W) => And.intro ((R9.out.ext (e1.trans h)).cell (i := 1) rfl) (And.intro ((R9.out.ext (e1.trans h)).cell (i := 2) rfl) (And.intro ((R9.out.ext (e1.trans h)).cell (i := 3) rfl) (And.intro ((R9.out.ext (e1.trans h)).cell (i := 4) rfl) (And.intro ((R9.out.ext (e1.trans h)).cell (i := 5) rfl) ((R9.out.ext (e1.trans h)).cell (i := 6) rfl)))))
    have R1 := hx (R9.out.ext e1)
    clear z1 z2 z3 z4 z5 z6 e1
    go_upto_region 10 with fail
    have hd : Ext w1 w1.drew := (Ext.refl w1).drew
    have hr0 : Ext w1 w1 := Ext.refl w1
    generalize hJ : decide (F = 3 ∨ F = 4) = J at *
    generalize hRR : (F == 11) = R at *
    go_cut [10, 11] (fun s10 s11 wx => s10 = .bool J ∧ s11 = .bool R ∧ Ext w1 wx)
    case first =>
     go_region_held3 (fun w' => w'.cell? ⟨w.heap.size + 1, 1, none⟩ = some (.int .i64 op) ∧ w'.cell? ⟨w.heap.size + 1, 2, none⟩ = some (.bool reg) ∧ w'.cell? ⟨w.heap.size + 1, 3, none⟩ = some (.int .i64 n1) ∧ w'.cell? ⟨w.heap.size + 1, 4, none⟩ = some (.int .i64 n2) ∧ w'.cell? ⟨w.heap.size + 1, 5, none⟩ = some (.int .i64 n3) ∧ w'.cell? ⟨w.heap.size + 1, 6, none⟩ = some (.int .i64 n4)) (exact L5.out _ (by assumption))
      (first
       | (go_at_call 108; refine (HJ.out _ (E1.out.trans (by assumption))).mono ?_; rintro e wA ⟨rfl, eA⟩; have fA : Ext w1 wA := Ext.trans (by assumption) eA)
       | (go_at_call 26; refine (HF.out _ (E1.out.trans (by assumption))).mono ?_; rintro e wB ⟨rfl, eB⟩; have fB : Ext w1 wB := Ext.trans (by assumption) eB))
     all_goals
      go_wp2
      go_meet
      exact ⟨rfl, rfl, by assumption⟩
    case rest =>
     obtain ⟨rfl, rfl, x6⟩ := hcut
     have r2 := R1.out.ext x6
     have p5 := r2.cell (i := 5) rfl
     have p6 := r2.cell (i := 6) rfl
     have p7 := r2.cell (i := 7) rfl
     have p8 := r2.cell (i := 8) rfl
     have E2 := hx (E1.out.trans x6)
     clear L5 hd hr0 x6 r2 HF HJ HC
     have hjr : (J = true ∧ R = false) ∨ (J = false ∧ R = true) ∨ (J = false ∧ R = false) := by
      rw [← hJ, ← hRR]
      by_cases f3 : F = 3
      ·subst f3; exact .inl ⟨rfl, rfl⟩
      ·by_cases f4 : F = 4
       ·subst f4; exact .inl ⟨rfl, rfl⟩
       ·by_cases f11 : F = 11
        ·subst f11; exact .inr (.inl ⟨rfl, rfl⟩)
        ·exact .inr (.inr ⟨decide_eq_false (by omega), by simpa using f11⟩)
     clear hJ hRR
     rcases hjr with ⟨rfl, rfl⟩ | ⟨rfl, rfl⟩ | ⟨rfl, rfl⟩
     ·skip
      by_cases c1 : n3 = 0
      ·subst c1
       by_cases c2 : tm = emS
       ·subst c2
        have u1 := em_list
        have u2 := em_isE
        cases hv : idB tt with
        | true =>
         have hT : tailB true false 0 n4 tt emS = 0 := by simp [tailB, neS, hv]
         have HT := hx hT
         clear hT
         have hV := fun W hW => ident_Valid_any tt W (by omega) ((HGL.out.ext hW).sub (by intro y hy; have e : y = tt := (by simpa using hy); rw [e]; exact List.mem_append_right _ (by simp)))
         simp only [hv] at hV
         have HV := hx hV
         clear hV hv
         go_wp2_with fail
         refine (HV.out _ E2.out).mono ?_
         rintro e w3 ⟨rfl, e3⟩
         go_wp2_with (go_at_call 76; refine (HWH.out _ _ _).mono ?_; rintro e w4 ⟨rfl, rfl⟩)
         go_ret
         exact ⟨ret_int (by rw [HST.out, HT.out]; try rfl), E2.out.trans e3⟩
        | false =>
         have hT : tailB true false 0 n4 tt emS = 7 := by simp [tailB, neS, hv]
         have HT := hx hT
         clear hT
         have hV := fun W hW => ident_Valid_any tt W (by omega) ((HGL.out.ext hW).sub (by intro y hy; have e : y = tt := (by simpa using hy); rw [e]; exact List.mem_append_right _ (by simp)))
         simp only [hv] at hV
         have HV := hx hV
         clear hV hv
         go_wp2_with fail
         refine (HV.out _ E2.out).mono ?_
         rintro e w3 ⟨rfl, e3⟩
         go_wp2_with (go_at_call 76; refine (HWH.out _ _ _).mono ?_; rintro e w4 ⟨rfl, rfl⟩)
         go_ret
         exact ⟨ret_int (by rw [HST.out, HT.out]; try rfl), E2.out.trans e3⟩
       ·have u1 := ne_list c2
        have u2 := ne_isE c2
        have hT : tailB true false 0 n4 tt tm = 12 := by simp [tailB, neS, c2]
        clear c2
        have HT := hx hT
        clear hT
        go_wp2_with (go_at_call 76; refine (HWH.out _ _ _).mono ?_; rintro e w4 ⟨rfl, rfl⟩)
        go_ret
        exact ⟨ret_int (by rw [HST.out, HT.out]; try rfl), E2.out⟩
      ·have q1 : (n3 != 0) = true := by simpa using c1
       have hT : tailB true false n3 n4 tt tm = 12 := by simp [tailB, c1]
       clear c1
       have HT := hx hT
       clear hT
       go_wp2_with (go_at_call 76; refine (HWH.out _ _ _).mono ?_; rintro e w4 ⟨rfl, rfl⟩)
       go_ret
       exact ⟨ret_int (by rw [HST.out, HT.out]; try rfl), E2.out⟩
     ·skip
      by_cases c1 : n4 = 0
      ·subst c1
       by_cases c2 : tt = emS
       ·subst c2
        have u1 := em_list
        have u2 := em_isE
        cases hv : idB tm with
        | true =>
         have hT : tailB false true n3 0 emS tm = 0 := by simp [tailB, neS, hv]
         have HT := hx hT
         clear hT
         have hV := fun W hW => ident_Valid_any tm W (by omega) ((HGL.out.ext hW).sub (by intro y hy; have e : y = tm := (by simpa using hy); rw [e]; exact List.mem_append_right _ (by simp)))
         simp only [hv] at hV
         have HV := hx hV
         clear hV hv
         go_wp2_with fail
         refine (HV.out _ E2.out).mono ?_
         rintro e w3 ⟨rfl, e3⟩
         go_wp2_with (go_at_call 76; refine (HWH.out _ _ _).mono ?_; rintro e w4 ⟨rfl, rfl⟩)
         go_ret
         exact ⟨ret_int (by rw [HST.out, HT.out]; try rfl), E2.out.trans e3⟩
        | false =>
         have hT : tailB false true n3 0 emS tm = 7 := by simp [tailB, neS, hv]
         have HT := hx hT
         clear hT
         have hV := fun W hW => ident_Valid_any tm W (by omega) ((HGL.out.ext hW).sub (by intro y hy; have e : y = tm := (by simpa using hy); rw [e]; exact List.mem_append_right _ (by simp)))
         simp only [hv] at hV
         have HV := hx hV
         clear hV hv
         go_wp2_with fail
         refine (HV.out _ E2.out).mono ?_
         rintro e w3 ⟨rfl, e3⟩
         go_wp2_with (go_at_call 76; refine (HWH.out _ _ _).mono ?_; rintro e w4 ⟨rfl, rfl⟩)
         go_ret
         exact ⟨ret_int (by rw [HST.out, HT.out]; try rfl), E2.out.trans e3⟩
       ·have u1 := ne_list c2
        have u2 := ne_isE c2
        have hT : tailB false true n3 0 tt tm = 12 := by simp [tailB, neS, c2]
        clear c2
        have HT := hx hT
        clear hT
        go_wp2_with (go_at_call 76; refine (HWH.out _ _ _).mono ?_; rintro e w4 ⟨rfl, rfl⟩)
        go_ret
        exact ⟨ret_int (by rw [HST.out, HT.out]; try rfl), E2.out⟩
      ·have q1 : (n4 != 0) = true := by simpa using c1
       have hT : tailB false true n3 n4 tt tm = 12 := by simp [tailB, c1]
       clear c1
       have HT := hx hT
       clear hT
       go_wp2_with (go_at_call 76; refine (HWH.out _ _ _).mono ?_; rintro e w4 ⟨rfl, rfl⟩)
       go_ret
       exact ⟨ret_int (by rw [HST.out, HT.out]; try rfl), E2.out⟩
     ·skip
      by_cases c1 : tt = emS
      ·subst c1
       have u1 := em_list
       have u2 := em_isE
       by_cases c2 : tm = emS
       ·subst c2
        have hT : tailB false false n3 n4 emS emS = 0 := by simp [tailB, neS]
        have HT := hx hT
        clear hT
        go_wp2_with (go_at_call 76; refine (HWH.out _ _ _).mono ?_; rintro e w4 ⟨rfl, rfl⟩)
        go_ret
        exact ⟨ret_int (by rw [HST.out, HT.out]; try rfl), E2.out⟩
       ·have u3 := ne_list c2
        have u4 := ne_isE c2
        have hT : tailB false false n3 n4 emS tm = 12 := by simp [tailB, neS, c2]
        clear c2
        have HT := hx hT
        clear hT
        go_wp2_with (go_at_call 76; refine (HWH.out _ _ _).mono ?_; rintro e w4 ⟨rfl, rfl⟩)
        go_ret
        exact ⟨ret_int (by rw [HST.out, HT.out]; try rfl), E2.out⟩
      ·have u1 := ne_list c1
       have u2 := ne_isE c1
       have hT : tailB false false n3 n4 tt tm = 12 := by simp [tailB, neS, c1]
       clear c1
       have HT := hx hT
       clear hT
       go_wp2_with (go_at_call 76; refine (HWH.out _ _ _).mono ?_; rintro e w4 ⟨rfl, rfl⟩)
       go_ret
       exact ⟨ret_int (by rw [HST.out, HT.out]; try rfl), E2.out⟩
   ·have hz' : (IE != 0) = true := by simpa using hz
    have HST := hx (HSI.out HBN.out hz)
    clear HSL HSI HSX HBN hz
    go_wp2_with fail
    refine (HC.out _ E9.out).mono ?_
    rintro e w1 ⟨rfl, e1⟩
    go_wp2
    go_ret
    exact ⟨ret_int HST.out.symm, E9.out.trans e1⟩
end Go.Proofs.YtocnmjpldpbioaaGreatDoor


set_option linter.unusedVariables false
set_option linter.unusedSimpArgs false
namespace Go.Proofs.YtocnmjpldpbioaaGreatDoor
open Go.RowKit Go.Lib

theorem list_any (A : Option Addr) (n c : Nat) (w : World) :
  Calls Tryz.prog 44 #[.slice A n c] w fun e w' => e = .returned (.func (.func 45) #[] #[.pointer (some ⟨w.heap.size, 0, none⟩)]) ∧ RowV w' w.heap.size 32 [.slice A n c] ∧ Ext w w' := by
 have r0 := RowV.new w [.slice A n c] 32
 go_enter Tryz.func44, Tryz.ntmps44
 go_wp2
 go_ret
 exact ⟨rfl, r0, Ext.new _ _⟩
theorem list1_any (A : Option Addr) (n c b : Nat) (w : World) (h : RowV w b 32 [.slice A n c]) :
  Calls Tryz.prog 45 #[.pointer (some ⟨b, 0, none⟩)] w fun e w' => e = .returned (.slice A n c) ∧ w' = w := by
 have q0 := h.cell (i := 0) rfl
 go_enter Tryz.func45, Tryz.ntmps45
 go_wp2
 go_ret
 exact ⟨rfl, rfl⟩
/-- A closure of the map: its variable holds the texts. -/
def EntF (w : World) (bm : Nat) (c : Nat) (l : List ByteArray) : Prop :=
 c ≠ bm ∧ ∃ A n k, RowV w c 32 [.slice A n k] ∧ IsStrs w (.slice A n k) l ∧ ∀ b o, A = some ⟨b, o, none⟩ → b ≠ bm
theorem EntF.keep {w w' : World} {bm c : Nat} {l : List ByteArray} (h : EntF w bm c l) (hg : w.grownBy w' (some bm)) : EntF w' bm c l := by
 obtain ⟨h1, A, n, k, h2, h3, h4⟩ := h
 refine ⟨h1, A, n, k, h2.keep hg (fun e => h1 (by injection e)), ?_, h4⟩
 obtain ⟨A', c', e1, g1, g2, g3, g4⟩ := h3
 cases e1
 refine ⟨_, _, rfl, g1, g2, g3, fun i x hi => ?_⟩
 obtain ⟨b, o, hA, hc, hsz⟩ := g4 i x hi
 exact ⟨b, o, hA, hg.cell hc (fun e => h4 b o hA (by injection e)), hsz⟩
theorem strs_new (l : List ByteArray) (w W : World) (hs : ∀ s ∈ l, s.size ≤ 140737488355328) (hl : l.length ≤ 1000) (he : Ext (w.alloc (.cells (l.map Value.string).toArray 9)) W) :
  IsStrs W (.slice (some ⟨w.heap.size, 0, none⟩) l.length l.length) l := by
 refine ⟨_, _, rfl, ⟨Nat.le_refl _, by unfold maxLen; omega⟩, by omega, (fun h => by cases h), fun i x hi => ⟨_, _, rfl, ?_, hs x (List.mem_of_getElem? hi)⟩⟩
 refine he.cell ?_
 have h := heap_alloc_new w (.cells (l.map Value.string).toArray 9)
 unfold World.cell?
 dsimp only
 rw [h]
 simp [hi]
theorem EntF.new (l : List ByteArray) {w W : World} {bm : Nat} (hs : ∀ s ∈ l, s.size ≤ 140737488355328) (hl : l.length ≤ 1000) (hb : bm < w.heap.size) (he : Ext (w.alloc (.cells (l.map Value.string).toArray 9)) W)
  (hr : RowV W (w.heap.size + 1) 32 [.slice (some ⟨w.heap.size, 0, none⟩) l.length l.length]) : EntF W bm (w.heap.size + 1) l :=
 ⟨by omega, _, _, _, hr, strs_new l w W hs hl he, fun b o e => by cases e; omega⟩
theorem EntF.nil {w W : World} {bm : Nat} (hb : bm < w.heap.size) (hr : RowV W w.heap.size 32 [.slice none 0 0]) : EntF W bm w.heap.size [] :=
 ⟨by omega, none, 0, 0, hr, Sl.nil _, fun b o e => by cases e⟩
def Ents (w : World) (bm : Nat) (L : List (Nat × List ByteArray)) : Prop := ∀ e ∈ L, EntF w bm e.1 e.2
theorem Ents.nil (w : World) (bm : Nat) : Ents w bm [] := fun _ h => by cases h
theorem Ents.keep {w w' : World} {bm : Nat} {L : List (Nat × List ByteArray)} (h : Ents w bm L) (hg : w.grownBy w' (some bm)) : Ents w' bm L := fun e he => (h e he).keep hg
theorem Ents.cons {w : World} {bm c : Nat} {l : List ByteArray} {L : List (Nat × List ByteArray)} (h : EntF w bm c l) (hL : Ents w bm L) : Ents w bm ((c, l) :: L) := fun e he => by
 rcases List.mem_cons.1 he with rfl | he
 ·exact h
 ·exact hL e he
theorem memS_size (reg off : Int) (h : I64 off) : (memS reg off).size ≤ 100 := by
 unfold memS
 split
 ·have h1 := nameOf_size reg
  have h2 := numS_size h
  have h3 : (offS off).size ≤ 22 := by
   unfold offS
   split
   ·exact Nat.zero_le _
   ·split
    ·rw [ByteArray.size_append]
     have : (⟨#[43]⟩ : ByteArray).size = 1 := rfl
     omega
    ·omega
  rw [ByteArray.size_append, ByteArray.size_append, ByteArray.size_append]
  have : (⟨#[91]⟩ : ByteArray).size = 1 := rfl
  have : (⟨#[93]⟩ : ByteArray).size = 1 := rfl
  omega
 ·exact Nat.zero_le _
/-- The operands' texts, form by form (without the form of calls). -/
def opsL (s : Stmt) (k : Int) : List ByteArray :=
 let dst := nameOf s.ins.dst; let src := nameOf s.ins.src; let imm := numS s.ins.imm; let second := if s.ins.reg then src else imm
 if k = 0 then [dst, second] else if k = 1 then [dst] else if k = 2 then [dst, src] else if k = 3 then [s.target] else if k = 4 then [dst, second, s.target] else if k = 6 then []
 else if k = 7 then [dst, memS s.ins.src s.ins.off] else if k = 8 then [memS s.ins.dst s.ins.off, imm] else if k = 9 then [memS s.ins.dst s.ins.off, src] else if k = 10 then [dst, imm] else [dst, s.map]
end Go.Proofs.YtocnmjpldpbioaaGreatDoor


set_option linter.unusedVariables false
set_option linter.unusedSimpArgs false
namespace Go.Proofs.YtocnmjpldpbioaaGreatDoor
open Go

section
variable {P : Program} {ops : Array Oper} {Q : Exit → Act → World → Prop} {md : Region.Mode}
theorem wpAny_inv (I : Nat → Array Bool → Act → World → Prop)
  (h0 : ∀ fuel listed a w, I fuel listed a w → Region.ready md ops listed = [] → Q .normal a w)
  (h1 : ∀ listed a w, I 0 listed a w → Region.ready md ops listed = [])
  (h2 : ∀ fuel listed a w i, I (fuel + 1) listed a w → i ∈ Region.ready md ops listed → wpOp P ops Q i (I fuel (listed.setIfInBounds i true)) a w) :
  ∀ fuel listed a w, I fuel listed a w → wpAny P md ops Q fuel listed a w := by
 intro fuel
 induction fuel with
 | zero => intro listed a w h; exact ⟨h1 _ _ _ h, h0 _ _ _ _ h (h1 _ _ _ h)⟩
 | succ fuel ih =>
  intro listed a w h
  exact ⟨h0 _ _ _ _ h, fun i hi => wpOp_mono (fun a w hw => ih _ _ _ hw) (h2 _ _ _ _ i h hi)⟩
theorem wpOp_val {i : Nat} {o : Oper} {u : Value} {K : Act → World → Prop} {a : Act} {w w' : World} (ho : ops[i]? = some o) (hg : o.guard = none)
  (hrun : (execOp a.eval o).run P w = .ok (.value u) w') (hK : K (a.put o.dst u) w') : wpOp P ops Q i K a w := by
 unfold wpOp
 simp only [ho, Region.wanted, hg, if_true]
 refine .inl ?_
 unfold Oper.wp
 rw [hrun]
 exact hK
theorem wpOp_skip {i : Nat} {o : Oper} {K : Act → World → Prop} {a : Act} {w w' : World} (ho : ops[i]? = some o) (hg : o.guard = none)
  (hrun : (execOp a.eval o).run P w = .ok .skip w') (hK : K (a.put o.dst undef) w') : wpOp P ops Q i K a w := by
 unfold wpOp
 simp only [ho, Region.wanted, hg, if_true]
 refine .inl ?_
 unfold Oper.wp
 rw [hrun]
 exact hK
theorem wpOp_call {i : Nat} {o : Oper} {f : FuncId} {args : Array Value} {K : Act → World → Prop} {a : Act} {w : World} (ho : ops[i]? = some o) (hg : o.guard = none)
  (hrun : (execOp a.eval o).run P w = .ok (.enter f args) w) (hC : Calls P f args w fun e w' => ∃ v, e = .returned v ∧ K (a.put o.dst v) w') : wpOp P ops Q i K a w := by
 unfold wpOp
 simp only [ho, Region.wanted, hg, if_true]
 refine .inl ?_
 unfold Oper.wp
 rw [hrun]
 refine Calls.mono hC fun e w' he => ?_
 obtain ⟨v, rfl, hk⟩ := he
 exact hk
/-- Where each operation waits only for earlier ones and none is ready, all have come up. -/
theorem all_listed (hlt : ∀ (i : Nat) (o : Oper), ops[i]? = some o → ∀ e ∈ o.after, e.on < i) {listed : Array Bool} (h : Region.ready md ops listed = []) : ∀ i, i < ops.size → i < listed.size → listed.getD i true = true := by
 intro i
 induction i using Nat.strongRecOn with
 | ind i ih =>
  intro hi hl
  refine Decidable.byContradiction fun hn => ?_
  have hf : listed.getD i true = false := by simpa using hn
  have hm : i ∈ Region.ready md ops listed := mem_ready.2 ⟨hf, ops[i], Array.getElem?_eq_getElem hi, fun e he _ => by
   have h1 := hlt i ops[i] (Array.getElem?_eq_getElem hi) e he
   have h2 := ih e.on h1 (by omega) (by omega)
   have h3 : e.on < listed.size := by omega
   simp only [Array.getD_eq_getD_getElem?, Array.getElem?_eq_getElem h3, Option.getD_some] at h2 ⊢
   exact h2⟩
  rw [h] at hm
  cases hm
end
end Go.Proofs.YtocnmjpldpbioaaGreatDoor
