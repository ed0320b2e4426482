/- The layer sym: Reached of the program. -/
import Derived.Test.YtmnbalbiehlkpaaGreatDoorJSRr
import Derived.Test.YtmnbalbiehlkpaaGreatDoorJStmP
import Derived.Test.YtmnbalbiehlkpaaGreatDoorJSlot
import Derived.ScopeJumps
import Derived.WalkMore
import Derived.Deep.DeepCutAuto
set_option linter.unusedVariables false
set_option linter.unusedSimpArgs false
namespace Go.Proofs.YtmnbalbiehlkpaaGreatDoor
open Go.RowKit Go.Lib

theorem least_ex {p : Nat → Prop} (h : ∃ n, p n) : ∃ n, p n ∧ ∀ k, p k → n ≤ k := by
  classical
  obtain ⟨n, hn⟩ := h
  induction n using Nat.strongRecOn with
  | _ n ih =>
    by_cases hk : ∃ k, k < n ∧ p k
    · obtain ⟨k, h1, h2⟩ := hk
      exact ih k h1 h2
    · exact ⟨n, hn, fun k h => Nat.le_of_not_lt fun hlt => hk ⟨k, hlt, h⟩⟩
/-- A scope with jumps back to a label: a number that falls from jump to jump. -/
theorem wp_scope_ghost {P : Program} {a : Act} {w : World} {Q : Exit → Act → World → Prop} {c rest : Code} (l : Nat) (J : Nat → Act → World → Prop) (N : Nat) (hf : findLabel c l = some rest)
    (first : c.wp P (Exit.jump l (fun a' w' => ∃ n', n' < N ∧ J n' a' w') Q) a w)
    (pass : ∀ n a w, J n a w → rest.wp P (Exit.jump l (fun a' w' => ∃ n', n' < n ∧ J n' a' w') Q) a w) : (Code.scope c).wp P Q a w := by
  classical
  let μ : Act → World → Nat := fun a w => if h : ∃ n, J n a w then Classical.choose (least_ex h) else 0
  refine wp_scope_jumps l (fun a w => ∃ n, J n a w) μ hf (wp_mono first fun e a w h => ?_) (fun a w hJ => ?_)
  · cases e with
    | goto l' => exact ⟨h.1, by obtain ⟨n, _, hn⟩ := h.2; exact ⟨n, hn⟩⟩
    | _ => exact h
  · have hn := (Classical.choose_spec (least_ex hJ)).1
    refine wp_mono (pass _ a w hn) fun e a' w' h => ?_
    cases e with
    | goto l' =>
      obtain ⟨h1, n', h2, h3⟩ := h
      refine ⟨h1, ⟨n', h3⟩, ?_⟩
      have hex : ∃ n, J n a' w' := ⟨n', h3⟩
      show μ a' w' < μ a w
      simp only [μ, dif_pos hJ, dif_pos hex]
      exact Nat.lt_of_le_of_lt ((Classical.choose_spec (least_ex hex)).2 n' h3) h2
    | _ => exact h
theorem ownI_lit0 {W W' : World} {base : Nat} (h : Ext (W.alloc (.cells #[.int .i64 0] 3)) W') (hb : base ≤ W.heap.size) : OwnI W' base (.slice (some ⟨W.heap.size, 0, none⟩) 1 1) [0] :=
  Own.ext (w := W.alloc (.cells #[.int .i64 0] 3)) ⟨by simp, .inr ⟨W.heap.size, 1, #[.int .i64 0], rfl, hb, heap_alloc_new W _, by simp, by simp [maxLen], by simp, by simp⟩⟩ h
/-- The work as numbers. -/
def nI (l : List Nat) : List Int := l.map fun i : Nat => (i : Int)
theorem nI_snoc (l : List Nat) (i : Nat) : nI (l ++ [i]) = nI l ++ [(i : Int)] := by simp [nI]
theorem nI_len (l : List Nat) : (nI l).length = l.length := by simp [nI]
/-- What holds at the label. -/
def Lab24 (L : List Stmt) (W : World) (base g m : Nat) (vw : Value) (n : Nat) (w2 : World) : Prop := ∃ (ws : List Nat) (i : Nat) (s : List Bool) (gw cap : Nat), vw = .slice (some ⟨gw, 0, none⟩) (ws.length + 1) cap ∧ OwnI W base (.slice (some ⟨gw, 0, none⟩) (ws.length + 1) cap) (nI (ws ++ [i])) ∧ OwnBo W g (.slice (some ⟨g, 0, none⟩) m m) s ∧ Dfs L (ws ++ [i]) s ∧ 3 * (m - cnt s) + (ws.length + 1) ≤ n ∧ Ext w2 W
/-- What holds behind the step. -/
def Aft24 (L : List Stmt) (W : World) (base g m : Nat) (vw : Value) (n : Nat) (w2 : World) : Prop := ∃ (ws : List Nat) (s : List Bool) (A : Option Addr) (cap : Nat), vw = .slice A ws.length cap ∧ OwnI W base (.slice A ws.length cap) (nI ws) ∧ OwnBo W g (.slice (some ⟨g, 0, none⟩) m m) s ∧ Dfs L ws s ∧ 3 * (m - cnt s) + ws.length < n ∧ Ext w2 W
theorem cnt_set {s : List Bool} {i : Nat} (h : at24 s i = false) (hi : i < s.length) : cnt (s.set i true) = cnt s + 1 := by
  induction s generalizing i with
  | nil => simp at hi
  | cons b s ih =>
    cases i with
    | zero =>
      simp only [at24, List.getD_cons_zero] at h
      subst h
      simp [cnt]
    | succ i =>
      have h' : at24 s i = false := by simpa [at24] using h
      have := ih h' (by simpa using hi)
      rw [List.set_cons_succ]
      unfold cnt at *
      rw [List.countP_cons, List.countP_cons, this]
      omega
def JF (M : List Def) (L : List Stmt) (w : World) (A1 : Option Addr) (m1 c1 m c2 b o : Nat) (pa : Int) (n : Nat) (a' : Act) (W : World) : Prop :=
  ∃ (bm g : Nat) (w2 : World) (vw : Value) (u : Nat → Value), a' = { tmps := #[.agg #[.slice A1 m1 c1, .slice (some ⟨b, o, none⟩) m c2], .pointer (some ⟨w.heap.size, 0, none⟩), .slice none 0 0, .int .i64 pa, .int .i64 0, .map (some bm), .slice (some ⟨g, 0, none⟩) m m, vw, u 8, u 9, u 10, u 11, u 12, u 13, u 14, u 15, u 16, u 17, u 18, u 19, u 20, u 21, u 22, u 23, u 24, u 25, u 26, u 27, u 28, u 29, u 30, u 31, u 32, u 33, u 34, u 35, u 36, u 37, u 38, u 39, u 40, u 41, u 42, u 43, u 44, u 45, u 46, u 47, u 48, u 49, u 50, u 51, u 52, u 53, u 54, u 55, u 56, u 57, u 58, u 59, u 60, u 61, u 62, u 63, u 64, u 65, u 66, u 67, u 68, u 69, u 70, u 71, u 72, u 73, u 74, u 75, u 76, u 77, u 78, u 79, u 80, u 81, u 82, u 83, u 84, u 85, u 86, u 87, u 88, u 89], defers := [] } ∧ (MapS w2 bm (flat L).length (labAt L) ∧ RowV w2 w.heap.size 25 [.slice A1 m1 c1, .slice (some ⟨b, o, none⟩) m c2] ∧ Ext w w2 ∧ g = w2.heap.size) ∧ Lab24 L W w2.heap.size g m vw n w2 ∧ n ≤ 4000000
/-- The work behind a new statement. -/
def wk (J E : Bool) (ws : List Nat) (t i : Nat) : List Nat := ws ++ (if J then [t] else []) ++ (if E then [] else [i + 1])
theorem dfs_step {L : List Stmt} {ws : List Nat} {i t : Nat} {s : List Bool} {J E : Bool} (hg : Good24 L) (hD : Dfs L (ws ++ [i]) s) (h1 : J = true → to24 L i = (t : Nat)) (h0 : J = false → to24 L i < 0) (hE : fall24 L i = !E) (hlt : E = false → i + 1 < L.length) : Dfs L (wk J E ws t i) (s.set i true) := by
  unfold wk
  refine Dfs.new hg hD (fun x hx => ?_) (fun x hx => by simp [hx]) (fun hp => ?_) (fun hf hl => ?_)
  · cases J with
    | true =>
      have h := h1 rfl
      cases E with
      | true =>
        simp at hx
        rcases hx with hx | rfl
        · exact .inl hx
        · exact .inr (.inl ⟨by omega, by omega⟩)
      | false =>
        simp at hx
        rcases hx with hx | rfl | rfl
        · exact .inl hx
        · exact .inr (.inl ⟨by omega, by omega⟩)
        · exact .inr (.inr ⟨hE, rfl, hlt rfl⟩)
    | false =>
      cases E with
      | true => simp at hx; exact .inl hx
      | false =>
        simp at hx
        rcases hx with hx | rfl
        · exact .inl hx
        · exact .inr (.inr ⟨hE, rfl, hlt rfl⟩)
  · cases J with
    | true =>
      have h := h1 rfl
      have e : (to24 L i).toNat = t := by omega
      rw [e]; simp
    | false => have h := h0 rfl; omega
  · cases E with
    | true => rw [hE] at hf; cases hf
    | false => simp
theorem JF.mk {M : List Def} {L : List Stmt} {w : World} {A1 : Option Addr} {m1 c1 m c2 b o : Nat} {pa : Int} {n : Nat} {W : World} {T : Array Value} (bm g : Nat) (w2 : World) (vw : Value) (hT : T = #[.agg #[.slice A1 m1 c1, .slice (some ⟨b, o, none⟩) m c2], .pointer (some ⟨w.heap.size, 0, none⟩), .slice none 0 0, .int .i64 pa, .int .i64 0, .map (some bm), .slice (some ⟨g, 0, none⟩) m m, vw, T.getD 8 undef, T.getD 9 undef, T.getD 10 undef, T.getD 11 undef, T.getD 12 undef, T.getD 13 undef, T.getD 14 undef, T.getD 15 undef, T.getD 16 undef, T.getD 17 undef, T.getD 18 undef, T.getD 19 undef, T.getD 20 undef, T.getD 21 undef, T.getD 22 undef, T.getD 23 undef, T.getD 24 undef, T.getD 25 undef, T.getD 26 undef, T.getD 27 undef, T.getD 28 undef, T.getD 29 undef, T.getD 30 undef, T.getD 31 undef, T.getD 32 undef, T.getD 33 undef, T.getD 34 undef, T.getD 35 undef, T.getD 36 undef, T.getD 37 undef, T.getD 38 undef, T.getD 39 undef, T.getD 40 undef, T.getD 41 undef, T.getD 42 undef, T.getD 43 undef, T.getD 44 undef, T.getD 45 undef, T.getD 46 undef, T.getD 47 undef, T.getD 48 undef, T.getD 49 undef, T.getD 50 undef, T.getD 51 undef, T.getD 52 undef, T.getD 53 undef, T.getD 54 undef, T.getD 55 undef, T.getD 56 undef, T.getD 57 undef, T.getD 58 undef, T.getD 59 undef, T.getD 60 undef, T.getD 61 undef, T.getD 62 undef, T.getD 63 undef, T.getD 64 undef, T.getD 65 undef, T.getD 66 undef, T.getD 67 undef, T.getD 68 undef, T.getD 69 undef, T.getD 70 undef, T.getD 71 undef, T.getD 72 undef, T.getD 73 undef, T.getD 74 undef, T.getD 75 undef, T.getD 76 undef, T.getD 77 undef, T.getD 78 undef, T.getD 79 undef, T.getD 80 undef, T.getD 81 undef, T.getD 82 undef, T.getD 83 undef, T.getD 84 undef, T.getD 85 undef, T.getD 86 undef, T.getD 87 undef, T.getD 88 undef, T.getD 89 undef])
    (h1 : MapS w2 bm (flat L).length (labAt L) ∧ RowV w2 w.heap.size 25 [.slice A1 m1 c1, .slice (some ⟨b, o, none⟩) m c2] ∧ Ext w w2 ∧ g = w2.heap.size) (h2 : Lab24 L W w2.heap.size g m vw n w2) (h3 : n ≤ 4000000) : JF M L w A1 m1 c1 m c2 b o pa n { tmps := T, defers := [] } W :=
  ⟨bm, g, w2, vw, fun k => T.getD k undef, congrArg (fun T => ({ tmps := T, defers := [] } : Act)) hT, h1, h2, h3⟩
set_option maxRecDepth 100000 in
set_option maxHeartbeats 16000000 in
theorem symReached_any (A1 A2 : Option Addr) (m1 c1 m c2 : Nat) (M : List Def) (L : List Stmt) (w : World) (hm1 : m1 = M.length) (hm1l : m1 ≤ 100000) (hm : m = L.length) (hml : m ≤ 1000000) (hd : IsDefs w (.slice A1 m1 c1) M) (hv : IsStmts w (.slice A2 m c2) L) (hfl : (flat L).length ≤ 1000000) (hGl : Glob w) (hN : NoneV w) (hO : OpsN w) (hWd : WidN w) :
    Calls Tryz.prog 15 #[.agg #[.slice A1 m1 c1, .slice A2 m c2]] w fun e w' => ∃ v, e = .returned v ∧ IsInts w' v (reach24 M L) ∧ Ext w w' := by
  obtain ⟨W0, hW0⟩ : ∃ W0, W0 = w.alloc (.cells #[.slice A1 m1 c1, .slice A2 m c2] 25) := ⟨_, rfl⟩
  have e0 : Ext w W0 := by rw [hW0]; exact Ext.new w _
  have rP : RowV W0 w.heap.size 25 [.slice A1 m1 c1, .slice A2 m c2] := by rw [hW0]; exact RowV.new _ _ _
  have hCK := progCheck_any A1 A2 m1 c1 m c2 M L W0 hm1 hm1l hm hml (IsDefs.ext hd e0) (IsStmts.ext hv e0) hfl (hGl.ext e0) (hN.ext e0) (hO.ext e0) (hWd.ext e0)
  rw [hW0] at hCK
  have HCK := hx hCK
  have HLA := hx fun (W : World) (hW : Ext w W) => Labels_any A1 A2 m1 c1 m c2 L W hm hml (IsStmts.ext hv hW) hfl
  have HM := hx hm
  have HW0 := hx hW0
  have HR := hx (show reach24 M L = if (pchk M L).2 = 0 then idxT (rounds24 L m) m else [] by rw [hm]; rfl)
  have HPC := hx (show (pchk M L).2 = 0 → (Good24 L ∧ 0 < m) ∧ (∀ i, i < m → fall24 L i = true → i + 1 < m) ∧ (∀ i, i < m → jumpsX (L.getD i default).ins = neS (L.getD i default).target) ∧ ∀ i, i < m → neS (L.getD i default).target = true → 0 ≤ labX L (L.getD i default).target from fun h => by
    rw [hm]
    exact ⟨⟨good24 h (pchk_pos h), pchk_pos h⟩, fun i hi hf => fall_lt h hi hf, fun i hi => (jump_ne h hi).symm, fun i hi hn => (lab_in h hi hn).1⟩)
  generalize reach24 M L = R at *
  generalize pchk M L = PC at *
  clear hm hm1 hfl hCK hW0 hd hGl hN hWd
  obtain ⟨pa, pe⟩ := PC
  dsimp only at *
  by_cases hz : pe = 0
  · subst hz
    have HR2 := hx (HR.out.trans (if_pos rfl))
    obtain ⟨⟨hgd, hpos⟩, hfa, hju, hla⟩ := HPC.out rfl
    have HG := hx hgd
    have HFA := hx hfa
    have HJU := hx hju
    have HLX := hx hla
    clear HR HPC hgd hfa hju hla
    have hAA0 : ∃ b o, A2 = some ⟨b, o, none⟩ := by
      obtain ⟨b, o, h, _⟩ := hv.get (i := 0) (x := L.getD 0 default) (by rw [List.getD_eq_getElem?_getD, List.getElem?_eq_getElem (by rw [← HM.out]; exact hpos)]; rfl)
      exact ⟨b, o, h⟩
    obtain ⟨b, o, rfl⟩ := hAA0
    have HO := hx hO
    have HV := hx hv
    clear hO hv
    go_enter Tryz.func15, Tryz.ntmps15
    go_wp2
    refine wp_scope_ghost 0 (JF M L w A1 m1 c1 m c2 b o pa) (3 * m + 2) rfl ?_ ?_
    · go_wp2_with fail
      refine HCK.out.mono ?_
      rintro e w1 ⟨rfl, e1⟩
      rw [← HW0.out] at e1
      have r1 := hx (rP.ext e1)
      have q0 := r1.out.cell (i := 0) rfl
      have q1 := r1.out.cell (i := 1) rfl
      have E1 := hx (e0.trans e1)
      clear HCK HW0 rP e0 e1
      go_wp2_with fail
      refine (HLA.out _ E1.out).mono ?_
      rintro e w2 ⟨bm, rfl, m2, e2⟩
      have r2 := hx (r1.out.ext e2)
      replace q0 := r2.out.cell (i := 0) rfl
      replace q1 := r2.out.cell (i := 1) rfl
      have E2 := hx (E1.out.trans e2)
      have M2 := hx m2
      obtain ⟨W3, hrun, ob3, hg3⟩ := makeBo w2 w2.heap.size m hml (Nat.le_refl _)
      have e3 := hx ((Ext.refl w2).grown hg3 (fun k hk => by cases hk))
      have OB3 := hx ob3
      obtain ⟨W4, hW4⟩ : ∃ W4, W4 = W3.alloc (.cells #[.int .i64 0] 3) := ⟨_, rfl⟩
      have e4 := hx (e3.out.trans (show Ext W3 W4 by rw [hW4]; exact Ext.new _ _))
      have ow4 := hx (ownI_lit0 (W := W3) (W' := W4) (base := w2.heap.size) (by rw [hW4]; exact Ext.refl _) (e3.out.size))
      have HW4 := hx hW4
      clear e2 m2 r1 E1 HLA hg3 ob3 hW4
      go_wp2
      rw [← HW4.out]
      go_step3
      have hL : Lab24 L W4 w2.heap.size w2.heap.size m (.slice (some ⟨W3.heap.size, 0, none⟩) 1 1) (3 * m + 1) w2 :=
        ⟨[], 0, List.replicate m false, W3.heap.size, 1, rfl, ow4.out, OB3.out.ext (show Ext W3 W4 by rw [HW4.out]; exact Ext.new _ _), by have h := Dfs.start HG.out; rw [← HM.out] at h; exact h, by simp; omega, e4.out⟩
      obtain ⟨g, hg⟩ : ∃ g, g = w2.heap.size := ⟨_, rfl⟩
      obtain ⟨vw, hvw⟩ : ∃ vw, vw = Value.slice (some ⟨W3.heap.size, 0, none⟩) 1 1 := ⟨_, rfl⟩
      obtain ⟨n, hnn⟩ : ∃ n, n = 3 * m + 1 := ⟨_, rfl⟩
      obtain ⟨wr, hwr⟩ : ∃ wr, wr = W4 := ⟨_, rfl⟩
      have HG2 := hx hg
      have HNN := hx (show n < 3 * m + 2 ∧ n ≤ 4000000 by omega)
      have R2 := hx r2.out
      rw [← hvw, ← hnn, ← hwr] at hL
      rw [← hwr, ← hvw, ← hg]
      rw [← hg] at hL
      clear hg hvw hnn hwr HW4 e3 e4 OB3 ow4 hrun q0 q1 r2
      obtain ⟨ws, i, s, gw, cap, rfl, ow, ob, hD, hn, er⟩ := hL
      have hi : i < m := by rw [HM.out]; exact hD.wlt i (by simp)
      have hsl : s.length = m := hD.len.trans HM.out.symm
      have hcs := cnt_le s
      have h4 := HNN.out.2
      obtain ⟨q, hq⟩ : ∃ q, q = ws.length := ⟨_, rfl⟩
      have hql : (nI (ws ++ [i])).length = q + 1 := by rw [nI_len, List.length_append, hq]; rfl
      rw [← hq] at ow hn ⊢
      have hq4 : q ≤ 4000000 := by omega
      have w0 := ow.get (k := q) (x := (i : Int)) hql.symm (by rw [nI_snoc, List.getElem?_append_right (by rw [nI_len, hq]; exact Nat.le_refl _), nI_len, hq]; simp)
      have s0 := ob.get hsl.symm (at24_get hsl.symm hi)
      have hcp : q + 1 ≤ cap := by
        rcases ow.2 with ⟨h', _⟩ | ⟨g', cap', cur, h', _, _, h1, _⟩
        · cases h'
        · injection h' with _ h2 h3
          rw [hql] at h1
          omega
      rw [nI_snoc] at ow
      have ow5 := ow.pop (by rw [nI_len, hq])
      have OW5 := hx ow5
      have OB := hx ob
      have HD := hx hD
      have ER := hx er
      have HSL := hx hsl
      have HNQ := hx hn
      have HI := hx hi
      have HQ := hx hq
      have z0 := Own.frz ob i
      have iq1 : (q : Int) < (q : Int) + 1 := by omega
      have im1 : (i : Int) < (m : Int) := by omega
      obtain ⟨SB, hSB⟩ : ∃ SB, SB = at24 s i := ⟨_, rfl⟩
      rw [← hSB] at s0
      have HSB := hx hSB
      clear ow ob hD er hsl hn hql hq hSB ow5 hi hcs h4
      go_upto_if 42 with fail
      go_cut [7] (fun v wx => Aft24 L wx g g m v n w2)
      case first =>
        cases SB with
        | true =>
          have HSN := hx (HD.out.seen HSB.out.symm)
          have HLE := hx (show 3 * (m - cnt s) + ws.length < n by have := HNQ.out; have := HQ.out; omega)
          have OW6 := hx OW5.out
          rw [HQ.out] at OW6
          go_wp2
          go_meet
          exact ⟨ws, s, some ⟨gw, 0, none⟩, cap, by rw [HQ.out], OW6.out, OB.out, HSN.out, HLE.out, ER.out⟩
        | false =>
          obtain ⟨ob2, g2⟩ := OB.out.put HSL.out.symm i true
          have ow2 := OW5.out.kept g2 (by
            cases hb : (Value.slice (some ⟨gw, 0, none⟩) q cap).ownBlock with
            | none => exact .inl rfl
            | some r => exact .inr (fun e => by
                rcases Own.type_ne OB.out OW5.out (by decide) with h | h
                · cases h
                · exact h (by rw [hb]; exact e.symm)))
          have er2 := ER.out.grown g2 (fun k hk => by cases hk; rw [HG2.out]; exact Nat.le_refl _)
          obtain ⟨W5, hW5⟩ : ∃ W5, W5 = wr.setCell ⟨g, i, none⟩ (.bool true) := ⟨_, rfl⟩
          rw [← hW5] at ob2 ow2 er2
          have HW5 := hx hW5
          have OB2 := hx ob2
          have OW2 := hx ow2
          have ER2 := hx er2
          clear hW5 ob2 ow2 er2 g2
          go_upto_region 11 with fail
          rw [← HW5.out]
          obtain ⟨x, hx0⟩ : ∃ x, x = L.getD i default := ⟨_, rfl⟩
          have hgx : L[i]? = some x := by rw [hx0, List.getD_eq_getElem?_getD, List.getElem?_eq_getElem (by rw [← HM.out]; exact HI.out)]; rfl
          have X5 := hx (E2.out.trans ER2.out)
          obtain ⟨b1, o1, hbo, vl, d0, dl, ⟨d1, d2, d3, d4, d5, d6⟩, dok, ⟨d7, d7'⟩, d8, d8'⟩ := (IsStmts.ext HV.out X5.out).get hgx
          injection hbo with hbo
          injection hbo with hb1 hb2 _
          subst hb1 hb2
          have hju := HJU.out i HI.out
          have hlx := HLX.out i HI.out
          have hfa := HFA.out i HI.out
          have hto : to24 L i = if neS x.target then labX L x.target else -1 := by rw [hx0]; rfl
          have hfl : fall24 L i = !endsX x.ins := by rw [hx0]; rfl
          rw [← hx0] at hju hlx
          have HJ := hx fun (W : World) (hW : Ext w W) => insnJumps_any x.ins W dok (.inr (HO.out.ext hW))
          have HE := hx fun (W : World) (hW : Ext w W) => insnEnds_any x.ins W dok (.inr (HO.out.ext hW))
          obtain ⟨J, hJ⟩ : ∃ J, J = jumpsX x.ins := ⟨_, rfl⟩
          obtain ⟨E, hE⟩ : ∃ E, E = endsX x.ins := ⟨_, rfl⟩
          rw [← hJ] at hju HJ
          rw [← hE] at hfl HE
          have hlab : ∃ t : Nat, (J = true → (labAt L x.target).getD 0 = (t : Int) ∧ to24 L i = (t : Nat) ∧ (t : Int) < 100000000) ∧ (J = false → to24 L i < 0) := by
            rw [hto, ← hju]
            cases J with
            | false => exact ⟨0, (fun h => by cases h), fun _ => by simp⟩
            | true =>
              have h := hlx hju.symm
              have hbd := labX_bd L x.target
              have hmm := HM.out
              unfold labX at h hbd ⊢
              cases hl : labAt L x.target with
              | none => rw [hl] at h; simp at h
              | some v =>
                rw [hl] at h hbd
                simp only [Option.getD_some] at h hbd
                exact ⟨v.toNat, (fun _ => ⟨by simp; omega, by simp; omega, by omega⟩), fun h => by cases h⟩
          obtain ⟨t, ht1, ht0⟩ := hlab
          have HDN := hx (dfs_step (J := J) (E := E) (t := t) HG.out HD.out (fun h => (ht1 h).2.1) ht0 hfl (fun h => by rw [← HM.out]; exact hfa (by rw [hfl, h]; rfl)))
          have HT1 := hx ht1
          have HCN := hx (show cnt (s.set i true) = cnt s + 1 from cnt_set HSB.out.symm (by rw [HSL.out]; exact HI.out))
          have HCM := hx (show cnt s + 1 ≤ m by have h := cnt_le (s.set i true); rw [HCN.out, List.length_set, HSL.out] at h; exact h)
          have r5 := hx (R2.out.ext ER2.out)
          have q1 := r5.out.cell (i := 1) rfl
          obtain ⟨labels, ⟨op, reg, n1', n2', n3', n4'⟩, tt, tm⟩ := x
          dsimp only at *
          unfold Ins.v at HJ HE
          obtain ⟨W6, hW6⟩ : ∃ W6, W6 = W5.alloc (.cells #[.int .i64 op, .bool reg, .int .i64 n1', .int .i64 n2', .int .i64 n3', .int .i64 n4'] 53) := ⟨_, rfl⟩
          have e6 : Ext W5 W6 := by rw [hW6]; exact Ext.new _ _
          have r6 : RowV W6 W5.heap.size 53 [.int .i64 op, .bool reg, .int .i64 n1', .int .i64 n2', .int .i64 n3', .int .i64 n4'] := by rw [hW6]; exact RowV.new _ _ _
          have X6 := hx (X5.out.trans e6)
          have E6 := hx e6
          have R6 := hx r6
          have HW6 := hx hW6
          have D7 := hx d7
          have D7s := hx d7'
          clear hx0 hgx dl dok d7' d8 d8' d0 hju hlx hfa hto hfl hJ hE ht1 ht0 e6 r6 hW6 vl
          go_wp2_with fail
          rw [← HW6.out]
          refine (HJ.out _ X6.out).mono ?_
          rintro e w7 ⟨rfl, e7⟩
          have X7 := hx (X6.out.trans e7)
          have E7 := hx (E6.out.trans e7)
          have R7 := hx (R6.out.ext e7)
          have c0 := R7.out.cell (i := 0) rfl
          have c1' := R7.out.cell (i := 1) rfl
          have c2' := R7.out.cell (i := 2) rfl
          have c3' := R7.out.cell (i := 3) rfl
          have c4' := R7.out.cell (i := 4) rfl
          have c5' := R7.out.cell (i := 5) rfl
          replace q1 := (r5.out.ext E7.out).cell (i := 1) rfl
          replace d7 := E7.out.cell D7.out
          have hlk := (M2.out.ext (ER2.out.trans E7.out)).lookF tt D7s.out
          have OW7 := OW2.out.ext E7.out
          have OB7 := hx (OB2.out.ext E7.out)
          have ER7 := hx (ER2.out.trans E7.out)
          have H8 := hx (show ((nI ws).length + 1) * 8 ≤ 140737488355328 by rw [nI_len, ← HQ.out]; omega)
          have HB7 := hx (show g ≤ w7.heap.size by rw [HG2.out]; exact ER7.out.size)
          clear e7 d1 d2 d3 d4 d5 d6 HJ
          cases J with
          | true =>
            obtain ⟨ht1, -, htb⟩ := HT1.out rfl
            rw [ht1] at hlk
            clear ht1 htb
            go_wp2_with (at_builtin; refine wp_app1 tyI encI_ok OW7 ((t : Int)) rfl rfl rfl rfl rfl HB7.out (by decide) H8.out ?_; intro g8 cap8 w8 ow8 hg8 ha8 hb8
                         have OB8 := hx (OB7.out.kept hg8 (Own.type_ne OB7.out OW7 (by decide)))
                         have ER8 := hx (ER7.out.grown hg8 (fun k hk => by rw [← HG2.out]; exact OW7.base_le k hk))
                         have R8 := hx (R7.out.keep hg8 (own_neV OW7 (by decide) R7.out))
                         have k0 := R8.out.cell (i := 0) rfl
                         have k1 := R8.out.cell (i := 1) rfl
                         have k2 := R8.out.cell (i := 2) rfl
                         have k3 := R8.out.cell (i := 3) rfl
                         have k4 := R8.out.cell (i := 4) rfl
                         have k5 := R8.out.cell (i := 5) rfl
                         have X8 := hx (E2.out.trans ER8.out)
                         clear hg8 ha8 hb8)
            refine (HE.out _ X8.out).mono ?_
            rintro e w9 ⟨rfl, e9⟩
            have OW9 := ow8.ext e9
            have OB9 := hx (OB8.out.ext e9)
            have ER9 := hx (ER8.out.trans e9)
            have H89 := hx (show ((nI ws ++ [(t : Int)]).length + 1) * 8 ≤ 140737488355328 by rw [List.length_append, nI_len, ← HQ.out]; simp; omega)
            have HB9 := hx (show g ≤ w9.heap.size by rw [HG2.out]; exact ER9.out.size)
            clear k0 k1 k2 k3 k4 k5 e9 HE c0 c1' c2' c3' c4' c5' hlk d7 q1
            cases E with
            | true =>
              have OW9' := hx OW9
              clear OW9
              go_wp2
              go_meet
              exact ⟨wk true true ws t i, s.set i true, some ⟨g8, 0, none⟩, cap8, by rw [show (wk true true ws t i).length = (nI ws).length + 1 by simp [wk, nI_len]], by rw [show (wk true true ws t i).length = (nI ws).length + 1 by simp [wk, nI_len], show nI (wk true true ws t i) = nI ws ++ [(t : Int)] by simp [wk, nI]]; exact OW9'.out, OB9.out, HDN.out, (by have := HNQ.out; have := HQ.out; have := HCN.out; have := HCM.out; simp [wk]; omega), ER9.out⟩
            | false =>
              obtain ⟨L2, hL2⟩ : ∃ L2, L2 = nI ws ++ [(t : Int)] := ⟨_, rfl⟩
              have hlen9 : L2.length = (nI ws).length + 1 := by rw [hL2]; simp
              rw [← hL2] at OW9 H89
              rw [← hlen9] at OW9
              have HL9 := hx hlen9
              have HL2 := hx hL2
              rw [← HL9.out]
              clear hlen9 hL2
              go_wp2_with (at_builtin; refine wp_app1 tyI encI_ok OW9 (((i : Int) + 1)) rfl rfl rfl rfl rfl HB9.out (by decide) H89.out ?_; intro g10 cap10 w10 ow10 hg10 ha10 hb10
                           have OB10 := hx (OB9.out.kept hg10 (Own.type_ne OB9.out OW9 (by decide)))
                           have ER10 := hx (ER9.out.grown hg10 (fun k hk => by rw [← HG2.out]; exact OW9.base_le k hk))
                           clear hg10 ha10 hb10)
              go_meet
              exact ⟨wk true false ws t i, s.set i true, some ⟨g10, 0, none⟩, cap10, by rw [show (wk true false ws t i).length = L2.length + 1 by rw [HL2.out]; simp [wk, nI_len]], by rw [show (wk true false ws t i).length = L2.length + 1 by rw [HL2.out]; simp [wk, nI_len], show nI (wk true false ws t i) = L2 ++ [(i : Int) + 1] by rw [HL2.out]; simp [wk, nI]]; exact ow10, OB10.out, HDN.out, (by have := HNQ.out; have := HQ.out; have := HCN.out; have := HCM.out; simp [wk]; omega), ER10.out⟩
          | false =>
            go_wp2_with fail
            refine (HE.out _ X7.out).mono ?_
            rintro e w9 ⟨rfl, e9⟩
            have OW9 := OW7.ext e9
            have OB9 := hx (OB7.out.ext e9)
            have ER9 := hx (ER7.out.trans e9)
            have HB9 := hx (show g ≤ w9.heap.size by rw [HG2.out]; exact ER9.out.size)
            clear e9 HE c0 c1' c2' c3' c4' c5' hlk d7 q1 OW7
            cases E with
            | true =>
              rw [HQ.out] at OW9
              have OW9' := hx OW9
              clear OW9
              go_wp2
              go_meet
              exact ⟨wk false true ws t i, s.set i true, some ⟨gw, 0, none⟩, cap, by rw [HQ.out]; simp [wk], by rw [show (wk false true ws t i) = ws by simp [wk]]; exact OW9'.out, OB9.out, HDN.out, (by have := HNQ.out; have := HQ.out; have := HCN.out; have := HCM.out; simp [wk]; omega), ER9.out⟩
            | false =>
              have hlen9 : (nI ws).length = q := by rw [nI_len, HQ.out]
              rw [← hlen9] at OW9
              have HL9 := hx hlen9
              rw [← HL9.out]
              clear hlen9
              go_wp2_with (at_builtin; refine wp_app1 tyI encI_ok OW9 (((i : Int) + 1)) rfl rfl rfl rfl rfl HB9.out (by decide) H8.out ?_; intro g10 cap10 w10 ow10 hg10 ha10 hb10
                           have OB10 := hx (OB9.out.kept hg10 (Own.type_ne OB9.out OW9 (by decide)))
                           have ER10 := hx (ER9.out.grown hg10 (fun k hk => by rw [← HG2.out]; exact OW9.base_le k hk))
                           clear hg10 ha10 hb10)
              go_meet
              exact ⟨wk false false ws t i, s.set i true, some ⟨g10, 0, none⟩, cap10, by rw [show (wk false false ws t i).length = (nI ws).length + 1 by simp [wk, nI_len]], by rw [show (wk false false ws t i).length = (nI ws).length + 1 by simp [wk, nI_len], show nI (wk false false ws t i) = nI ws ++ [(i : Int) + 1] by simp [wk, nI]]; exact ow10, OB10.out, HDN.out, (by have := HNQ.out; have := HQ.out; have := HCN.out; have := HCM.out; simp [wk]; omega), ER10.out⟩
      case rest =>
        clear HNQ HI HQ HSB HSL HD OB OW5 ER w0 s0 z0 iq1 im1 hcp
        obtain ⟨ws2, s2, A5, cap5, rfl, ow, ob, hD, hn, er⟩ := hcut
        rcases List.eq_nil_or_concat ws2 with rfl | ⟨ws3, i3, hw3⟩
        · have hS2 := hD.done HG.out
          rw [← HM.out] at hS2
          have HSL2 := hx (hD.len.trans HM.out.symm)
          have HRS := hx (HR2.out.trans (show idxT (rounds24 L m) m = idxT s2 m by rw [hS2]))
          have OB := hx ob
          have ER := hx er
          clear hS2 hD hn ow ob er
          simp only [List.length_nil]
          go_wp2
          go_loopw [10, 78] (fun vo i wi => ∃ j : Nat, j ≤ m ∧ i = .int .i64 (j : Nat) ∧ OwnI wi g vo (idxT s2 j) ∧ OwnBo wi g (.slice (some ⟨g, 0, none⟩) m m) s2 ∧ Ext w2 wi) (fun _ i _ => m - (RowKit.intOf i).toNat)
          case atStart => exact ⟨0, by omega, rfl, Own.nil _ _ _ _ _, OB.out, ER.out⟩
          case round =>
            clear OB ER
            obtain ⟨j, hj, rfl, ov, ob, ei⟩ := hrel
            obtain ⟨A3, c3, rfl⟩ := ov.slice
            by_cases hlt : j < m
            · have hkm : (j : Int) < (m : Int) := by omega
              have b1 := ob.get HSL2.out.symm (at24_get HSL2.out.symm hlt)
              have hsc := idxT_succ s2 j
              have H8 := hx (show ((idxT s2 j).length + 1) * 8 ≤ 140737488355328 by have := idxT_len s2 j; omega)
              have HB2 := hx (show g ≤ wr.heap.size by rw [HG2.out]; exact ei.size)
              have HLT := hx hlt
              have OB := hx ob
              have EI := hx ei
              cases hS : at24 s2 j with
              | false =>
                rw [hS] at b1 hsc
                have HSC := hx hsc
                have OV := hx ov
                clear hsc hS ov ob ei hlt
                go_wp2
                go_roundw
                case rel => exact ⟨j + 1, by have := HLT.out; omega, by go_num, by rw [HSC.out]; simpa using OV.out, OB.out, EI.out⟩
                case measure => simp [RowKit.intOf]; have := HLT.out; omega
              | true =>
                rw [hS] at b1 hsc
                have HSC := hx hsc
                have HNE := hx (Own.type_ne ob ov (by decide))
                clear hsc hS ob ei hlt
                generalize idxT s2 j = I at *
                go_wp2_with (at_builtin; refine wp_app1 tyI encI_ok ov (j : Int) rfl rfl rfl rfl rfl HB2.out (by decide) H8.out ?_; intro g1 cap1 w3 os3 hg3 hat3 hbg3
                             have HOB := hx (OB.out.kept hg3 HNE.out)
                             have HEI := hx (EI.out.grown hg3 (fun k hk => by rw [← HG2.out]; exact ov.base_le k hk))
                             clear hg3 hat3 ov)
                go_roundw
                case rel => exact ⟨j + 1, by have := HLT.out; omega, by go_num, by rw [HSC.out]; exact os3, HOB.out, HEI.out⟩
                case measure => simp [RowKit.intOf]; have := HLT.out; omega
            · obtain rfl : m = j := by omega
              have OV := hx ov
              have EI := hx ei
              have HLT3 := hx hlt
              clear ov ob ei hlt
              go_wp2
              try simp only [Exit.jump]
              go_ret
              exact ⟨_, rfl, by rw [HRS.out]; exact OV.out.read (idxT_i64 hml) (by have := idxT_len s2 m; omega), E2.out.trans EI.out⟩
        · rw [List.concat_eq_append] at hw3
          have hl3 : ws2.length = ws3.length + 1 := by rw [hw3]; simp
          have hA5 : ∃ g5, A5 = some ⟨g5, 0, none⟩ := by
            rcases ow.2 with ⟨h', _⟩ | ⟨g', cap', cur, h', _⟩
            · injection h' with h1 h2 _; omega
            · injection h' with h1 _ _; exact ⟨g', h1⟩
          obtain ⟨g5, rfl⟩ := hA5
          rw [hl3] at ow hn ⊢
          subst hw3
          have OW := hx ow
          have OB := hx ob
          have HD := hx hD
          have ER := hx er
          have HN' := hx hn
          obtain ⟨q3, hq3⟩ : ∃ q3, q3 = ws3.length := ⟨_, rfl⟩
          rw [← hq3]
          have HQ3 := hx hq3
          have dq : (0 : Int) < (q3 : Int) + 1 := by omega
          clear ow ob hD er hn hl3 hq3
          go_wp2
          go_step3
          refine ⟨rfl, 3 * (m - cnt s2) + (ws3.length + 1), by have := HN'.out; have := HNN.out.1; omega, JF.mk bm g w2 (.slice (some ⟨g5, 0, none⟩) (q3 + 1) cap5) rfl ⟨M2.out, R2.out, E2.out, HG2.out⟩ ⟨ws3, i3, s2, g5, cap5, by rw [HQ3.out], by rw [← HG2.out]; exact OW.out, OB.out, HD.out, Nat.le_refl _, ER.out⟩ (by have := HN'.out; have := HNN.out.2; omega)⟩
    · rintro n a' wr ⟨bm, g, w2, vw, u, rfl, ⟨m2, r2, e2, hg⟩, hL, hn4⟩
      rw [← hg] at hL
      have HG2 := hx hg
      have HNN := hx (show n < n + 1 ∧ n ≤ 4000000 by omega)
      have R2 := hx r2
      have M2 := hx m2
      have E2 := hx e2
      clear hg hn4 r2 m2 e2 e0 rP HCK HLA HW0
      obtain ⟨ws, i, s, gw, cap, rfl, ow, ob, hD, hn, er⟩ := hL
      have hi : i < m := by rw [HM.out]; exact hD.wlt i (by simp)
      have hsl : s.length = m := hD.len.trans HM.out.symm
      have hcs := cnt_le s
      have h4 := HNN.out.2
      obtain ⟨q, hq⟩ : ∃ q, q = ws.length := ⟨_, rfl⟩
      have hql : (nI (ws ++ [i])).length = q + 1 := by rw [nI_len, List.length_append, hq]; rfl
      rw [← hq] at ow hn ⊢
      have hq4 : q ≤ 4000000 := by omega
      have w0 := ow.get (k := q) (x := (i : Int)) hql.symm (by rw [nI_snoc, List.getElem?_append_right (by rw [nI_len, hq]; exact Nat.le_refl _), nI_len, hq]; simp)
      have s0 := ob.get hsl.symm (at24_get hsl.symm hi)
      have hcp : q + 1 ≤ cap := by
        rcases ow.2 with ⟨h', _⟩ | ⟨g', cap', cur, h', _, _, h1, _⟩
        · cases h'
        · injection h' with _ h2 h3
          rw [hql] at h1
          omega
      rw [nI_snoc] at ow
      have ow5 := ow.pop (by rw [nI_len, hq])
      have OW5 := hx ow5
      have OB := hx ob
      have HD := hx hD
      have ER := hx er
      have HSL := hx hsl
      have HNQ := hx hn
      have HI := hx hi
      have HQ := hx hq
      have z0 := Own.frz ob i
      have iq1 : (q : Int) < (q : Int) + 1 := by omega
      have im1 : (i : Int) < (m : Int) := by omega
      obtain ⟨SB, hSB⟩ : ∃ SB, SB = at24 s i := ⟨_, rfl⟩
      rw [← hSB] at s0
      have HSB := hx hSB
      clear ow ob hD er hsl hn hql hq hSB ow5 hi hcs h4
      go_upto_if 42 with fail
      go_cut [7] (fun v wx => Aft24 L wx g g m v n w2)
      case first =>
        cases SB with
        | true =>
          have HSN := hx (HD.out.seen HSB.out.symm)
          have HLE := hx (show 3 * (m - cnt s) + ws.length < n by have := HNQ.out; have := HQ.out; omega)
          have OW6 := hx OW5.out
          rw [HQ.out] at OW6
          go_wp2
          go_meet
          exact ⟨ws, s, some ⟨gw, 0, none⟩, cap, by rw [HQ.out], OW6.out, OB.out, HSN.out, HLE.out, ER.out⟩
        | false =>
          obtain ⟨ob2, g2⟩ := OB.out.put HSL.out.symm i true
          have ow2 := OW5.out.kept g2 (by
            cases hb : (Value.slice (some ⟨gw, 0, none⟩) q cap).ownBlock with
            | none => exact .inl rfl
            | some r => exact .inr (fun e => by
                rcases Own.type_ne OB.out OW5.out (by decide) with h | h
                · cases h
                · exact h (by rw [hb]; exact e.symm)))
          have er2 := ER.out.grown g2 (fun k hk => by cases hk; rw [HG2.out]; exact Nat.le_refl _)
          obtain ⟨W5, hW5⟩ : ∃ W5, W5 = wr.setCell ⟨g, i, none⟩ (.bool true) := ⟨_, rfl⟩
          rw [← hW5] at ob2 ow2 er2
          have HW5 := hx hW5
          have OB2 := hx ob2
          have OW2 := hx ow2
          have ER2 := hx er2
          clear hW5 ob2 ow2 er2 g2
          go_upto_region 11 with fail
          rw [← HW5.out]
          obtain ⟨x, hx0⟩ : ∃ x, x = L.getD i default := ⟨_, rfl⟩
          have hgx : L[i]? = some x := by rw [hx0, List.getD_eq_getElem?_getD, List.getElem?_eq_getElem (by rw [← HM.out]; exact HI.out)]; rfl
          have X5 := hx (E2.out.trans ER2.out)
          obtain ⟨b1, o1, hbo, vl, d0, dl, ⟨d1, d2, d3, d4, d5, d6⟩, dok, ⟨d7, d7'⟩, d8, d8'⟩ := (IsStmts.ext HV.out X5.out).get hgx
          injection hbo with hbo
          injection hbo with hb1 hb2 _
          subst hb1 hb2
          have hju := HJU.out i HI.out
          have hlx := HLX.out i HI.out
          have hfa := HFA.out i HI.out
          have hto : to24 L i = if neS x.target then labX L x.target else -1 := by rw [hx0]; rfl
          have hfl : fall24 L i = !endsX x.ins := by rw [hx0]; rfl
          rw [← hx0] at hju hlx
          have HJ := hx fun (W : World) (hW : Ext w W) => insnJumps_any x.ins W dok (.inr (HO.out.ext hW))
          have HE := hx fun (W : World) (hW : Ext w W) => insnEnds_any x.ins W dok (.inr (HO.out.ext hW))
          obtain ⟨J, hJ⟩ : ∃ J, J = jumpsX x.ins := ⟨_, rfl⟩
          obtain ⟨E, hE⟩ : ∃ E, E = endsX x.ins := ⟨_, rfl⟩
          rw [← hJ] at hju HJ
          rw [← hE] at hfl HE
          have hlab : ∃ t : Nat, (J = true → (labAt L x.target).getD 0 = (t : Int) ∧ to24 L i = (t : Nat) ∧ (t : Int) < 100000000) ∧ (J = false → to24 L i < 0) := by
            rw [hto, ← hju]
            cases J with
            | false => exact ⟨0, (fun h => by cases h), fun _ => by simp⟩
            | true =>
              have h := hlx hju.symm
              have hbd := labX_bd L x.target
              have hmm := HM.out
              unfold labX at h hbd ⊢
              cases hl : labAt L x.target with
              | none => rw [hl] at h; simp at h
              | some v =>
                rw [hl] at h hbd
                simp only [Option.getD_some] at h hbd
                exact ⟨v.toNat, (fun _ => ⟨by simp; omega, by simp; omega, by omega⟩), fun h => by cases h⟩
          obtain ⟨t, ht1, ht0⟩ := hlab
          have HDN := hx (dfs_step (J := J) (E := E) (t := t) HG.out HD.out (fun h => (ht1 h).2.1) ht0 hfl (fun h => by rw [← HM.out]; exact hfa (by rw [hfl, h]; rfl)))
          have HT1 := hx ht1
          have HCN := hx (show cnt (s.set i true) = cnt s + 1 from cnt_set HSB.out.symm (by rw [HSL.out]; exact HI.out))
          have HCM := hx (show cnt s + 1 ≤ m by have h := cnt_le (s.set i true); rw [HCN.out, List.length_set, HSL.out] at h; exact h)
          have r5 := hx (R2.out.ext ER2.out)
          have q1 := r5.out.cell (i := 1) rfl
          obtain ⟨labels, ⟨op, reg, n1', n2', n3', n4'⟩, tt, tm⟩ := x
          dsimp only at *
          unfold Ins.v at HJ HE
          obtain ⟨W6, hW6⟩ : ∃ W6, W6 = W5.alloc (.cells #[.int .i64 op, .bool reg, .int .i64 n1', .int .i64 n2', .int .i64 n3', .int .i64 n4'] 53) := ⟨_, rfl⟩
          have e6 : Ext W5 W6 := by rw [hW6]; exact Ext.new _ _
          have r6 : RowV W6 W5.heap.size 53 [.int .i64 op, .bool reg, .int .i64 n1', .int .i64 n2', .int .i64 n3', .int .i64 n4'] := by rw [hW6]; exact RowV.new _ _ _
          have X6 := hx (X5.out.trans e6)
          have E6 := hx e6
          have R6 := hx r6
          have HW6 := hx hW6
          have D7 := hx d7
          have D7s := hx d7'
          clear hx0 hgx dl dok d7' d8 d8' d0 hju hlx hfa hto hfl hJ hE ht1 ht0 e6 r6 hW6 vl
          go_wp2_with fail
          rw [← HW6.out]
          refine (HJ.out _ X6.out).mono ?_
          rintro e w7 ⟨rfl, e7⟩
          have X7 := hx (X6.out.trans e7)
          have E7 := hx (E6.out.trans e7)
          have R7 := hx (R6.out.ext e7)
          have c0 := R7.out.cell (i := 0) rfl
          have c1' := R7.out.cell (i := 1) rfl
          have c2' := R7.out.cell (i := 2) rfl
          have c3' := R7.out.cell (i := 3) rfl
          have c4' := R7.out.cell (i := 4) rfl
          have c5' := R7.out.cell (i := 5) rfl
          replace q1 := (r5.out.ext E7.out).cell (i := 1) rfl
          replace d7 := E7.out.cell D7.out
          have hlk := (M2.out.ext (ER2.out.trans E7.out)).lookF tt D7s.out
          have OW7 := OW2.out.ext E7.out
          have OB7 := hx (OB2.out.ext E7.out)
          have ER7 := hx (ER2.out.trans E7.out)
          have H8 := hx (show ((nI ws).length + 1) * 8 ≤ 140737488355328 by rw [nI_len, ← HQ.out]; omega)
          have HB7 := hx (show g ≤ w7.heap.size by rw [HG2.out]; exact ER7.out.size)
          clear e7 d1 d2 d3 d4 d5 d6 HJ
          cases J with
          | true =>
            obtain ⟨ht1, -, htb⟩ := HT1.out rfl
            rw [ht1] at hlk
            clear ht1 htb
            go_wp2_with (at_builtin; refine wp_app1 tyI encI_ok OW7 ((t : Int)) rfl rfl rfl rfl rfl HB7.out (by decide) H8.out ?_; intro g8 cap8 w8 ow8 hg8 ha8 hb8
                         have OB8 := hx (OB7.out.kept hg8 (Own.type_ne OB7.out OW7 (by decide)))
                         have ER8 := hx (ER7.out.grown hg8 (fun k hk => by rw [← HG2.out]; exact OW7.base_le k hk))
                         have R8 := hx (R7.out.keep hg8 (own_neV OW7 (by decide) R7.out))
                         have k0 := R8.out.cell (i := 0) rfl
                         have k1 := R8.out.cell (i := 1) rfl
                         have k2 := R8.out.cell (i := 2) rfl
                         have k3 := R8.out.cell (i := 3) rfl
                         have k4 := R8.out.cell (i := 4) rfl
                         have k5 := R8.out.cell (i := 5) rfl
                         have X8 := hx (E2.out.trans ER8.out)
                         clear hg8 ha8 hb8)
            refine (HE.out _ X8.out).mono ?_
            rintro e w9 ⟨rfl, e9⟩
            have OW9 := ow8.ext e9
            have OB9 := hx (OB8.out.ext e9)
            have ER9 := hx (ER8.out.trans e9)
            have H89 := hx (show ((nI ws ++ [(t : Int)]).length + 1) * 8 ≤ 140737488355328 by rw [List.length_append, nI_len, ← HQ.out]; simp; omega)
            have HB9 := hx (show g ≤ w9.heap.size by rw [HG2.out]; exact ER9.out.size)
            clear k0 k1 k2 k3 k4 k5 e9 HE c0 c1' c2' c3' c4' c5' hlk d7 q1
            cases E with
            | true =>
              have OW9' := hx OW9
              clear OW9
              go_wp2
              go_meet
              exact ⟨wk true true ws t i, s.set i true, some ⟨g8, 0, none⟩, cap8, by rw [show (wk true true ws t i).length = (nI ws).length + 1 by simp [wk, nI_len]], by rw [show (wk true true ws t i).length = (nI ws).length + 1 by simp [wk, nI_len], show nI (wk true true ws t i) = nI ws ++ [(t : Int)] by simp [wk, nI]]; exact OW9'.out, OB9.out, HDN.out, (by have := HNQ.out; have := HQ.out; have := HCN.out; have := HCM.out; simp [wk]; omega), ER9.out⟩
            | false =>
              obtain ⟨L2, hL2⟩ : ∃ L2, L2 = nI ws ++ [(t : Int)] := ⟨_, rfl⟩
              have hlen9 : L2.length = (nI ws).length + 1 := by rw [hL2]; simp
              rw [← hL2] at OW9 H89
              rw [← hlen9] at OW9
              have HL9 := hx hlen9
              have HL2 := hx hL2
              rw [← HL9.out]
              clear hlen9 hL2
              go_wp2_with (at_builtin; refine wp_app1 tyI encI_ok OW9 (((i : Int) + 1)) rfl rfl rfl rfl rfl HB9.out (by decide) H89.out ?_; intro g10 cap10 w10 ow10 hg10 ha10 hb10
                           have OB10 := hx (OB9.out.kept hg10 (Own.type_ne OB9.out OW9 (by decide)))
                           have ER10 := hx (ER9.out.grown hg10 (fun k hk => by rw [← HG2.out]; exact OW9.base_le k hk))
                           clear hg10 ha10 hb10)
              go_meet
              exact ⟨wk true false ws t i, s.set i true, some ⟨g10, 0, none⟩, cap10, by rw [show (wk true false ws t i).length = L2.length + 1 by rw [HL2.out]; simp [wk, nI_len]], by rw [show (wk true false ws t i).length = L2.length + 1 by rw [HL2.out]; simp [wk, nI_len], show nI (wk true false ws t i) = L2 ++ [(i : Int) + 1] by rw [HL2.out]; simp [wk, nI]]; exact ow10, OB10.out, HDN.out, (by have := HNQ.out; have := HQ.out; have := HCN.out; have := HCM.out; simp [wk]; omega), ER10.out⟩
          | false =>
            go_wp2_with fail
            refine (HE.out _ X7.out).mono ?_
            rintro e w9 ⟨rfl, e9⟩
            have OW9 := OW7.ext e9
            have OB9 := hx (OB7.out.ext e9)
            have ER9 := hx (ER7.out.trans e9)
            have HB9 := hx (show g ≤ w9.heap.size by rw [HG2.out]; exact ER9.out.size)
            clear e9 HE c0 c1' c2' c3' c4' c5' hlk d7 q1 OW7
            cases E with
            | true =>
              rw [HQ.out] at OW9
              have OW9' := hx OW9
              clear OW9
              go_wp2
              go_meet
              exact ⟨wk false true ws t i, s.set i true, some ⟨gw, 0, none⟩, cap, by rw [HQ.out]; simp [wk], by rw [show (wk false true ws t i) = ws by simp [wk]]; exact OW9'.out, OB9.out, HDN.out, (by have := HNQ.out; have := HQ.out; have := HCN.out; have := HCM.out; simp [wk]; omega), ER9.out⟩
            | false =>
              have hlen9 : (nI ws).length = q := by rw [nI_len, HQ.out]
              rw [← hlen9] at OW9
              have HL9 := hx hlen9
              rw [← HL9.out]
              clear hlen9
              go_wp2_with (at_builtin; refine wp_app1 tyI encI_ok OW9 (((i : Int) + 1)) rfl rfl rfl rfl rfl HB9.out (by decide) H8.out ?_; intro g10 cap10 w10 ow10 hg10 ha10 hb10
                           have OB10 := hx (OB9.out.kept hg10 (Own.type_ne OB9.out OW9 (by decide)))
                           have ER10 := hx (ER9.out.grown hg10 (fun k hk => by rw [← HG2.out]; exact OW9.base_le k hk))
                           clear hg10 ha10 hb10)
              go_meet
              exact ⟨wk false false ws t i, s.set i true, some ⟨g10, 0, none⟩, cap10, by rw [show (wk false false ws t i).length = (nI ws).length + 1 by simp [wk, nI_len]], by rw [show (wk false false ws t i).length = (nI ws).length + 1 by simp [wk, nI_len], show nI (wk false false ws t i) = nI ws ++ [(i : Int) + 1] by simp [wk, nI]]; exact ow10, OB10.out, HDN.out, (by have := HNQ.out; have := HQ.out; have := HCN.out; have := HCM.out; simp [wk]; omega), ER10.out⟩
      case rest =>
        clear HNQ HI HQ HSB HSL HD OB OW5 ER w0 s0 z0 iq1 im1 hcp
        obtain ⟨ws2, s2, A5, cap5, rfl, ow, ob, hD, hn, er⟩ := hcut
        rcases List.eq_nil_or_concat ws2 with rfl | ⟨ws3, i3, hw3⟩
        · have hS2 := hD.done HG.out
          rw [← HM.out] at hS2
          have HSL2 := hx (hD.len.trans HM.out.symm)
          have HRS := hx (HR2.out.trans (show idxT (rounds24 L m) m = idxT s2 m by rw [hS2]))
          have OB := hx ob
          have ER := hx er
          clear hS2 hD hn ow ob er
          simp only [List.length_nil]
          go_wp2
          go_loopw [10, 78] (fun vo i wi => ∃ j : Nat, j ≤ m ∧ i = .int .i64 (j : Nat) ∧ OwnI wi g vo (idxT s2 j) ∧ OwnBo wi g (.slice (some ⟨g, 0, none⟩) m m) s2 ∧ Ext w2 wi) (fun _ i _ => m - (RowKit.intOf i).toNat)
          case atStart => exact ⟨0, by omega, rfl, Own.nil _ _ _ _ _, OB.out, ER.out⟩
          case round =>
            clear OB ER
            obtain ⟨j, hj, rfl, ov, ob, ei⟩ := hrel
            obtain ⟨A3, c3, rfl⟩ := ov.slice
            by_cases hlt : j < m
            · have hkm : (j : Int) < (m : Int) := by omega
              have b1 := ob.get HSL2.out.symm (at24_get HSL2.out.symm hlt)
              have hsc := idxT_succ s2 j
              have H8 := hx (show ((idxT s2 j).length + 1) * 8 ≤ 140737488355328 by have := idxT_len s2 j; omega)
              have HB2 := hx (show g ≤ wr.heap.size by rw [HG2.out]; exact ei.size)
              have HLT := hx hlt
              have OB := hx ob
              have EI := hx ei
              cases hS : at24 s2 j with
              | false =>
                rw [hS] at b1 hsc
                have HSC := hx hsc
                have OV := hx ov
                clear hsc hS ov ob ei hlt
                go_wp2
                go_roundw
                case rel => exact ⟨j + 1, by have := HLT.out; omega, by go_num, by rw [HSC.out]; simpa using OV.out, OB.out, EI.out⟩
                case measure => simp [RowKit.intOf]; have := HLT.out; omega
              | true =>
                rw [hS] at b1 hsc
                have HSC := hx hsc
                have HNE := hx (Own.type_ne ob ov (by decide))
                clear hsc hS ob ei hlt
                generalize idxT s2 j = I at *
                go_wp2_with (at_builtin; refine wp_app1 tyI encI_ok ov (j : Int) rfl rfl rfl rfl rfl HB2.out (by decide) H8.out ?_; intro g1 cap1 w3 os3 hg3 hat3 hbg3
                             have HOB := hx (OB.out.kept hg3 HNE.out)
                             have HEI := hx (EI.out.grown hg3 (fun k hk => by rw [← HG2.out]; exact ov.base_le k hk))
                             clear hg3 hat3 ov)
                go_roundw
                case rel => exact ⟨j + 1, by have := HLT.out; omega, by go_num, by rw [HSC.out]; exact os3, HOB.out, HEI.out⟩
                case measure => simp [RowKit.intOf]; have := HLT.out; omega
            · obtain rfl : m = j := by omega
              have OV := hx ov
              have EI := hx ei
              have HLT3 := hx hlt
              clear ov ob ei hlt
              go_wp2
              try simp only [Exit.jump]
              go_ret
              exact ⟨_, rfl, by rw [HRS.out]; exact OV.out.read (idxT_i64 hml) (by have := idxT_len s2 m; omega), E2.out.trans EI.out⟩
        · rw [List.concat_eq_append] at hw3
          have hl3 : ws2.length = ws3.length + 1 := by rw [hw3]; simp
          have hA5 : ∃ g5, A5 = some ⟨g5, 0, none⟩ := by
            rcases ow.2 with ⟨h', _⟩ | ⟨g', cap', cur, h', _⟩
            · injection h' with h1 h2 _; omega
            · injection h' with h1 _ _; exact ⟨g', h1⟩
          obtain ⟨g5, rfl⟩ := hA5
          rw [hl3] at ow hn ⊢
          subst hw3
          have OW := hx ow
          have OB := hx ob
          have HD := hx hD
          have ER := hx er
          have HN' := hx hn
          obtain ⟨q3, hq3⟩ : ∃ q3, q3 = ws3.length := ⟨_, rfl⟩
          rw [← hq3]
          have HQ3 := hx hq3
          have dq : (0 : Int) < (q3 : Int) + 1 := by omega
          clear ow ob hD er hn hl3 hq3
          go_wp2
          go_step3
          refine ⟨rfl, 3 * (m - cnt s2) + (ws3.length + 1), by have := HN'.out; have := HNN.out.1; omega, JF.mk bm g w2 (.slice (some ⟨g5, 0, none⟩) (q3 + 1) cap5) rfl ⟨M2.out, R2.out, E2.out, HG2.out⟩ ⟨ws3, i3, s2, g5, cap5, by rw [HQ3.out], by rw [← HG2.out]; exact OW.out, OB.out, HD.out, Nat.le_refl _, ER.out⟩ (by have := HN'.out; have := HNN.out.2; omega)⟩
  · have HR2 := hx (HR.out.trans (if_neg hz))
    have dz : (pe != 0) = true := by simp [hz]
    have HZ := hx hz
    clear HR HPC hz
    go_enter Tryz.func15, Tryz.ntmps15
    go_wp2
    refine wp_scope_ghost 0 (fun _ _ _ => False) 0 rfl ?_ (fun _ _ _ h => h.elim)
    go_wp2_with fail
    refine HCK.out.mono ?_
    rintro e w1 ⟨rfl, e1⟩
    rw [← HW0.out] at e1
    have E1 := hx (e0.trans e1)
    clear HCK HW0 rP e0 e1
    go_wp2
    try simp only [Exit.jump]
    go_ret
    exact ⟨_, rfl, by rw [HR2.out]; exact Sl.nil _, E1.out⟩
end Go.Proofs.YtmnbalbiehlkpaaGreatDoor
