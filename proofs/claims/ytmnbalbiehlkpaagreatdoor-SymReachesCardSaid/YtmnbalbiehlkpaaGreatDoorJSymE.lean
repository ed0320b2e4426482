/- The layer sym: Run and Trace of the example's program, and of the empty one. -/
import Derived.Test.YtmnbalbiehlkpaaGreatDoorJStmP
import Derived.Test.YtmnbalbiehlkpaaGreatDoorJDec
import Derived.Test.YtmnbalbiehlkpaaGreatDoorJPDec
set_option linter.unusedVariables false
set_option linter.unusedSimpArgs false
namespace Go.Proofs.YtmnbalbiehlkpaaGreatDoor
open Go.RowKit Go.Lib

theorem visRun (w : World) (hw : 0 < w.heap.size) (hO : OpsN w) : Visit w 19 #[] 0 (fun B k W => Ext w W) where
 ent := fun _ _ => by kernel_rfl
 start := fun W h => h
 ext := fun B k W W' h e => h.trans e
 own := fun B k W W' s h1 _ h e => h.grown e (fun k hk => by cases hk; exact h1)
 call := fun B k W _ h => by
  have HW := hx h
  clear h
  show Calls Tryz.prog 19 #[.int .i64 (k : Nat)] W _
  go_enter Tryz.func19, Tryz.ntmps19
  go_wp2
  go_end0
  exact ⟨rfl, HW.out, fun _ _ _ => rfl⟩
 old := hw
 ops := fun B k W h => hO.ext h
/-- What the visits of Trace leave. -/
def VT (w : World) (ob : Nat) (B k : Nat) (W : World) : Prop := (Ext w W ∧ B ≤ W.heap.size ∧ w.heap.size ≤ B) ∧ ∃ v, RowV W ob 43 [v] ∧ OwnI W B v ((List.range k).map fun i : Nat => (i : Int))
theorem visTrace (w0 w : World) (ob : Nat) (hw : ob < w.heap.size) (h0 : w0.heap.size ≤ ob) (hE : Ext w0 w) (hr : RowV w ob 43 [.slice none 0 0]) (hO : OpsN w0) : Visit w 25 #[.pointer (some ⟨ob, 0, none⟩)] ob (VT w0 ob) where
 ent := fun _ _ => by kernel_rfl
 start := fun W h => ⟨⟨hE.trans h, Nat.le_refl _, (hE.trans h).size⟩, _, hr.ext h, Own.nil _ _ _ _ _⟩
 ext := fun B k W W' ⟨⟨h1, hb, hc⟩, v, h2, h3⟩ e => ⟨⟨h1.trans e, Nat.le_trans hb e.size, hc⟩, v, h2.ext e, h3.ext e⟩
 own := fun B k W W' s hs hB ⟨⟨h1, hb, hc⟩, v, h2, h3⟩ e => ⟨⟨h1.grown e (fun k hk => by cases hk; have := hE.size; omega), Nat.le_trans hb e.size, hc⟩, v, h2.keep e (by simp; omega), h3.kept e (by
  cases hb : v.ownBlock with
  | none => exact .inl rfl
  | some r => exact .inr (by have := h3.base_le r hb; simp; omega))⟩
 call := fun B k W hk ⟨⟨h1, hb, hcB⟩, v, h2, h3⟩ => by
  obtain ⟨A', c', rfl⟩ := h3.slice
  have hl : ((List.range k).map fun i : Nat => (i : Int)).length = k := by simp
  have hs : (List.range (k + 1)).map (fun i : Nat => (i : Int)) = (List.range k).map (fun i : Nat => (i : Int)) ++ [(k : Int)] := by rw [List.range_succ, List.map_append]; rfl
  rw [hl] at h2 h3
  have H8 := hx (show (((List.range k).map fun i : Nat => (i : Int)).length + 1) * 8 ≤ 140737488355328 by rw [hl]; omega)
  unfold VT
  rw [hs]
  generalize (List.range k).map (fun i : Nat => (i : Int)) = L at *
  have q0 := h2.cell (i := 0) rfl
  have R2 := hx h2
  have X1 := hx h1
  have HB := hx hb
  have HL := hx hl
  have HW := hx hw
  have HO := hx h0
  have HcB := hx hcB
  clear h1 h2 hb hcB hw hl hs h0 hr hE hO hk
  show Calls Tryz.prog 25 #[.int .i64 (k : Nat), .pointer (some ⟨ob, 0, none⟩)] W _
  go_enter Tryz.func25, Tryz.ntmps25
  go_wp2_with (at_builtin; refine wp_app1 tyI encI_ok h3 (k : Int) rfl rfl rfl rfl rfl HB.out (by decide) H8.out ?_; intro g1 cap1 w3 os3 hg3 hat3 hbg3; have r3 := R2.out.keep hg3 (own_neV h3 (by decide) R2.out); have z3 := r3.frozen 0; have c3 := r3.cell (i := 0) rfl)
  go_end0
  have hbl := fun j hj => h3.base_le j hj
  refine ⟨rfl, ⟨⟨(X1.out.grown hg3 (fun j hj => by have := hbl j hj; have := HcB.out; omega)).setCell (a := ⟨ob, 0, none⟩) _ HO.out, ?_, HcB.out⟩, _, r3.set 0 _, ?_⟩, fun i hi hne => ?_⟩
  ·have := hg3.size
   have := HB.out
   simp
   omega
  ·exact Own.kept os3 (setCell_grown w3 ob 0 _) (.inr (fun e => own_neV os3 (by decide) r3 e.symm))
  ·rw [(setCell_grown w3 ob 0 _).block i (by have := hg3.size; have := HB.out; omega) (by simp; omega)]
   exact hg3.block i (by have := HB.out; omega) (fun e => by have := hbl i e.symm; omega)
 old := hw
 ops := fun B k W ⟨⟨h1, _, _⟩, _⟩ => hO.ext h1
set_option maxRecDepth 40000 in
set_option maxHeartbeats 4000000 in
/-- The run of the empty program: an error. -/
theorem symRun0_any (F : Nat) (caps : Array Value) (w : World) (hG : Glob w) (hN : NoneV w) (hO : OpsN w) (hWd : WidN w) :
  Calls Tryz.prog 18 #[.agg #[.slice none 0 0, .slice none 0 0], .agg #[.slice none 0 0, .slice none 0 0, .int .i64 0], .func (.func F) #[] caps] w fun e w' => e = .returned (.tuple #[.pointer none, .int .i64 15]) ∧ Ext w w' := by
 obtain ⟨W0, hW0⟩ : ∃ W0, W0 = ((w.alloc (.cells #[.slice none 0 0, .slice none 0 0] 25)).alloc (.cells #[.slice none 0 0, .slice none 0 0, .int .i64 0] 29)) := ⟨_, rfl⟩
 have e0 : Ext w W0 := by rw [hW0]; exact (Ext.new w _).alloc _
 have HC := hx (progCheck_any none none 0 0 0 0 [] [] W0 rfl (by omega) rfl (by omega) (Sl.nil _) (Sl.nil _) (by decide) (hG.ext e0) (hN.ext e0) (hO.ext e0) (hWd.ext e0))
 rw [pchk00] at HC
 have HW0 := hx hW0
 have E0 := hx e0
 clear hW0 e0 hG hN hO hWd
 go_enter Tryz.func18, Tryz.ntmps18
 go_wp2_with fail
 rw [← HW0.out]
 refine HC.out.mono ?_
 rintro e w1 ⟨rfl, e1⟩
 go_wp2
 go_ret2
 exact ⟨rfl, E0.out.trans e1⟩
/-- What Run leaves. -/
def RunQ (w : World) (n : Int) (e : Ending) (w' : World) : Prop := ∃ v, e = .returned (.tuple #[.agg #[.int .i64 0, .int .u64 0, .int .i64 0, .int .i64 0], v, .int .i64 n]) ∧ Ext w w'
set_option maxRecDepth 40000 in
set_option maxHeartbeats 4000000 in
theorem symRunE_any (w : World) (hG : Glob w) (hN : NoneV w) (hO : OpsN w) (hWd : WidN w) :
  Calls Tryz.prog 9 #[.agg #[.slice none 0 0, .slice none 0 0], .agg #[.slice none 0 0, .slice none 0 0, .int .i64 0]] w (RunQ w 15) := by
 have HR := hx fun (W : World) (hW : Ext w W) => symRun0_any 19 #[] W (hG.ext hW) (hN.ext hW) (hO.ext hW) (hWd.ext hW)
 obtain ⟨W0, hW0⟩ : ∃ W0, W0 = (((w.alloc (.cells #[.slice none 0 0, .slice none 0 0] 25)).alloc (.cells #[.slice none 0 0, .slice none 0 0, .int .i64 0] 29)).alloc (.cells #[.int .i64 0, .int .u64 0, .int .i64 0, .int .i64 0] 35)) := ⟨_, rfl⟩
 have e0 : Ext w W0 := by rw [hW0]; exact ((Ext.new w _).alloc _).alloc _
 have r0 : RowV W0 (w.heap.size + 1 + 1) 35 [.int .i64 0, .int .u64 0, .int .i64 0, .int .i64 0] := by
  rw [hW0]
  have h := RowV.new ((w.alloc (.cells #[.slice none 0 0, .slice none 0 0] 25)).alloc (.cells #[.slice none 0 0, .slice none 0 0, .int .i64 0] 29)) [.int .i64 0, .int .u64 0, .int .i64 0, .int .i64 0] 35
  rwa [World.size_alloc, World.size_alloc] at h
 have HW0 := hx hW0
 have E0 := hx e0
 have R0 := hx r0
 clear hW0 e0 r0 hG hN hO hWd
 go_enter Tryz.func9, Tryz.ntmps9
 go_wp2_with fail
 rw [← HW0.out]
 refine (HR.out _ E0.out).mono ?_
 rintro e w1 ⟨rfl, e1⟩
 have r1 := R0.out.ext e1
 have c0 := r1.cell (i := 0) rfl
 have c1 := r1.cell (i := 1) rfl
 have c2 := r1.cell (i := 2) rfl
 have c3 := r1.cell (i := 3) rfl
 have z0 := r1.frozen 0
 have z1 := r1.frozen 1
 have z2 := r1.frozen 2
 have z3 := r1.frozen 3
 have R1 := hx r1
 have X1 := hx (E0.out.trans e1)
 clear r1 e1
 go_wp2
 have R5 := (((R1.out.set 0 (.int .i64 0)).set 1 (.int .u64 0)).set 2 (.int .i64 0)).set 3 (.int .i64 0)
 refine bodyPost_ret (results_row_tmp2 #[.int .i64 0, .int .u64 0, .int .i64 0, .int .i64 0] rfl _ _ (w.heap.size + 1 + 1) 35 _ rfl ⟨_, R5, rfl⟩ Tryz.underlying35 rfl (by kernel_rfl)) rfl ?_
 exact ⟨_, rfl, (((X1.out.setCell _ (by simp; omega)).setCell _ (by simp; omega)).setCell _ (by simp; omega)).setCell _ (by simp; omega)⟩
theorem run_mkEnt (W : World) : (Instr.makeSlice 27 (.int .i64 0) (.int .i64 0)).run Tryz.prog W = .ok (.slice (some ⟨W.heap.size, 0, none⟩) 0 0) (W.alloc (.cells #[] 56)) := by
 have hi : (Tryz.prog.info? 56).map (fun i => (i.zero, i.size, i.bytes)) = some (some (.slice none 0 0), 1, 24) := by kernel_rfl
 obtain ⟨i, hi, hz⟩ := Option.map_eq_some_iff.1 hi
 simp only [Prod.mk.injEq] at hz
 have h := run_makeSlice (P := Tryz.prog) (w := W) 27 56 i (.slice none 0 0) Tryz.underlying27 hi hz.1 .i64 .i64 0 0 (by omega) (by omega) (by rw [hz.2.1]; decide) (by rw [hz.2.2]; decide) (by omega)
 have hc : madeCells (Value.slice none 0 0).cells (Int.toNat 0 * i.size) = #[] := by
  apply Array.ext'
  apply List.ext_getElem?
  intro j
  simp [madeCells]
 rw [hc] at h
 exact h
set_option maxRecDepth 40000 in
set_option maxHeartbeats 4000000 in
theorem symRunA_any (A : Option Addr) (c : Nat) (w : World) (hv : IsStmts w (.slice A 2 c) L24) (hG : Glob w) (hN : NoneV w) (hO : OpsN w) (hWd : WidN w) :
  Calls Tryz.prog 9 #[.agg #[.slice none 0 0, .slice A 2 c], .agg #[.slice none 0 0, .slice none 0 0, .int .i64 9]] w (RunQ w 0) := by
 obtain ⟨W0, hW0⟩ : ∃ W0, W0 = (((w.alloc (.cells #[.slice none 0 0, .slice A 2 c] 25)).alloc (.cells #[.slice none 0 0, .slice none 0 0, .int .i64 9] 29)).alloc (.cells #[.int .i64 0, .int .u64 0, .int .i64 0, .int .i64 0] 35)) := ⟨_, rfl⟩
 have e0 : Ext w W0 := by rw [hW0]; exact ((Ext.new w _).alloc _).alloc _
 have r0 : RowV W0 (w.heap.size + 1 + 1) 35 [.int .i64 0, .int .u64 0, .int .i64 0, .int .i64 0] := by
  rw [hW0]
  have h := RowV.new ((w.alloc (.cells #[.slice none 0 0, .slice A 2 c] 25)).alloc (.cells #[.slice none 0 0, .slice none 0 0, .int .i64 9] 29)) [.int .i64 0, .int .u64 0, .int .i64 0, .int .i64 0] 35
  rwa [World.size_alloc, World.size_alloc] at h
 have rp : RowV W0 w.heap.size 25 [.slice none 0 0, .slice A 2 c] := by rw [hW0]; exact (RowV.new _ _ _).ext ((Ext.new _ _).alloc _)
 have HR := hx (symRun24_any A c 19 0 #[] (fun B k W => Ext W0 W) W0 (IsStmts.ext hv e0) (hG.ext e0) (hN.ext e0) (hO.ext e0) (hWd.ext e0) (visRun W0 (by rw [hW0]; simp) (hO.ext e0)))
 have HW0 := hx hW0
 have E0 := hx e0
 have R0 := hx r0
 have RP := hx rp
 clear hW0 e0 r0 rp hv hG hN hO hWd
 go_enter Tryz.func9, Tryz.ntmps9
 go_wp2_with fail
 rw [← HW0.out]
 refine HR.out.mono ?_
 rintro e w1 ⟨s, vm, vt, B, rfl, s1, e1, -⟩
 have P1 := hx (RP.out.ext e1)
 have p0 := P1.out.cell (i := 0) rfl
 have hmk := run_mkEnt
 obtain ⟨W2, hW2⟩ : ∃ W2, W2 = w1.alloc (.cells #[] 56) := ⟨_, rfl⟩
 have e2 : Ext w1 W2 := by rw [hW2]; exact Ext.new _ _
 have S2 := hx (s1.ext e2)
 have R2 := hx (R0.out.ext (e1.trans e2))
 have X2 := hx (E0.out.trans (e1.trans e2))
 have HW2 := hx hW2
 clear s1 e1 e2 hW2 HR
 go_wp2
 rw [← HW2.out]
 go_loop [27] (fun i => i = .int .i64 0) (fun _ => 0)
 case atStart => rfl
 case round =>
  subst hrel
  have c0 := R2.out.cell (i := 0) rfl
  have c1 := R2.out.cell (i := 1) rfl
  have c2 := R2.out.cell (i := 2) rfl
  have c3 := R2.out.cell (i := 3) rfl
  have z0 := R2.out.frozen 0
  have z1 := R2.out.frozen 1
  have z2 := R2.out.frozen 2
  have z3 := R2.out.frozen 3
  have q0 := S2.out.cell (i := 13) rfl
  have q1 := S2.out.cell (i := 14) rfl
  have q2 := S2.out.cell (i := 15) rfl
  have q3 := S2.out.cell (i := 16) rfl
  go_wp2
  have R5 := (((R2.out.set 0 (.int .i64 0)).set 1 (.int .u64 0)).set 2 (.int .i64 0)).set 3 (.int .i64 0)
  refine bodyPost_ret (results_row_tmp2 #[.int .i64 0, .int .u64 0, .int .i64 0, .int .i64 0] rfl _ _ (w.heap.size + 1 + 1) 35 _ rfl ⟨_, R5, rfl⟩ Tryz.underlying35 rfl (by kernel_rfl)) rfl ?_
  exact ⟨_, rfl, (((X2.out.setCell _ (by simp; omega)).setCell _ (by simp; omega)).setCell _ (by simp; omega)).setCell _ (by simp; omega)⟩
/-- What Trace leaves. -/
def TraceQ (w : World) (e : Ending) (w' : World) : Prop := ∃ v, e = .returned (.tuple #[v, .int .i64 0]) ∧ IsInts w' v [0, 1] ∧ Ext w w'
set_option maxRecDepth 40000 in
set_option maxHeartbeats 4000000 in
theorem symTraceA_any (A : Option Addr) (c : Nat) (w : World) (hv : IsStmts w (.slice A 2 c) L24) (hG : Glob w) (hN : NoneV w) (hO : OpsN w) (hWd : WidN w) :
  Calls Tryz.prog 12 #[.agg #[.slice none 0 0, .slice A 2 c], .agg #[.slice none 0 0, .slice none 0 0, .int .i64 9]] w (TraceQ w) := by
 obtain ⟨W0, hW0⟩ : ∃ W0, W0 = (((w.alloc (.cells #[.slice none 0 0, .slice A 2 c] 25)).alloc (.cells #[.slice none 0 0, .slice none 0 0, .int .i64 9] 29)).alloc (.cells #[.slice none 0 0] 43)) := ⟨_, rfl⟩
 have e0 : Ext w W0 := by rw [hW0]; exact ((Ext.new w _).alloc _).alloc _
 have r0 : RowV W0 (w.heap.size + 1 + 1) 43 [.slice none 0 0] := by
  rw [hW0]
  have h := RowV.new ((w.alloc (.cells #[.slice none 0 0, .slice A 2 c] 25)).alloc (.cells #[.slice none 0 0, .slice none 0 0, .int .i64 9] 29)) [.slice none 0 0] 43
  rwa [World.size_alloc, World.size_alloc] at h
 have HR := hx (symRun24_any A c 25 (w.heap.size + 1 + 1) #[.pointer (some ⟨w.heap.size + 1 + 1, 0, none⟩)] (VT w (w.heap.size + 1 + 1)) W0 (IsStmts.ext hv e0) (hG.ext e0) (hN.ext e0) (hO.ext e0) (hWd.ext e0) (visTrace w W0 _ (by rw [hW0]; simp) (by omega) e0 r0 hO))
 have HW0 := hx hW0
 clear hW0 e0 r0 hv hG hN hO hWd
 go_enter Tryz.func12, Tryz.ntmps12
 go_wp2_with fail
 rw [← HW0.out]
 refine HR.out.mono ?_
 rintro e w1 ⟨s, vm, vt, B, rfl, s1, ⟨⟨x1, -, -⟩, v, r1, o1⟩, -⟩
 have c0 := r1.cell (i := 0) rfl
 obtain ⟨A1, c1, rfl⟩ := o1.slice
 have O1 := hx (o1.read (by
  intro x hx
  obtain ⟨i, hi, rfl⟩ := List.mem_map.1 hx
  have : i < 2 := by simpa using hi
  unfold I64; omega) (by simp))
 have X1 := hx x1
 clear o1 s1 r1 x1 HR
 go_wp2
 go_ret2
 exact ⟨_, rfl, O1.out, X1.out⟩
end Go.Proofs.YtmnbalbiehlkpaaGreatDoor


set_option linter.unusedVariables false
set_option linter.unusedSimpArgs false
namespace Go.Proofs.YtmnbalbiehlkpaaGreatDoor
open Go.RowKit Go.Lib

theorem flatAt_app : ∀ (a b : List Stmt) (k : Nat), flatAt k (a ++ b) = flatAt k a ++ flatAt (k + a.length) b := by
 intro a
 induction a with
 | nil => intro b k; rfl
 | cons x a ih => intro b k; rw [List.cons_append, flatAt, ih, flatAt, List.append_assoc, List.length_cons]; congr 3; omega
theorem flatAt_length : ∀ (L : List Stmt) (k : Nat), (flatAt k L).length = (flat L).length := by
 intro L
 induction L with
 | nil => intro k; rfl
 | cons x l ih => intro k; rw [flatAt, flat_cons, List.length_append, List.length_append, List.length_map, ih]
theorem flatAt_bd : ∀ (L : List Stmt) (k : Nat), ∀ x ∈ flatAt k L, (k : Int) ≤ x ∧ x < (k : Int) + L.length := by
 intro L
 induction L with
 | nil => intro k x h; cases h
 | cons y l ih =>
  intro k x h
  rw [flatAt, List.mem_append] at h
  rw [List.length_cons]
  rcases h with h | h
  ·obtain ⟨_, _, rfl⟩ := List.mem_map.1 h; omega
  ·have := ih (k + 1) x h; omega
theorem lbl_sizes {w : World} {v : Value} {L : List Stmt} (h : IsStmts w v L) : ∀ s ∈ flat L, s.size ≤ 140737488355328 := by
 intro s hs
 unfold flat at hs
 obtain ⟨x, hx, hsx⟩ := List.mem_flatMap.1 hs
 have h2 := Sl.all (p := fun x : Stmt => ∀ s ∈ x.labels, s.size ≤ 140737488355328) h (fun b o x k => by
  obtain ⟨v, _, hl, _⟩ := k
  exact Sl.all hl fun _ _ _ k => k.2) x hx
 exact h2 s hsx
set_option maxRecDepth 40000 in
set_option maxHeartbeats 8000000 in
theorem refLabels_any (A1 A2 : Option Addr) (n1 c1 m c2 : Nat) (L : List Stmt) (w : World) (hm : m = L.length) (hml : m ≤ 1000000) (hv : IsStmts w (.slice A2 m c2) L) (hfl : (flat L).length ≤ 1000000) :
  Calls Tryz.prog 45 #[.agg #[.slice A1 n1 c1, .slice A2 m c2]] w fun e w' => ∃ v1 v2, e = .returned (.tuple #[v1, v2]) ∧ IsStrs w' v1 (flat L) ∧ IsInts w' v2 (flatAt 0 L) ∧ Ext w w' := by
 obtain ⟨W0, hW0⟩ : ∃ W0, W0 = w.alloc (.cells #[.slice A1 n1 c1, .slice A2 m c2] 25) := ⟨_, rfl⟩
 have e0 : Ext w W0 := by rw [hW0]; exact Ext.new w _
 have rP : RowV W0 w.heap.size 25 [.slice A1 n1 c1, .slice A2 m c2] := by rw [hW0]; exact RowV.new _ _ _
 have HM := hx hm
 have HFL := hx hfl
 have hsz := lbl_sizes hv
 have HSZ := hx hsz
 have hs0 : W0.heap.size = w.heap.size + 1 := by rw [hW0]; simp
 clear hm hfl hsz
 go_enter Tryz.func45, Tryz.ntmps45
 go_wp2
 rw [← hW0]
 clear hW0
 go_loopw [4, 5, 6] (fun vs vi i wr => ∃ (pre suf : List Stmt), L = pre ++ suf ∧ i = .int .i64 (pre.length : Nat) ∧ OwnS wr (w.heap.size + 1) vs (flat pre) ∧ OwnI wr (w.heap.size + 1) vi (flatAt 0 pre) ∧ RowV wr w.heap.size 25 [.slice A1 n1 c1, .slice A2 m c2] ∧ w.heap.size + 1 ≤ wr.heap.size ∧ Ext w wr) (fun _ _ i _ => m - (RowKit.intOf i).toNat)
 case atStart => exact ⟨[], L, rfl, rfl, Own.nil _ _ _ _ _, Own.nil _ _ _ _ _, rP, by omega, e0⟩
 case round =>
  clear e0 rP hs0
  obtain ⟨pre, suf, hl', rfl, os, oi, hr, hsz, he⟩ := hrel
  have q1 := hr.cell (i := 1) rfl
  obtain ⟨As, cs, rfl⟩ := os.slice
  obtain ⟨Ai, ci, rfl⟩ := oi.slice
  cases suf with
  | cons x suf =>
   have hlt : pre.length < m := by rw [HM.out, hl']; simp
   have hkm : (pre.length : Int) < (m : Int) := by omega
   have hvx := hv
   rw [hl'] at hvx
   have hfx : (flat pre).length + x.labels.length ≤ 1000000 := by
    have h := HFL.out
    rw [hl', flat_app, flat_cons, List.length_append, List.length_append] at h
    omega
   have HL := hx hl'
   have HFX := hx hfx
   have HLT := hx hlt
   obtain ⟨pl, hpl⟩ : ∃ pl, pl = pre.length := ⟨_, rfl⟩
   obtain ⟨b, o, hAA, vl, d0, dl, -, -, -, -⟩ := hvx.at
   subst hAA
   obtain ⟨Al, cl, rfl, -, -, dl'⟩ := dl.form
   rw [← hpl] at hkm HLT d0 ⊢
   have HPL := hx hpl
   obtain ⟨ll, hll⟩ : ∃ ll, ll = x.labels.length := ⟨_, rfl⟩
   rw [← hll] at d0 dl' HFX
   have HLL := hx hll
   have HD := hx d0
   clear hl' hvx hfx hlt dl hpl hll d0
   obtain ⟨labels, xi, tt, tm⟩ := x
   dsimp only at *
   go_wp2
   clear q1
   go_loopw [4, 5, 7] (fun vs vi j wi => ∃ (lp ls : List ByteArray), labels = lp ++ ls ∧ j = .int .i64 (lp.length : Nat) ∧ OwnS wi (w.heap.size + 1) vs (flat pre ++ lp) ∧ OwnI wi (w.heap.size + 1) vi (flatAt 0 pre ++ lp.map fun _ => (pl : Int)) ∧ RowV wi w.heap.size 25 [.slice A1 n1 c1, .slice (some ⟨b, o, none⟩) m c2] ∧ w.heap.size + 1 ≤ wi.heap.size ∧ Ext w wi) (fun _ _ j _ => ll - (RowKit.intOf j).toNat)
   case atStart => exact ⟨[], labels, rfl, rfl, (by simpa using os), (by simpa using oi), hr, hsz, he⟩
   case round =>
    clear os oi hr he hsz
    obtain ⟨lp, ls, hls, rfl, os, oi, hr, hsz, he⟩ := hrel
    have q1 := hr.cell (i := 1) rfl
    have d0 := he.cell HD.out
    obtain ⟨As, cs, rfl⟩ := os.slice
    obtain ⟨Ai, ci, rfl⟩ := oi.slice
    cases ls with
    | cons y ls =>
     have hlt2 : lp.length < ll := by rw [HLL.out, hls]; simp
     have hkm2 : (lp.length : Int) < (ll : Int) := by omega
     have ivx := dl'
     rw [hls] at ivx
     obtain ⟨by', oy, rfl, d1, -⟩ := (IsStrs.ext ivx he).at
     rw [Nat.mul_one] at d1
     have hlb : lp.length ≤ 1000000 := by have := HFX.out; omega
     have hl16 : ((flat pre ++ lp).length + 1) * 16 ≤ 140737488355328 := by rw [List.length_append]; have := HFX.out; omega
     have hl8 : ((flatAt 0 pre ++ lp.map fun _ => (pl : Int)).length + 1) * 8 ≤ 140737488355328 := by rw [List.length_append, List.length_map, flatAt_length]; have := HFX.out; omega
     have HLS := hx hls
     have H16 := hx hl16
     have H8 := hx hl8
     have hmap : (flatAt 0 pre ++ lp.map fun _ => (pl : Int)) ++ [(pl : Int)] = flatAt 0 pre ++ (lp ++ [y]).map fun _ => (pl : Int) := by simp
     have happ : (flat pre ++ lp) ++ [y] = flat pre ++ (lp ++ [y]) := by simp
     have HMP := hx hmap
     have HAP := hx happ
     generalize flat pre ++ lp = S1 at *
     generalize (flatAt 0 pre ++ lp.map fun _ => (pl : Int)) = I1 at *
     clear hls ivx hl16 hl8 hmap happ
     go_wp2_with (first
      | (at_builtin; refine wp_app1 tyI encI_ok oi2 (pl : Int) rfl rfl rfl rfl rfl hsz2 (by decide) H8.out ?_; intro g2 cap2 w3 oi3 hg3 hat3 hbg3)
      | (at_builtin; refine wp_app1 tyS encS_ok os y rfl rfl rfl rfl rfl hsz (by decide) H16.out ?_; intro g1 cap1 w2 os2 hg2 hat2 hbg2; have oi2 := oi.kept hg2 (oi.type_ne os (by decide)); have hr2 := hr.keep hg2 (fun e => by have := os.base_le _ e.symm; omega); have he2 := he.grown hg2 (fun k hk => by have := os.base_le k hk; omega); have hsz2 := Nat.le_trans hsz hg2.size))
     have he3 := he2.grown hg3 (fun k hk => by have := oi2.base_le k hk; omega)
     have os3 := os2.kept hg3 (os2.type_ne oi2 (by decide))
     have hr3 := hr2.keep hg3 (fun e => by have := oi2.base_le _ e.symm; omega)
     have hsz3 := Nat.le_trans hsz2 hg3.size
     rw [HMP.out] at oi3
     rw [HAP.out] at os3
     clear os os2 oi oi2 hg2 hg3 hr hr2 he he2 hsz hsz2 q1 d0 d1
     go_wp2
     go_roundw
     case rel => exact ⟨lp ++ [y], ls, by rw [HLS.out, List.append_assoc]; rfl, by first | go_num | simp, os3, oi3, hr3, hsz3, he3⟩
     case measure => simp [RowKit.intOf]; omega
    | nil =>
     obtain rfl : labels = lp := by simpa using hls
     have hlt2 : ¬ ((labels.length : Int) < (ll : Int)) := by rw [HLL.out]; omega
     have OS := hx os
     have OI := hx oi
     have HE := hx he
     have HR := hx hr
     clear hls os oi he hr
     go_wp2
     go_roundw
     case rel => exact ⟨pre ++ [⟨labels, xi, tt, tm⟩], suf, by rw [HL.out]; simp, by rw [List.length_append, List.length_singleton, ← HPL.out]; go_num, by rw [flat_app]; simpa [flat] using OS.out, by rw [flatAt_app, Nat.zero_add, ← HPL.out]; simpa [flatAt] using OI.out, HR.out, hsz, HE.out⟩
     case measure => simp [RowKit.intOf]; have := HLT.out; omega
  | nil =>
   obtain rfl : L = pre := by simpa using hl'
   have hlt : ¬ ((L.length : Int) < (m : Int)) := by rw [HM.out]; omega
   have HE := hx he
   have OS := hx os
   have OI := hx oi
   clear hl' he os oi
   go_wp2
   refine bodyPost_ret (results_tmp2 rfl _ _ _) rfl ?_
   exact ⟨_, _, rfl, OS.out.read HSZ.out (by have := HFL.out; omega), OI.out.read (fun x hx => by
    have h1 := flatAt_bd L 0 x hx
    have h2 := HM.out
    unfold I64
    omega) (by rw [flatAt_length]; have := HFL.out; omega), HE.out⟩
end Go.Proofs.YtmnbalbiehlkpaaGreatDoor


set_option linter.unusedVariables false
set_option linter.unusedSimpArgs false
namespace Go.Proofs.YtmnbalbiehlkpaaGreatDoor
open Go.RowKit Go.Lib

def firstP : List (Int × Int) → Int × Int
 | [] => (0, 0)
 | x :: l => if x.2 = 0 then firstP l else x
theorem firstF_fst : ∀ (l : List (Int × Int)) (i : Int), (firstF i l).1 = firstP l := by
 intro l
 induction l with
 | nil => intro i; rfl
 | cons x l ih =>
  intro i
  rw [firstF, firstP]
  split
  ·exact ih _
  ·rfl
def restP (M : List Def) (L : List Stmt) (k : Nat) : Int × Int := firstP ((prRs M L).drop k)
theorem pchk_rest (M : List Def) (L : List Stmt) : pchk M L = restP M L 0 := firstF_fst _ _
theorem findA_hit {chk : Int → Def → Int} : ∀ (l : List Def) (i : Int) (k : Nat), k < l.length → (∀ j : Nat, j < k → chk (i + j) (l.getD j default) = 0) → chk (i + k) (l.getD k default) ≠ 0 → findA chk i l = (i + k, chk (i + k) (l.getD k default)) := by
 intro l
 induction l with
 | nil => intro i k hk; simp at hk
 | cons x l ih =>
  intro i k hk hn h
  rw [findA]
  rcases k with _ | k
  ·have h' : chk i x ≠ 0 := by simpa using h
   rw [if_neg h']
   simp
  ·have h0 : chk i x = 0 := by simpa using hn 0 (by omega)
   rw [if_pos h0, ih (i + 1) k (by simpa using hk) (fun j hj => by
    have := hn (j + 1) (by omega)
    rw [List.getD_cons_succ] at this
    rw [show i + 1 + (j : Int) = i + ((j + 1 : Nat) : Int) by omega]
    exact this) (by
    rw [List.getD_cons_succ] at h
    rw [show i + 1 + (k : Int) = i + ((k + 1 : Nat) : Int) by omega]
    exact h)]
   rw [List.getD_cons_succ, show i + 1 + (k : Int) = i + ((k + 1 : Nat) : Int) by omega]
theorem rp0s {M : List Def} {L : List Stmt} {k : Nat} (hk : k < M.length) (hn : ∀ j, j < k → mapE (M.getD j default) = 0) {e : Int} (h : mapE (M.getD k default) = e) (he : e ≠ 0) : restP M L 0 = ((k : Int), e) := by
 have h1 := findA_hit (chk := fun _ d => mapE d) M 0 k hk (fun j hj => hn j hj) (by rw [h]; exact he)
 rw [h, Int.zero_add] at h1
 show (if (findA (fun _ d => mapE d) 0 M).2 = 0 then restP M L 1 else findA (fun _ d => mapE d) 0 M) = _
 rw [h1, if_neg he]
theorem rp0n {M : List Def} {L : List Stmt} (hn : ∀ j, j < M.length → mapE (M.getD j default) = 0) : restP M L 0 = restP M L 1 := by
 have h1 := findA_all (chk := fun _ d => mapE d) M 0 (fun k d h => by
  have := hn k (List.getElem?_eq_some_iff.1 h).1
  rw [List.getD_eq_getElem?_getD, h] at this
  exact this)
 show (if (findA (fun _ d => mapE d) 0 M).2 = 0 then restP M L 1 else findA (fun _ d => mapE d) 0 M) = _
 rw [h1, if_pos rfl]
theorem rp1s {M : List Def} {L : List Stmt} {k : Nat} (hk : k < L.length) (hn : ∀ j, j < k → stmtE (L.getD j default) = 0) {e : Int} (h : stmtE (L.getD k default) = e) (he : e ≠ 0) : restP M L 1 = ((k : Int), e) := by
 have h1 := findS_hit (chk := fun _ s => stmtE s) hk hn (by rw [h]; exact he)
 rw [h] at h1
 show (if (findS (fun _ s => stmtE s) L).2 = 0 then restP M L 2 else findS (fun _ s => stmtE s) L) = _
 rw [h1, if_neg he]
theorem rp1n {M : List Def} {L : List Stmt} (hn : ∀ j, j < L.length → stmtE (L.getD j default) = 0) : restP M L 1 = restP M L 2 := by
 have h1 := findS_none (chk := fun _ s => stmtE s) hn
 show (if (findS (fun _ s => stmtE s) L).2 = 0 then restP M L 2 else findS (fun _ s => stmtE s) L) = _
 rw [h1, if_pos rfl]
theorem rp2s {M : List Def} {L : List Stmt} (h : 255 < M.length) : restP M L 2 = (255, 16) := by
 have h1 := findA_hit (chk := fun i _ => whenN (decide (255 ≤ i)) 16) M 0 255 h (fun j hj => by rw [decide_eq_false (by omega)]; rfl) (by decide)
 show (if (findA (fun i _ => whenN (decide (255 ≤ i)) 16) 0 M).2 = 0 then restP M L 3 else findA (fun i _ => whenN (decide (255 ≤ i)) 16) 0 M) = _
 rw [h1]; rfl
theorem rp2n {M : List Def} {L : List Stmt} (h : ¬ 255 < M.length) : restP M L 2 = restP M L 3 := by
 have h1 := find_size M
 show (if (findA (fun i _ => whenN (decide (255 ≤ i)) 16) 0 M).2 = 0 then restP M L 3 else findA (fun i _ => whenN (decide (255 ≤ i)) 16) 0 M) = _
 rw [h1, if_neg h, if_pos rfl]
theorem rp3s {M : List Def} {L : List Stmt} (h : 0 ≤ repN (namesL M)) : restP M L 3 = (repN (namesL M), 10) := by
 have hb := repN_bd (namesL M)
 unfold namesL at *
 rw [List.length_map] at hb
 obtain ⟨k, hk⟩ := Int.eq_ofNat_of_zero_le h
 have h1 := findA_hit (chk := fun i _ => whenN (repN (M.map (·.name)) == i) 10) M 0 k (by omega) (fun j hj => by
  rw [beq_eq_false_iff_ne.2 (by omega)]; rfl) (by
  rw [hk, Int.zero_add, beq_self_eq_true]; decide)
 show (if (findA (fun i _ => whenN (repN (M.map (·.name)) == i) 10) 0 M).2 = 0 then restP M L 4 else findA (fun i _ => whenN (repN (M.map (·.name)) == i) 10) 0 M) = _
 rw [h1]
 dsimp only
 rw [hk, Int.zero_add, beq_self_eq_true]
 rfl
theorem rp3n {M : List Def} {L : List Stmt} (h : ¬ 0 ≤ repN (namesL M)) : restP M L 3 = restP M L 4 := by
 have hb := repN_bd (namesL M)
 unfold namesL at *
 rw [List.length_map] at hb
 have h1 := find_rep M (repN (M.map (·.name))) hb
 show (if (findA (fun i _ => whenN (repN (M.map (·.name)) == i) 10) 0 M).2 = 0 then restP M L 4 else findA (fun i _ => whenN (repN (M.map (·.name)) == i) 10) 0 M) = _
 rw [h1, if_neg h, if_pos rfl]
theorem rp4s {M : List Def} {L : List Stmt} {k : Nat} (h : repN (flat L) = (k : Int)) : restP M L 4 = ((flatAt 0 L).getD k 0, 10) := by
 have h1 := labD_rep L [] 0
 have h2 : repA [] (flat L) = (k : Int) := h
 rw [h2, if_pos (by omega), Int.toNat_natCast, List.length_nil, Nat.sub_zero] at h1
 show (if (labD [] 0 L).2 = 0 then restP M L 5 else labD [] 0 L) = _
 rw [h1]; rfl
theorem rp4n {M : List Def} {L : List Stmt} (h : ¬ 0 ≤ repN (flat L)) : restP M L 4 = restP M L 5 := by
 have h1 : labD [] 0 L = (0, 0) := (labD_rep L [] 0).trans (if_neg h)
 show (if (labD [] 0 L).2 = 0 then restP M L 5 else labD [] 0 L) = _
 rw [h1]; rfl
theorem rp5s {M : List Def} {L : List Stmt} (h : L.length = 0) : restP M L 5 = (0, 15) := by
 show (if (if L.length = 0 then ((0, 15) : Int × Int) else (0, 0)).2 = 0 then restP M L 6 else (if L.length = 0 then ((0, 15) : Int × Int) else (0, 0))) = _
 rw [if_pos h]; rfl
theorem rp5n {M : List Def} {L : List Stmt} (h : L.length ≠ 0) : restP M L 5 = restP M L 6 := by
 show (if (if L.length = 0 then ((0, 15) : Int × Int) else (0, 0)).2 = 0 then restP M L 6 else (if L.length = 0 then ((0, 15) : Int × Int) else (0, 0))) = _
 rw [if_neg h]; rfl
theorem rp6s {M : List Def} {L : List Stmt} {k : Nat} (hk : k < L.length) (hn : ∀ j, j < k → undB L (emS :: namesL M) (L.getD j default) = false) (h : undB L (emS :: namesL M) (L.getD k default) = true) : restP M L 6 = ((k : Int), 11) := by
 have hu : ∀ j s, undE L (emS :: namesL M) j s = if undB L (emS :: namesL M) s = true then 11 else 0 := fun _ _ => rfl
 have h1 := findS_hit (chk := undE L (emS :: namesL M)) hk (fun j hj => by rw [hu, if_neg (by rw [hn j hj]; decide)]) (by rw [hu, if_pos h]; decide)
 rw [hu, if_pos h] at h1
 show (if (findS (undE L (emS :: namesL M)) L).2 = 0 then restP M L 7 else findS (undE L (emS :: namesL M)) L) = _
 rw [h1]; rfl
theorem rp6n {M : List Def} {L : List Stmt} (hn : ∀ j, j < L.length → undB L (emS :: namesL M) (L.getD j default) = false) : restP M L 6 = restP M L 7 := by
 have hu : ∀ j s, undE L (emS :: namesL M) j s = if undB L (emS :: namesL M) s = true then 11 else 0 := fun _ _ => rfl
 have h1 := findS_none (chk := undE L (emS :: namesL M)) (l := L) (fun j hj => by rw [hu, if_neg (by rw [hn j hj]; decide)])
 show (if (findS (undE L (emS :: namesL M)) L).2 = 0 then restP M L 7 else findS (undE L (emS :: namesL M)) L) = _
 rw [h1]; rfl
theorem rp7s {M : List Def} {L : List Stmt} {k : Nat} (hk : k < L.length) (hn : ∀ j, j < k → (writesX (L.getD j default).ins == 10) = false) (h : (writesX (L.getD k default).ins == 10) = true) : restP M L 7 = ((k : Int), 14) := by
 have h1 := findS_hit (chk := wrE) hk (fun j hj => by unfold wrE; rw [hn j hj]; rfl) (by unfold wrE; rw [h]; decide)
 unfold wrE at h1
 rw [h] at h1
 show (if (findS wrE L).2 = 0 then restP M L 8 else findS wrE L) = _
 unfold wrE
 rw [h1]; rfl
theorem rp7n {M : List Def} {L : List Stmt} (hn : ∀ j, j < L.length → (writesX (L.getD j default).ins == 10) = false) : restP M L 7 = restP M L 8 := by
 have h1 := findS_none (chk := wrE) (l := L) (fun j hj => by unfold wrE; rw [hn j hj]; rfl)
 show (if (findS wrE L).2 = 0 then restP M L 8 else findS wrE L) = _
 rw [h1]; rfl
theorem rp8s {M : List Def} {L : List Stmt} {k : Nat} (hk : L.length = k + 1) (h : endsX (L.getD k default).ins = false) : restP M L 8 = ((k : Int), 15) := by
 have h1 := findS_hit (chk := enE L.length) (l := L) (k := k) (by omega) (fun j hj => by unfold enE; rw [decide_eq_false (by omega)]; rfl) (by unfold enE; rw [decide_eq_true (by omega), h]; decide)
 have h2 : enE L.length k (L.getD k default) = 15 := by unfold enE; rw [decide_eq_true (by omega), h]; rfl
 rw [h2] at h1
 show (if (findS (enE L.length) L).2 = 0 then restP M L 9 else findS (enE L.length) L) = _
 rw [h1]; rfl
theorem rp8n {M : List Def} {L : List Stmt} {k : Nat} (hk : L.length = k + 1) (h : endsX (L.getD k default).ins = true) : restP M L 8 = (0, 0) := by
 have h1 := findS_none (chk := enE L.length) (l := L) (fun j hj => by
  unfold enE
  by_cases hjk : j = k
  ·subst hjk; rw [h]; simp [whenN]
  ·rw [decide_eq_false (by omega)]; rfl)
 show (if (findS (enE L.length) L).2 = 0 then restP M L 9 else findS (enE L.length) L) = _
 rw [h1]; rfl
theorem mapX_in {M : List Def} {s : ByteArray} : (mapX M s < 0) = (inL (namesL M) s = false) := by
 apply propext
 constructor
 ·intro h
  refine inL_none fun j hj he => ?_
  unfold namesL at hj he
  rw [List.length_map] at hj
  have hnm : (M.getD j default).name = s := by
   rw [List.getD_eq_getElem?_getD, List.getElem?_map, List.getElem?_eq_getElem hj] at he
   rw [List.getD_eq_getElem?_getD, List.getElem?_eq_getElem hj]
   exact he
  have h2 : mapX M s ≠ -1 := by
   unfold mapX
   cases hf : ((List.range M.length).findSome? fun i => if (M.getD i default).name = s then some (i : Int) else none) with
   | none =>
    rw [List.findSome?_eq_none_iff] at hf
    have := hf j (by simpa using hj)
    rw [if_pos hnm] at this
    cases this
   | some r =>
    obtain ⟨i, _, hr⟩ := List.exists_of_findSome?_eq_some hf
    split at hr
    ·injection hr with hr; subst hr; simp
    ·cases hr
  unfold mapX at h h2
  cases hf : ((List.range M.length).findSome? fun i => if (M.getD i default).name = s then some (i : Int) else none) with
  | none => rw [hf] at h2; exact h2 rfl
  | some r =>
   rw [hf] at h
   obtain ⟨i, _, hr⟩ := List.exists_of_findSome?_eq_some hf
   split at hr
   ·injection hr with hr; subst hr; simp at h; omega
   ·cases hr
 ·intro h
  have := mapX_none (M := M) (s := s) (fun j hj he => by
   have h2 : inL (namesL M) s = true := inL_hit (k := j) (by unfold namesL; rw [List.getElem?_map, List.getElem?_eq_getElem hj]; rw [List.getD_eq_getElem?_getD, List.getElem?_eq_getElem hj] at he; exact congrArg some he)
   rw [h] at h2; cases h2)
  omega
theorem labX_lt (L : List Stmt) (s : ByteArray) : (labX L s < 0) = ((labAt L s).isSome = false) := by
 have hb : ∀ (L : List Stmt) (k : Nat) (p : ByteArray → Option Int), (∀ i, p s = some i → 0 ≤ i) → ∀ i, labI k L p s = some i → 0 ≤ i := by
  intro L
  induction L with
  | nil => intro k p h i hi; exact h i hi
  | cons x l ih =>
   intro k p h i hi
   refine ih (k + 1) _ (fun j hj => ?_) i hi
   split at hj
   ·injection hj with hj; omega
   ·exact h j hj
 apply propext
 unfold labX
 cases h : labAt L s with
 | none => simp
 | some i =>
  have := hb L 0 (fun _ => none) (fun i h => by cases h) i h
  simp
  omega
end Go.Proofs.YtmnbalbiehlkpaaGreatDoor
