/- The layer print: the operands of a statement, as a map of closures. -/
import Derived.Test.YtocnmjpldpbioaaGreatDoorJPrnR
import Derived.Test.YtocnmjpldpbioaaGreatDoorJAll
import Derived.Test.YtocnmjpldpbioaaGreatDoorJSlot
import Derived.Test.YtocnmjpldpbioaaGreatDoorJPDec
import Derived.Test.YtocnmjpldpbioaaGreatDoorJObj
import Derived.Test.YtocnmjpldpbioaaGreatDoorJFmtI
import Derived.Deep.RegionWith
import Derived.Deep.RegionHeld3
set_option linter.unusedVariables false
set_option linter.unusedSimpArgs false
namespace Go.Proofs.YtocnmjpldpbioaaGreatDoor
open Go.RowKit Go.Lib

theorem ops_lt (i : Nat) (o : Oper) (ho : opsR[i]? = some o) : ∀ e ∈ o.after, e.on < i := by
 intro e he
 have hi := (Array.getElem?_eq_some_iff.1 ho).1
 rw [opsR_size] at hi
 have h := lt82
 rw [List.all_eq_true] at h
 have h := h i (List.mem_range.2 hi)
 rw [ho] at h
 have h : (o.after.all fun e => decide (e.on < i)) = true := h
 rw [Array.all_eq_true'] at h
 exact of_decide_eq_true (h e he)
theorem insX_all : ∀ k : Int, 0 ≤ k → k ≤ 11 → ∃ x ∈ insX, x.2 = k := by
 intro k h0 h1
 obtain ⟨j, rfl⟩ := Int.eq_ofNat_of_zero_le h0
 have key : ∀ j : Fin 12, ∃ x ∈ insX, x.2 = (j.val : Int) := by decide +kernel
 exact key ⟨j, by omega⟩
theorem insX_lt : ∀ x ∈ insX, x.1 < 82 := by decide +kernel
/-- The region: whatever order, the map holds the closures. -/
theorem operands_region (c : OC) (Q : Exit → Act → World → Prop) (a : Act) (w : World) (hM7 : ∀ W, Ext c.w0 W → Calls Tryz.prog 8 #[.int .i64 c.n2, .int .i64 c.n3] W fun e w' => e = .returned (.string c.M7) ∧ Ext W w') (hM8 : ∀ W, Ext c.w0 W → Calls Tryz.prog 8 #[.int .i64 c.n1, .int .i64 c.n3] W fun e w' => e = .returned (.string c.M8) ∧ Ext W w')
  (rS : RowV w c.b 34 c.S) (rX : RowV w (c.b + 1) 31 c.X) (ex : Ext c.w0 w) (tsz : a.tmps.size = 93) (df : a.defers = [])
  (t1 : a.tmps[1]?.getD undef = .pointer (some ⟨c.b, 0, none⟩)) (t3 : a.tmps[3]?.getD undef = .pointer (some ⟨c.b + 1, 0, none⟩)) (t4 : a.tmps[4]?.getD undef = .func (.func 44) #[] #[])
  (t5 : a.tmps[5]?.getD undef = .string c.D1) (t6 : a.tmps[6]?.getD undef = .string c.D2) (t7 : a.tmps[7]?.getD undef = .string c.D4) (t8 : a.tmps[8]?.getD undef = .string c.D5)
  (hQ : ∀ a' w' bm n p, a'.defers = [] → a'.tmps[2]?.getD undef = .map (some bm) → MapF w' bm n p → (∀ k, (0 ≤ k ∧ k ≤ 11) → k ≠ 5 → ∃ cp, p k = some (45, cp) ∧ EntR w' cp (c.ent k)) → Ext c.w0 w' → Q .normal a' w') : (Code.region 7 opsR true).wp Tryz.prog Q a w := by
 refine wp_region_any (by kernel_rfl) (wpAny_inv (md := .any) (Inv c) ?_ ?_ (fun fuel ls a w i h hi => all_cases hM7 hM8 i h hi) opsR.size _ _ _ ?_)
 ·intro fuel ls a' w' h hr
  have hall : ∀ i, i < 82 → ls.getD i true = true := fun i hi => all_listed ops_lt hr i (by rw [opsR_size]; exact hi) (by rw [h.sz]; exact hi)
  rcases h.map with ⟨m1, -⟩ | ⟨-, ⟨bm, p, n, q1, q2, q3, q4, q5, q6, q7⟩⟩
  ·rw [hall 0 (by decide)] at m1; cases m1
  ·refine hQ a' w' bm n p h.df (q6 (hall 81 (by decide))) q2 (fun k hk h5 => ?_) h.ex
   obtain ⟨x, hx, rfl⟩ := insX_all k hk.1 hk.2
   exact q4 x hx (hall _ (insX_lt x hx)) h5
 ·intro ls a' w' h
  refine List.eq_nil_iff_forall_not_mem.2 fun i hi => ?_
  have h82 := ready_lt hi
  have hf := (mem_ready.1 hi).1
  have h0 := h.cnt
  rw [List.countP_eq_zero] at h0
  have hs : i < ls.size := by rw [h.sz]; exact h82
  have hm : ls[i] ∈ ls.toList := Array.getElem_mem_toList hs
  have := h0 _ hm
  simp only [Array.getD_eq_getD_getElem?, Array.getElem?_eq_getElem hs, Option.getD_some] at hf
  rw [hf] at this
  exact this rfl
 ·have hd : Ext w w.drew := (Ext.refl w).drew
  rw [opsR_size]
  refine ⟨by simp, by decide +kernel, tsz, df, t1, t3, t4, t5, t6, t7, t8, rS.ext hd, rX.ext hd, ex.trans hd, fun j k hj hl => ?_, .inl ⟨by decide +kernel, ?_⟩⟩
  ·have hlt := (List.getElem?_eq_some_iff.1 (dst_at hj)).1
   rw [dst_len] at hlt
   have key : ∀ j, j < 82 → (Array.replicate 82 false).getD j true = false := by decide +kernel
   rw [key j hlt] at hl
   cases hl
  ·decide +kernel
set_option maxRecDepth 40000 in
set_option maxHeartbeats 16000000 in
theorem operands_any (A : Option Addr) (c : Nat) (s : Stmt) (w : World) (hl : IsStrs w (.slice A s.labels.length c) s.labels) (hok : s.ins.Ok) (ht : s.target.size ≤ 140737488355328) (hm : s.map.size ≤ 140737488355328) (hWd : WidN w) (hP : PowV w) :
  Calls Tryz.prog 25 #[StV A s.labels.length c s] w fun e w' => ∃ bm n p, e = .returned (.map (some bm)) ∧ MapF w' bm n p ∧ (∀ k, (0 ≤ k ∧ k ≤ 11) → k ≠ 5 → ∃ cp, p k = some (45, cp) ∧ EntR w' cp (opsL s k)) ∧ Ext w w' := by
 obtain ⟨labels, ⟨op, reg, n1, n2, n3, n4⟩, tt, tm⟩ := s
 obtain ⟨hop, hn1, hn2, hn3, hn4⟩ := hok
 dsimp only at *
 have HND := hx fun (W : World) => ident_Name_any n1 W hn1.1 hn1.2
 have HNS := hx fun (W : World) => ident_Name_any n2 W hn2.1 hn2.2
 have HNU := hx fun (W : World) (h : Ext w W) => print_Number_any n4 W hn4 (hP.ext h)
 have HM7 := hx fun (W : World) (h : Ext w W) => print_Memory_any n2 n3 W hn2 hn3 (hWd.ext h) (hP.ext h)
 have HM8 := hx fun (W : World) (h : Ext w W) => print_Memory_any n1 n3 W hn1 hn3 (hWd.ext h) (hP.ext h)
 have z1 := nameOf_size n1
 have z2 := nameOf_size n2
 have z3 := numS_size hn4
 have z4 := memS_size n2 n3 hn3
 have z5 := memS_size n1 n3 hn3
 have HOP := hx (show ∀ k, opsL ⟨labels, ⟨op, reg, n1, n2, n3, n4⟩, tt, tm⟩ k = (if k = 0 then [nameOf n1, if reg then nameOf n2 else numS n4] else if k = 1 then [nameOf n1] else if k = 2 then [nameOf n1, nameOf n2] else if k = 3 then [tt] else if k = 4 then [nameOf n1, if reg then nameOf n2 else numS n4, tt] else if k = 6 then [] else if k = 7 then [nameOf n1, memS n2 n3] else if k = 8 then [memS n1 n3, numS n4] else if k = 9 then [memS n1 n3, nameOf n2] else if k = 10 then [nameOf n1, numS n4] else [nameOf n1, tm]) from fun k => rfl)
 generalize opsL ⟨labels, ⟨op, reg, n1, n2, n3, n4⟩, tt, tm⟩ = OL at *
 generalize nameOf n1 = D1 at *
 generalize nameOf n2 = D2 at *
 generalize numS n4 = D4 at *
 generalize memS n2 n3 = M7 at *
 generalize memS n1 n3 = M8 at *
 clear hop hn1 hn2 hn3 hn4 hl hWd hP
 unfold StV
 dsimp only
 generalize labels.length = nl at *
 go_enter Tryz.func25, Tryz.ntmps25
 go_upto_region 3 with fail
 have rS : RowV ((w.alloc (.cells #[.slice A nl c, .int .i64 op, .bool reg, .int .i64 n1, .int .i64 n2, .int .i64 n3, .int .i64 n4, .string tt, .string tm] 34)).alloc (.cells #[.int .i64 op, .bool reg, .int .i64 n1, .int .i64 n2, .int .i64 n3, .int .i64 n4] 31)) w.heap.size 34 [.slice A nl c, .int .i64 op, .bool reg, .int .i64 n1, .int .i64 n2, .int .i64 n3, .int .i64 n4, .string tt, .string tm] := (Ext.new _ _).obj (RowV.new w _ _)
 have rX : RowV ((w.alloc (.cells #[.slice A nl c, .int .i64 op, .bool reg, .int .i64 n1, .int .i64 n2, .int .i64 n3, .int .i64 n4, .string tt, .string tm] 34)).alloc (.cells #[.int .i64 op, .bool reg, .int .i64 n1, .int .i64 n2, .int .i64 n3, .int .i64 n4] 31)) (w.heap.size + 1) 31 [.int .i64 op, .bool reg, .int .i64 n1, .int .i64 n2, .int .i64 n3, .int .i64 n4] := by
  have h := RowV.new (w.alloc (.cells #[.slice A nl c, .int .i64 op, .bool reg, .int .i64 n1, .int .i64 n2, .int .i64 n3, .int .i64 n4, .string tt, .string tm] 34)) [.int .i64 op, .bool reg, .int .i64 n1, .int .i64 n2, .int .i64 n3, .int .i64 n4] 31
  rw [World.size_alloc] at h
  exact h
 have eX : Ext w ((w.alloc (.cells #[.slice A nl c, .int .i64 op, .bool reg, .int .i64 n1, .int .i64 n2, .int .i64 n3, .int .i64 n4, .string tt, .string tm] 34)).alloc (.cells #[.int .i64 op, .bool reg, .int .i64 n1, .int .i64 n2, .int .i64 n3, .int .i64 n4] 31)) := (Ext.new w _).alloc _
 generalize ((w.alloc (.cells #[.slice A nl c, .int .i64 op, .bool reg, .int .i64 n1, .int .i64 n2, .int .i64 n3, .int .i64 n4, .string tt, .string tm] 34)).alloc (.cells #[.int .i64 op, .bool reg, .int .i64 n1, .int .i64 n2, .int .i64 n3, .int .i64 n4] 31)) = W1 at *
 have L5 := hx fun (W : World) (h : Ext W1 W) => And.intro ((rX.ext h).cell (i := 2) rfl) (And.intro ((rX.ext h).cell (i := 3) rfl) ((rX.ext h).cell (i := 5) rfl))
 have RS := hx rS
 have RX := hx rX
 have X1 := hx eX
 clear rS rX eX
 have hr0 : Ext W1 W1 := Ext.refl W1
 have hd2 : Ext W1 W1.drew := (Ext.refl W1).drew
 go_cut [3, 4, 5, 6, 7] (fun s3 s4 s5 s6 s7 wx => s3 = .pointer (some ⟨w.heap.size + 1, 0, none⟩) ∧ s4 = .func (.func 44) #[] #[] ∧ s5 = .string D1 ∧ s6 = .string D2 ∧ s7 = .string D4 ∧ Ext W1 wx)
 case first =>
  go_region_held3 (fun w' => w'.cell? ⟨w.heap.size + 1, 2, none⟩ = some (.int .i64 n1) ∧ w'.cell? ⟨w.heap.size + 1, 3, none⟩ = some (.int .i64 n2) ∧ w'.cell? ⟨w.heap.size + 1, 5, none⟩ = some (.int .i64 n4)) (exact L5.out _ (by assumption))
   (first
    | (go_at_call 15; first | (refine (HND.out _).mono ?_; rintro e wA ⟨rfl, rfl⟩; clear HND) | (refine (HNS.out _).mono ?_; rintro e wA ⟨rfl, rfl⟩; clear HNS))
    | (go_at_call 6; refine (HNU.out _ (X1.out.trans (by assumption))).mono ?_; rintro e wB ⟨rfl, eB⟩; have fB : Ext W1 wB := Ext.trans (by assumption) eB))
  all_goals
   go_wp2
   go_meet
   first | exact ⟨rfl, rfl, rfl, rfl, rfl, by assumption⟩ | trace_state
 case rest =>
  obtain ⟨rfl, rfl, rfl, rfl, rfl, x2⟩ := hcut
  have rS := RS.out.ext x2
  have rX := RX.out.ext x2
  have EX := X1.out.trans x2
  have q1 := rX.cell (i := 1) rfl
  have hsz := EX.size
  clear L5 HND HNS HNU hr0 hd2 x2 hsz
  obtain ⟨D5, hD5⟩ : ∃ D5, D5 = if reg then D2 else D4 := ⟨_, rfl⟩
  have HD5 := hx hD5
  have HX := hx fun (Q : Exit → Act → World → Prop) (a : Act) => operands_region ⟨w, w.heap.size, .slice A nl c, op, reg, n1, n2, n3, n4, tt, tm, D1, D2, D4, D5, M7, M8⟩ Q a wc HM7.out HM8.out rS rX EX
  clear rS rX HM7 HM8 RS RX X1
  cases reg
  all_goals
   go_upto_region 7 with fail
   change (Code.region 7 opsR true).wp Tryz.prog _ _ _
   refine HX.out _ _ rfl rfl rfl rfl rfl rfl rfl rfl (by first | rw [HD5.out]; rfl) fun a' w' bm n p hdf h2 hM hE he => ?_
   refine (show ∀ (K : Act → World → Prop) (Q : Exit → Act → World → Prop), K a' w' → Exit.then K Q .normal a' w' from fun _ _ h => h) _ _ ?_
   refine (by assumption : ∀ (a : Act) (w : World), Code.wp Tryz.prog Code.ret _ a w → _) a' w' ?_
   apply wp_ret
   refine bodyPost_ret (results_tmp rfl _ _ _) hdf ⟨bm, n, p, ?_, hM, fun k hk h5 => ?_, he⟩
   ·have h3 : a'.tmps.getD 2 undef = .map (some bm) := by simpa using h2
    rw [h3]
   ·obtain ⟨cp, e1, e2⟩ := hE k hk h5
    refine ⟨cp, e1, ?_⟩
    rw [HOP.out k, ← HD5.out]
    exact e2
end Go.Proofs.YtocnmjpldpbioaaGreatDoor


set_option linter.unusedVariables false
set_option linter.unusedSimpArgs false
namespace Go.Proofs.YtocnmjpldpbioaaGreatDoor
open Go.RowKit Go.Lib

set_option maxRecDepth 20000 in
set_option maxHeartbeats 1000000 in
theorem rules3_some (A1 A2 : Option Addr) (n1 c1 m c2 : Nat) (hm : 0 < m) (w : World) :
  Calls Tryz.prog 80 #[.agg #[.slice A1 n1 c1, .slice A2 m c2]] w fun e w' => e = .returned (findV (0, 0)) ∧ Ext w w' := by
 have hw := hx fun W => when_any false 15 W
 have p3 := heap_alloc_new (w.alloc (.cells #[.slice A1 n1 c1, .slice A2 m c2] 40)) (.cells #[.int .i64 0, .int .i64 0] 65)
 rw [World.size_alloc] at p3
 have e0 := (Ext.new w (.cells #[.slice A1 n1 c1, .slice A2 m c2] 40)).alloc (.cells #[.int .i64 0, .int .i64 0] 65)
 have hb : ((m : Int) == 0) = false := by simp; omega
 go_enter Tryz.func80, Tryz.ntmps80
 go_wp2_with (first | (go_at_call 76; refine (hw.out _).mono ?_; rintro e w' ⟨rfl, rfl⟩))
 refine bodyPost_ret (results_cell_row rfl _ _ (w.heap.size + 1) 65 _ _ _ rfl p3 Tryz.underlying65 rfl (by kernel_rfl)) rfl ?_
 exact ⟨rfl, e0⟩
set_option maxRecDepth 40000 in
set_option maxHeartbeats 2000000 in
theorem rules4_any (A1 A2 : Option Addr) (n1 c1 n2 c2 : Nat) (ix : Int) (A : Option Addr) (n c : Nat) (s : Stmt) (w : World) (hok : s.ins.Ok) (hO : OpsQ s.ins.op w) :
  Calls Tryz.prog 82 #[.agg #[.slice A1 n1 c1, .slice A2 n2 c2], .int .i64 ix, StV A n c s] w fun e w' => e = .returned (.int .i64 (whenN (writesX s.ins == 10) 14)) ∧ Ext w w' := by
 have HW := hx when_any
 have e0 := (Ext.new w (.cells #[.slice A1 n1 c1, .slice A2 n2 c2] 40)).alloc (.cells (stL A n c s).toArray 34)
 have hc := insnWrites_any s.ins _ hok (hO.ext e0)
 unfold StV
 unfold Ins.v stL at hc
 obtain ⟨labels, ⟨op, reg, n1', n2', n3', n4'⟩, tt, tm⟩ := s
 simp only [stL] at *
 generalize writesX ⟨op, reg, n1', n2', n3', n4'⟩ = X at *
 have HC := hx hc
 have E0 := hx e0
 clear hc e0 hok hO
 go_enter Tryz.func82, Tryz.ntmps82
 go_wp2_with fail
 refine HC.out.mono ?_
 rintro e w1 ⟨rfl, e1⟩
 go_wp2_with (go_at_call 76; refine (HW.out _ _ _).mono ?_; rintro e w4 ⟨rfl, rfl⟩)
 go_ret
 exact ⟨ret_int (by simp), E0.out.trans e1⟩
set_option maxRecDepth 40000 in
set_option maxHeartbeats 2000000 in
theorem rules5_any (A1 A2 : Option Addr) (n1 c1 m c2 i : Nat) (A : Option Addr) (n c : Nat) (s : Stmt) (w : World) (hok : s.ins.Ok) (hO : OpsQ s.ins.op w) (hi : i < m) (hm : m ≤ 1000000) :
  Calls Tryz.prog 84 #[.agg #[.slice A1 n1 c1, .slice A2 m c2], .int .i64 (i : Nat), StV A n c s] w fun e w' => e = .returned (.int .i64 (whenN (decide (i + 1 = m) && !endsX s.ins) 15)) ∧ Ext w w' := by
 have HW := hx when_any
 have e0 := (Ext.new w (.cells #[.slice A1 n1 c1, .slice A2 m c2] 40)).alloc (.cells (stL A n c s).toArray 34)
 have hc := insnEnds_any s.ins _ hok (hO.ext e0)
 unfold StV
 unfold Ins.v stL at hc
 obtain ⟨j, hj⟩ : ∃ j, m = j + 1 := ⟨m - 1, by omega⟩
 have hk1 : (m : Int) - 1 = (j : Int) := by omega
 have hw1 : wrap64 (j : Int) = (j : Int) := by unfold wrap64; omega
 obtain ⟨labels, ⟨op, reg, n1', n2', n3', n4'⟩, tt, tm⟩ := s
 simp only [stL] at *
 generalize endsX ⟨op, reg, n1', n2', n3', n4'⟩ = X at *
 have HC := hx hc
 have E0 := hx e0
 clear hc e0 hok hO
 by_cases hij : i = j
 ·have hd : decide (i + 1 = m) = true := decide_eq_true (by omega)
  have hb : ((i : Int) == (j : Int)) = true := by simp; omega
  have HD := hx hd
  clear hd hij hj hi hm
  go_enter Tryz.func84, Tryz.ntmps84
  go_wp2_with fail
  refine HC.out.mono ?_
  rintro e w1 ⟨rfl, e1⟩
  go_wp2_with (go_at_call 76; refine (HW.out _ _ _).mono ?_; rintro e w4 ⟨rfl, rfl⟩)
  go_ret
  exact ⟨ret_int (by rw [HD.out]; simp), E0.out.trans e1⟩
 ·have hd : decide (i + 1 = m) = false := decide_eq_false (by omega)
  have hb : ((i : Int) == (j : Int)) = false := by simp; omega
  have HD := hx hd
  clear hd hij hj hi hm
  go_enter Tryz.func84, Tryz.ntmps84
  go_wp2_with (go_at_call 76; refine (HW.out _ _ _).mono ?_; rintro e w4 ⟨rfl, rfl⟩)
  go_ret
  exact ⟨ret_int (by rw [HD.out]; simp), E0.out⟩
end Go.Proofs.YtocnmjpldpbioaaGreatDoor


set_option linter.unusedVariables false
set_option linter.unusedSimpArgs false
namespace Go.Proofs.YtocnmjpldpbioaaGreatDoor
open Go.RowKit Go.Lib

theorem enT1 : ∀ args W, (callFunc 74 args).run Tryz.prog W = .ok (.enter 74 args) W := fun _ _ => by kernel_rfl
theorem enT4 : ∀ args W, (callFunc 82 args).run Tryz.prog W = .ok (.enter 82 args) W := fun _ _ => by kernel_rfl
theorem enT5 : ∀ args W, (callFunc 84 args).run Tryz.prog W = .ok (.enter 84 args) W := fun _ _ => by kernel_rfl
theorem enDc : ∀ args W, (callFunc 81 args).run Tryz.prog W = .ok (.enter 81 args) W := fun _ _ => by kernel_rfl
def wrE (_ : Nat) (s : Stmt) : Int := whenN (writesX s.ins == 10) 14
def enE (m : Nat) (i : Nat) (s : Stmt) : Int := whenN (decide (i + 1 = m) && !endsX s.ins) 15
/-- What the nine rules find. -/
def prRs (M : List Def) (L : List Stmt) : List (Int × Int) :=
 [findA (fun _ d => mapE d) 0 M, findS (fun _ s => stmtE s) L, findA (fun i _ => whenN (decide (255 ≤ i)) 16) 0 M, findA (fun i _ => whenN (repN (M.map (·.name)) == i) 10) 0 M,
  labD [] 0 L, (if L.length = 0 then (0, 15) else (0, 0)), findS (undE L (emS :: M.map (·.name))) L, findS wrE L, findS (enE L.length) L]
/-- The index and the error of a program. -/
def pchk (M : List Def) (L : List Stmt) : Int × Int := (firstF 0 (prRs M L)).1
/-- The names in a program. -/
def namesP (M : List Def) (L : List Stmt) : List ByteArray := M.map (·.name) ++ L.flatMap (·.names)
theorem namesP_def {M : List Def} {L : List Stmt} {d : Def} (h : d ∈ M) : ∀ s ∈ [d.name], s ∈ namesP M L := by
 intro s hs
 obtain rfl : s = d.name := by simpa using hs
 exact List.mem_append_left _ (List.mem_map_of_mem h)
theorem namesP_stm {M : List Def} {L : List Stmt} {x : Stmt} (h : x ∈ L) : ∀ s ∈ x.names, s ∈ namesP M L := fun s hs => List.mem_append_right _ (List.mem_flatMap.2 ⟨x, h, hs⟩)
theorem progCheck_q (A1 A2 : Option Addr) (n1 c1 m c2 : Nat) (M : List Def) (L : List Stmt) (w : World) (hn1 : n1 = M.length) (hl1 : n1 ≤ 100000) (hm : m = L.length) (hml : m ≤ 1000000)
  (hd : IsDefs w (.slice A1 n1 c1) M) (hv : IsStmts w (.slice A2 m c2) L) (hfl : (flat L).length ≤ 1000000) (hG : GlobQ (namesP M L) w) (hN : NoneV w) (hO : ∀ s ∈ L, OpsQ s.ins.op w) (hWd : WidN w) :
  Calls Tryz.prog 18 #[.agg #[.slice A1 n1 c1, .slice A2 m c2]] w fun e w' => e = .returned (.tuple #[.int .i64 (pchk M L).1, .int .i64 (pchk M L).2]) ∧ Ext w w' := by
 subst hn1 hm
 have hok := defs_ok hd
 refine progCheck_of A1 A2 M.length c1 L.length c2 (firstF 0 (prRs M L)).1 (firstF 0 (prRs M L)).2 w fun W0 hW0 => ?_
 refine check_nine A1 A2 M.length c1 L.length c2 (prRs M L) W0 rfl (hN.ext hW0).a (hN.ext hW0).b fun W R hW ra k r hr hz => ?_
 have e1 := hW0.trans hW
 match k, hr with
 | 0, hr =>
  obtain ⟨a, b, q1, q2, q3⟩ := ra.r1
  obtain rfl := Option.some.inj hr
  refine ⟨_, _, q1, enD, fun W' hW' => ?_⟩
  have e2 := e1.trans hW'
  refine eachDef1_any a b _ A2 L.length c2 M (fun _ d => mapE d) W' hl1 (IsDefs.ext hd e2) (hW'.cell q2) (hW'.cell q3) (hN.ext e2).a (hN.ext e2).b fun i d W'' hW'' hdm => ?_
  exact checkMap_any A1 A2 M.length c1 L.length c2 i d (hok d hdm) W'' ((hG.ext (e2.trans hW'')).sub (namesP_def hdm))
 | 1, hr =>
  obtain ⟨a, b, q1, q2, q3⟩ := ra.r2
  obtain rfl := Option.some.inj hr
  refine ⟨_, _, q1, enS, fun W' hW' => ?_⟩
  have e2 := e1.trans hW'
  refine eachStmt_of a b 74 A1 A2 M.length c1 c2 L.length L (fun _ s => stmtE s) W' rfl hml (IsStmts.ext hv e2) (hW'.cell q2) (hW'.cell q3) (hN.ext e2).a (hN.ext e2).b enT1 fun i s A c W'' hW'' hs hsl hso => ?_
  have e3 := e2.trans hW''
  exact checkStmt_any A1 A2 M.length c1 L.length c2 i A c s W'' hsl hso.ins hso.tgt hso.map ((hG.ext e3).sub (namesP_stm (List.mem_of_getElem? hs))) ((hO s (List.mem_of_getElem? hs)).ext e3) (hWd.ext e3)
 | 2, hr =>
  obtain ⟨a, b, q1, q2, q3⟩ := ra.r3
  obtain rfl := Option.some.inj hr
  refine ⟨_, _, q1, enD, fun W' hW' => ?_⟩
  have e2 := e1.trans hW'
  refine eachDefR1_any a b _ A2 L.length c2 M (fun i _ => whenN (decide (255 ≤ i)) 16) W' hl1 (IsDefs.ext hd e2) (hW'.cell q2) (hW'.cell q3) (hN.ext e2).a (hN.ext e2).b fun i d W'' hW'' hdm => ?_
  exact rules1_any A1 A2 M.length c1 L.length c2 i d W''
 | 3, hr =>
  obtain ⟨a, b, q1, q2, q3⟩ := ra.r4
  obtain rfl := Option.some.inj hr
  refine ⟨_, _, q1, enD, fun W' hW' => ?_⟩
  have e2 := e1.trans hW'
  refine eachDefR2_any a b _ A2 L.length c2 M (fun i _ => whenN (repN (M.map (·.name)) == i) 10) W' hl1 (IsDefs.ext hd e2) (hW'.cell q2) (hW'.cell q3) (hN.ext e2).a (hN.ext e2).b fun i d W'' hW'' hdm => ?_
  exact rules2_any _ A2 L.length c2 M i d W'' hl1 (IsDefs.ext hd (e2.trans hW''))
 | 4, hr =>
  obtain rfl := Option.some.inj hr
  refine ⟨_, _, ra.r5, enL, fun W' hW' => ?_⟩
  have e2 := e1.trans hW'
  exact labelsOnce_any A1 A2 M.length c1 L.length c2 L W' rfl hml (IsStmts.ext hv e2) hfl (hN.ext e2).a (hN.ext e2).b
 | 5, hr =>
  obtain rfl := Option.some.inj hr
  refine ⟨_, _, ra.r6, en3, fun W' hW' => ?_⟩
  by_cases h0 : L.length = 0
  ·rw [h0, if_pos rfl]
   exact rules3_none A1 A2 M.length c1 c2 W'
  ·rw [if_neg h0]
   exact rules3_some A1 A2 M.length c1 L.length c2 (by omega) W'
 | 6, hr =>
  obtain rfl := Option.some.inj hr
  refine ⟨_, _, ra.r7, enDc, fun W' hW' => ?_⟩
  have e2 := e1.trans hW'
  exact declared_any A1 A2 M.length c1 L.length c2 M L W' rfl (by omega) rfl hml (IsDefs.ext hd e2) (IsStmts.ext hv e2) hfl (hN.ext e2).a (hN.ext e2).b
 | 7, hr =>
  obtain ⟨a, b, q1, q2, q3⟩ := ra.r8
  obtain rfl := Option.some.inj hr
  refine ⟨_, _, q1, enS, fun W' hW' => ?_⟩
  have e2 := e1.trans hW'
  refine eachStmt_of a b 82 A1 A2 M.length c1 c2 L.length L wrE W' rfl hml (IsStmts.ext hv e2) (hW'.cell q2) (hW'.cell q3) (hN.ext e2).a (hN.ext e2).b enT4 fun i s A c W'' hW'' hs hsl hso => ?_
  exact rules4_any A1 A2 M.length c1 L.length c2 i A s.labels.length c s W'' hso.ins ((hO s (List.mem_of_getElem? hs)).ext (e2.trans hW''))
 | 8, hr =>
  obtain ⟨a, b, q1, q2, q3⟩ := ra.r9
  obtain rfl := Option.some.inj hr
  refine ⟨_, _, q1, enS, fun W' hW' => ?_⟩
  have e2 := e1.trans hW'
  refine eachStmt_of a b 84 A1 A2 M.length c1 c2 L.length L (enE L.length) W' rfl hml (IsStmts.ext hv e2) (hW'.cell q2) (hW'.cell q3) (hN.ext e2).a (hN.ext e2).b enT5 fun i s A c W'' hW'' hs hsl hso => ?_
  exact rules5_any A1 A2 M.length c1 L.length c2 i A s.labels.length c s W'' hso.ins ((hO s (List.mem_of_getElem? hs)).ext (e2.trans hW'')) (List.getElem?_eq_some_iff.1 hs).1 hml
 | k + 9, hr => simp [prRs] at hr
end Go.Proofs.YtocnmjpldpbioaaGreatDoor


set_option linter.unusedVariables false
set_option linter.unusedSimpArgs false
namespace Go.Proofs.YtocnmjpldpbioaaGreatDoor
open Go.RowKit Go.Lib

theorem run_opname (r : OpRow) (w : World) : (Instr.field 85 r.val 0).run Tryz.prog w = .ok (.string r.name) w := by kernel_rfl
theorem opName_any (n : Int) (w : World) (hn : I64 n) (hO : OpsQ n w) :
  Calls Tryz.prog 24 #[.int .i64 n] w fun e w' => e = .returned (.string (rowOf n).name) ∧ Ext w w' := by
 have h := opGet_any n w hn hO
 generalize rowOf n = r at *
 have hF := fun W => run_opname r W
 unfold OpRow.val at h hF
 have H := hx h
 clear h hO
 go_enter Tryz.func24, Tryz.ntmps24
 go_wp2_with (go_at_call 43; refine H.out.mono ?_; rintro e w1 ⟨rfl, e1⟩)
 go_ret
 exact ⟨rfl, e1⟩
theorem firstF_ne {p : Int → Prop} : ∀ (l : List (Int × Int)) (i : Int), p 0 → (∀ r ∈ l, p r.2) → p (firstF i l).1.2 := by
 intro l
 induction l with
 | nil => intro i h0 _; exact h0
 | cons x l ih =>
  intro i h0 h
  rw [firstF]
  split
  ·exact ih _ h0 fun r hr => h r (by simp [hr])
  ·exact h x (by simp)
theorem findS_two {F : Nat → Stmt → Int} {s : Stmt} : (findS F [s]).2 = F 0 s := by
 unfold findS
 simp only [List.length_singleton, List.range_one, List.findSome?_singleton]
 by_cases h : F 0 s = 0
 ·simp [h]
 ·simp [h]
theorem pchk_stm (s : Stmt) : (stmtE s ≠ 0 → (pchk [] [s]).2 = stmtE s) ∧ (stmtE s = 0 → (pchk [] [s]).2 ≠ 7 ∧ (pchk [] [s]).2 ≠ 12) := by
 have h1 : (findS (fun _ s => stmtE s) [s]).2 = stmtE s := findS_two
 constructor
 ·intro h
  unfold pchk prRs
  rw [show (findA (fun _ d => mapE d) 0 ([] : List Def)) = (0, 0) from rfl, firstF, if_pos rfl, firstF, if_neg (by rw [h1]; exact h)]
  exact h1
 ·intro h
  unfold pchk
  refine firstF_ne (p := fun e => e ≠ 7 ∧ e ≠ 12) _ _ ⟨by decide, by decide⟩ fun r hr => ?_
  unfold prRs at hr
  simp only [List.mem_cons, List.not_mem_nil, or_false] at hr
  rcases hr with rfl | rfl | rfl | rfl | rfl | rfl | rfl | rfl | rfl
  ·exact ⟨by decide, by decide⟩
  ·rw [h1, h]; exact ⟨by decide, by decide⟩
  ·exact ⟨by decide, by decide⟩
  ·exact ⟨by decide, by decide⟩
  ·unfold labD
   split
   ·exact ⟨by decide, by decide⟩
   ·unfold labD; exact ⟨by decide, by decide⟩
  ·split <;> exact ⟨by decide, by decide⟩
  ·rw [findS_two]; unfold undE; split <;> exact ⟨by decide, by decide⟩
  ·rw [findS_two]; unfold wrE whenN; split <;> exact ⟨by decide, by decide⟩
  ·rw [findS_two]; unfold enE whenN; split <;> exact ⟨by decide, by decide⟩
set_option maxRecDepth 40000 in
set_option maxHeartbeats 8000000 in
theorem print_correct_any (A : Option Addr) (c : Nat) (s : Stmt) (w : World) (hl : IsStrs w (.slice A s.labels.length c) s.labels) (hn : s.labels.length ≤ 1000000) (hok : s.ins.Ok) (ht : s.target.size ≤ 140737488355328) (hm : s.map.size ≤ 140737488355328) (hG : GlobQ s.names w) (hN : NoneV w) (hO : OpsQ s.ins.op w) (hWd : WidN w) :
  Calls Tryz.prog 22 #[StV A s.labels.length c s] w fun e w' => e = .returned (.bool (decide (stmtE s = 0))) ∧ Ext w w' := by
 have hin := stmtE_ins (s := s)
 have hlb := stmtE_lbl (s := s)
 have hps := pchk_stm s
 have h3s : insE s.ins = 0 → stmtE s = 0 ∨ stmtE s = 7 ∨ stmtE s = 12 := fun h => by
  cases hb : lblBad s.labels with
  | true => exact .inr (.inl (stmtE_lbl hb))
  | false =>
   rw [stmtE_tail hb h]
   unfold tailB
   split
   ·exact .inr (.inr rfl)
   ·split
    ·exact .inr (.inl rfl)
    ·exact .inl rfl
 obtain ⟨W0, hW0⟩ : ∃ W0, W0 = w.alloc (.cells #[.slice A s.labels.length c, .int .i64 s.ins.op, .bool s.ins.reg, .int .i64 s.ins.dst, .int .i64 s.ins.src, .int .i64 s.ins.off, .int .i64 s.ins.imm, .string s.target, .string s.map] 34) := ⟨_, rfl⟩
 have e0 : Ext w W0 := by rw [hW0]; exact Ext.new _ _
 have r0 : RowV W0 w.heap.size 34 [.slice A s.labels.length c, .int .i64 s.ins.op, .bool s.ins.reg, .int .i64 s.ins.dst, .int .i64 s.ins.src, .int .i64 s.ins.off, .int .i64 s.ins.imm, .string s.target, .string s.map] := by rw [hW0]; exact RowV.new _ _ _
 have hC := insnCheck_any s.ins W0 hok (hO.ext e0) (hWd.ext e0)
 have hfl : (flat [s]).length ≤ 1000000 := by
  have h : (flat [s]).length = s.labels.length := by simp [flat]
  omega
 have HP := hx fun (W : World) (hW : Ext w W) => by
  have hnew := RowV.new W [.slice A s.labels.length c, .int .i64 s.ins.op, .bool s.ins.reg, .int .i64 s.ins.dst, .int .i64 s.ins.src, .int .i64 s.ins.off, .int .i64 s.ins.imm, .string s.target, .string s.map] 34
  have e2 := Ext.new W (.cells #[.slice A s.labels.length c, .int .i64 s.ins.op, .bool s.ins.reg, .int .i64 s.ins.dst, .int .i64 s.ins.src, .int .i64 s.ins.off, .int .i64 s.ins.imm, .string s.target, .string s.map] 34)
  have e3 := hW.trans e2
  have hst : IsStmts (W.alloc (.cells #[.slice A s.labels.length c, .int .i64 s.ins.op, .bool s.ins.reg, .int .i64 s.ins.dst, .int .i64 s.ins.src, .int .i64 s.ins.off, .int .i64 s.ins.imm, .string s.target, .string s.map] 34)) (.slice (some ⟨W.heap.size, 0, none⟩) 1 1) [s] := ⟨_, 1, rfl, by simp [maxLen], by simp, (fun h => by cases h), fun i x hi => by
   match i, hi with
   | 0, hi =>
    obtain rfl := Option.some.inj hi
    exact ⟨_, _, rfl, _, hnew.cell (i := 0) rfl, IsStrs.ext hl e3, ⟨hnew.cell (i := 1) rfl, hnew.cell (i := 2) rfl, hnew.cell (i := 3) rfl, hnew.cell (i := 4) rfl, hnew.cell (i := 5) rfl, hnew.cell (i := 6) rfl⟩, hok, ⟨hnew.cell (i := 7) rfl, ht⟩, hnew.cell (i := 8) rfl, hm⟩
   | n + 1, hi => simp at hi⟩
  exact (progCheck_q none (some ⟨W.heap.size, 0, none⟩) 0 0 1 1 [] [s] _ rfl (by decide) rfl (by decide) (Sl.nil _) hst hfl ((hG.ext e3).sub (by simp [namesP])) (hN.ext e3) (fun x hx => by rcases List.mem_singleton.1 hx with rfl; exact hO.ext e3) (hWd.ext e3)).mono (R' := fun e w' => e = .returned (.tuple #[.int .i64 (pchk [] [s]).1, .int .i64 (pchk [] [s]).2]) ∧ Ext W w') fun e w' ⟨h1, h2⟩ => ⟨h1, e2.trans h2⟩
 rw [hW0] at hC
 have HC := hx hC
 have HW0 := hx hW0
 have E0 := hx e0
 have q1 := r0.cell (i := 1) rfl
 have q2 := r0.cell (i := 2) rfl
 have q3 := r0.cell (i := 3) rfl
 have q4 := r0.cell (i := 4) rfl
 have q5 := r0.cell (i := 5) rfl
 have q6 := r0.cell (i := 6) rfl
 clear hC hW0 e0 hl hok ht hm hG hN hO hWd hfl
 generalize stmtE s = SE at *
 generalize (pchk [] [s]).1 = P1 at *
 generalize (pchk [] [s]).2 = P2 at *
 have hine : insE s.ins ≠ 0 → SE ≠ 0 := fun h => by
  cases hb : lblBad s.labels with
  | true => rw [hlb hb]; decide
  | false => rw [hin hb h]; exact h
 clear hin hlb
 unfold StV
 obtain ⟨labels, ⟨op, reg, n1, n2, n3, n4⟩, tt, tm⟩ := s
 dsimp only at *
 unfold Ins.v at HC
 dsimp only at HC
 generalize insE ⟨op, reg, n1, n2, n3, n4⟩ = IE at *
 generalize labels.length = nl at *
 by_cases hi : IE = 0
 ·subst hi
  clear hine
  rcases h3s rfl with h | h | h
  ·have h12 := hps.2 h
   have d1 : (P2 != 7) = true := by simpa using h12.1
   have d2 : (P2 != 12) = true := by simpa using h12.2
   have hd : decide (SE = 0) = true := decide_eq_true h
   rw [hd]
   clear hps h12 h hd h3s
   go_enter Tryz.func22, Tryz.ntmps22
   go_wp2_with fail
   refine HC.out.mono ?_
   rintro e w1 ⟨rfl, e1⟩
   rw [← HW0.out] at e1
   have r1 := r0.ext e1
   have X1 := E0.out.trans e1
   have HP1 := hx (HP.out w1 X1)
   replace q1 := r1.cell (i := 1) rfl
   replace q2 := r1.cell (i := 2) rfl
   replace q3 := r1.cell (i := 3) rfl
   replace q4 := r1.cell (i := 4) rfl
   replace q5 := r1.cell (i := 5) rfl
   replace q6 := r1.cell (i := 6) rfl
   have q0 := r1.cell (i := 0) rfl
   have q7 := r1.cell (i := 7) rfl
   have q8 := r1.cell (i := 8) rfl
   clear HP HC HW0 E0 r0 r1 e1
   go_wp2_with fail
   refine HP1.out.mono ?_
   rintro e w2 ⟨rfl, e2⟩
   go_wp2
   go_ret
   exact ⟨rfl, X1.trans e2⟩
  ·have h7 : P2 = 7 := by rw [hps.1 (by omega), h]
   subst h7
   have hd : decide (SE = 0) = false := decide_eq_false (by omega)
   rw [hd]
   clear hps h hd h3s
   go_enter Tryz.func22, Tryz.ntmps22
   go_wp2_with fail
   refine HC.out.mono ?_
   rintro e w1 ⟨rfl, e1⟩
   rw [← HW0.out] at e1
   have r1 := r0.ext e1
   have X1 := E0.out.trans e1
   have HP1 := hx (HP.out w1 X1)
   replace q1 := r1.cell (i := 1) rfl
   replace q2 := r1.cell (i := 2) rfl
   replace q3 := r1.cell (i := 3) rfl
   replace q4 := r1.cell (i := 4) rfl
   replace q5 := r1.cell (i := 5) rfl
   replace q6 := r1.cell (i := 6) rfl
   have q0 := r1.cell (i := 0) rfl
   have q7 := r1.cell (i := 7) rfl
   have q8 := r1.cell (i := 8) rfl
   clear HP HC HW0 E0 r0 r1 e1
   go_wp2_with fail
   refine HP1.out.mono ?_
   rintro e w2 ⟨rfl, e2⟩
   go_wp2
   go_ret
   exact ⟨rfl, X1.trans e2⟩
  ·have h7 : P2 = 12 := by rw [hps.1 (by omega), h]
   subst h7
   have hd : decide (SE = 0) = false := decide_eq_false (by omega)
   rw [hd]
   clear hps h hd h3s
   go_enter Tryz.func22, Tryz.ntmps22
   go_wp2_with fail
   refine HC.out.mono ?_
   rintro e w1 ⟨rfl, e1⟩
   rw [← HW0.out] at e1
   have r1 := r0.ext e1
   have X1 := E0.out.trans e1
   have HP1 := hx (HP.out w1 X1)
   replace q1 := r1.cell (i := 1) rfl
   replace q2 := r1.cell (i := 2) rfl
   replace q3 := r1.cell (i := 3) rfl
   replace q4 := r1.cell (i := 4) rfl
   replace q5 := r1.cell (i := 5) rfl
   replace q6 := r1.cell (i := 6) rfl
   have q0 := r1.cell (i := 0) rfl
   have q7 := r1.cell (i := 7) rfl
   have q8 := r1.cell (i := 8) rfl
   clear HP HC HW0 E0 r0 r1 e1
   go_wp2_with fail
   refine HP1.out.mono ?_
   rintro e w2 ⟨rfl, e2⟩
   go_wp2
   go_ret
   exact ⟨rfl, X1.trans e2⟩
 ·have hi' : (IE != 0) = true := by simpa using hi
  have hd : decide (SE = 0) = false := decide_eq_false (hine hi)
  rw [hd]
  clear hine hd
  go_enter Tryz.func22, Tryz.ntmps22
  go_wp2_with (first | (go_at_call 38; refine HC.out.mono ?_; rintro e w1 ⟨rfl, e1⟩; rw [← HW0.out] at e1))
  go_ret
  exact ⟨rfl, E0.out.trans e1⟩
end Go.Proofs.YtocnmjpldpbioaaGreatDoor


set_option linter.unusedVariables false
set_option linter.unusedSimpArgs false
namespace Go.Proofs.YtocnmjpldpbioaaGreatDoor
open Go.RowKit Go.Lib

theorem id_small {s : ByteArray} (h : idB s = true) : s.size ≤ 32 := by
 unfold idB at h
 simp only [Bool.and_eq_true, decide_eq_true_eq] at h
 exact h.1.2.1
theorem tail_small {J R : Bool} {off imm : Int} {t m : ByteArray} (h : tailB J R off imm t m = 0) : t.size ≤ 32 ∧ m.size ≤ 32 := by
 unfold tailB at h
 split at h
 ·omega
 split at h
 ·omega
 rename_i h1 h2
 simp only [Bool.or_eq_true, not_or, Bool.not_eq_true, Bool.and_eq_true, not_and] at h1 h2
 obtain ⟨⟨-, h4⟩, h5⟩ := h1
 have em : ∀ x : ByteArray, neS x = false → x.size ≤ 32 := fun x hx => by
  unfold neS at hx
  have hx : ¬ (x ≠ emS) := of_decide_eq_false hx
  have hx := Decidable.not_not.1 hx
  subst hx
  exact Nat.zero_le _
 constructor
 ·cases J with
  | true => exact id_small (by simpa using h2.1)
  | false => exact em t (by simpa using h4)
 ·cases R with
  | true => exact id_small (by simpa using h2.2)
  | false => exact em m (by simpa using h5)
theorem stmt_small {s : Stmt} (h : stmtE s = 0) : insE s.ins = 0 ∧ s.target.size ≤ 32 ∧ s.map.size ≤ 32 := by
 cases h1 : lblBad s.labels with
 | true => rw [stmtE_lbl h1] at h; omega
 | false =>
  by_cases h2 : insE s.ins = 0
  ·rw [stmtE_tail h1 h2] at h
   exact ⟨h2, tail_small h⟩
  ·rw [stmtE_ins h1 h2] at h
   exact absurd h h2
def joinS (l : List ByteArray) : ByteArray := ⟨(Lib.join (l.map (·.data.toList)) (⟨#[44, 32]⟩ : ByteArray).data.toList).toArray⟩
def trimS (s : ByteArray) : ByteArray := ⟨(Lib.trimRightB s.data.toList 32).toArray⟩
/-- The text of a statement's instruction. -/
def codeS (s : Stmt) : ByteArray := if stmtE s = 0 then trimS ((rowOf s.ins.op).name ++ ⟨#[32]⟩ ++ joinS (opsL s (formN s.ins.op))) else ⟨#[]⟩
theorem join_len : ∀ l : List ByteArray, l.length ≤ 3 → (∀ s ∈ l, s.size ≤ 100) → (Lib.join (l.map (·.data.toList)) (⟨#[44, 32]⟩ : ByteArray).data.toList).length ≤ 1000 := by
 intro l hl hs
 have hd : ∀ s : ByteArray, s.data.toList.length = s.size := fun s => by simp
 unfold Lib.join
 match l, hl, hs with
 | [], _, _ => simp [List.intercalate]
 | [a], _, hs =>
  have h1 := hs a (by simp)
  simp [List.intercalate]
  omega
 | [a, b], _, hs =>
  have h1 := hs a (by simp)
  have h2 := hs b (by simp)
  simp [List.intercalate]
  omega
 | [a, b, c], _, hs =>
  have h1 := hs a (by simp)
  have h2 := hs b (by simp)
  have h3 := hs c (by simp)
  simp [List.intercalate]
  omega
 | a :: b :: c :: d :: l, hl, _ => simp at hl
theorem joinS_size {l : List ByteArray} (h1 : l.length ≤ 3) (h2 : ∀ s ∈ l, s.size ≤ 100) : (joinS l).size ≤ 1000 := by
 have := join_len l h1 h2
 simpa [joinS, ByteArray.size] using this
theorem join_ent {A : Option Addr} {n k : Nat} {l : List ByteArray} {W : World} (h : (l = [] ∧ A = none ∧ n = 0 ∧ k = 0) ∨ ∃ g, A = some ⟨g, 0, none⟩ ∧ n = l.length ∧ k = l.length ∧ RowV W g 9 (l.map .string)) (h1 : l.length ≤ 3) (h2 : ∀ s ∈ l, s.size ≤ 100) :
  Calls Tryz.prog 19 #[.slice A n k, .string ⟨#[44, 32]⟩] W fun e w' => e = .returned (.string (joinS l)) ∧ Ext W w' := by
 rcases h with ⟨rfl, rfl, rfl, rfl⟩ | ⟨g, rfl, rfl, rfl, hr⟩
 ·exact (Tryz.strings_Join_none none 0 ⟨#[44, 32]⟩ W).mono fun e w' ⟨he, hw⟩ => ⟨he, hw ▸ Ext.refl _⟩
 ·have hc : ∀ (j : Nat) x, l[j]? = some x → W.cell? ⟨g, 0 + j, none⟩ = some (.string x) := fun j x hj => by
   rw [Nat.zero_add]
   exact hr.cell (i := j) (by rw [List.getElem?_map, hj]; rfl)
  have hj := join_len l h1 h2
  refine (Tryz.strings_Join g 0 l.length l ⟨#[44, 32]⟩ W hc hr.lt (by omega) (Nat.le_refl _) (by omega)).mono fun e w' ⟨he, hw⟩ => ⟨he, hw⟩
theorem opsL_len (s : Stmt) (k : Int) : (opsL s k).length ≤ 3 := by
 unfold opsL
 dsimp only
 repeat' split
 all_goals simp
theorem opsL_small {s : Stmt} (hok : s.ins.Ok) (ht : s.target.size ≤ 32) (hm : s.map.size ≤ 32) (k : Int) : ∀ x ∈ opsL s k, x.size ≤ 100 := by
 have h1 := nameOf_size s.ins.dst
 have h2 := nameOf_size s.ins.src
 have h3 := numS_size hok.imm
 have h4 := memS_size s.ins.src s.ins.off hok.off
 have h5 := memS_size s.ins.dst s.ins.off hok.off
 have h6 : (if s.ins.reg then nameOf s.ins.src else numS s.ins.imm).size ≤ 100 := by split <;> omega
 unfold opsL
 dsimp only
 generalize (if s.ins.reg then nameOf s.ins.src else numS s.ins.imm) = S5 at *
 repeat' split
 all_goals
  intro x hx
  simp only [List.mem_cons, List.not_mem_nil, or_false] at hx
 all_goals first
  | (rcases hx with rfl | rfl | rfl <;> omega)
  | (rcases hx with rfl | rfl <;> omega)
  | (subst hx; omega)
  | cases hx
set_option maxRecDepth 100000 in
theorem name_small (n : Int) : (rowOf n).name.size ≤ 100 := by
 by_cases h : 0 ≤ n ∧ n < 86
 ·obtain ⟨k, rfl⟩ := Int.eq_ofNat_of_zero_le h.1
  have h1 : ∀ k : Fin 86, (rowOf (k.val : Nat)).name.size ≤ 100 := by decide +kernel
  exact h1 ⟨k, by omega⟩
 ·have hr : rowOf n = noneRow := if_neg h
  rw [hr]
  exact Nat.zero_le _
set_option maxRecDepth 40000 in
set_option maxHeartbeats 8000000 in
theorem print_Code_any (A : Option Addr) (c : Nat) (s : Stmt) (w : World) (hl : IsStrs w (.slice A s.labels.length c) s.labels) (hn : s.labels.length ≤ 1000000) (hok : s.ins.Ok) (ht : s.target.size ≤ 140737488355328) (hm : s.map.size ≤ 140737488355328) (hG : GlobQ s.names w) (hN : NoneV w) (hO : OpsQ s.ins.op w) (hWd : WidN w) (hP : PowV w) (h5 : formN s.ins.op ≠ 5) :
  Calls Tryz.prog 12 #[StV A s.labels.length c s] w fun e w' => e = .returned (.string (codeS s)) ∧ Ext w w' := by
 obtain ⟨W0, hW0⟩ : ∃ W0, W0 = w.alloc (.cells #[.slice A s.labels.length c, .int .i64 s.ins.op, .bool s.ins.reg, .int .i64 s.ins.dst, .int .i64 s.ins.src, .int .i64 s.ins.off, .int .i64 s.ins.imm, .string s.target, .string s.map] 34) := ⟨_, rfl⟩
 have e0 : Ext w W0 := by rw [hW0]; exact Ext.new _ _
 have r0 : RowV W0 w.heap.size 34 [.slice A s.labels.length c, .int .i64 s.ins.op, .bool s.ins.reg, .int .i64 s.ins.dst, .int .i64 s.ins.src, .int .i64 s.ins.off, .int .i64 s.ins.imm, .string s.target, .string s.map] := by rw [hW0]; exact RowV.new _ _ _
 have hC := print_correct_any A c s W0 (IsStrs.ext hl e0) hn hok ht hm (hG.ext e0) (hN.ext e0) (hO.ext e0) (hWd.ext e0)
 have hop := hok.op
 have HNm := hx fun (W : World) (hW : Ext w W) => opName_any s.ins.op W hop (hO.ext hW)
 have HFm := hx fun (W : World) (hW : Ext w W) => opForm_any s.ins.op W hop (hO.ext hW)
 have HOp := hx fun (W : World) (hW : Ext w W) => operands_any A c s W (IsStrs.ext hl hW) hok ht hm (hWd.ext hW) (hP.ext hW)
 have hk := (rowOf_ok s.ins.op).form
 have hcs : codeS s = if stmtE s = 0 then trimS ((rowOf s.ins.op).name ++ ⟨#[32]⟩ ++ joinS (opsL s (formN s.ins.op))) else ⟨#[]⟩ := rfl
 have hsm := fun h => stmt_small (s := s) h
 rw [hcs]
 have hnm := name_small s.ins.op
 have hjl := opsL_len s (formN s.ins.op)
 have hjs := fun a b => opsL_small hok a b (formN s.ins.op)
 have hf1 : insE s.ins = 0 → formN s.ins.op ≠ -1 := fun h => by
  unfold insE at h
  split at h
  ·omega
  ·assumption
 rw [hW0] at hC
 have HC := hx hC
 have HW0 := hx hW0
 have E0 := hx e0
 clear hC hW0 hcs e0 hl hok ht hm hG hN hO hWd hP hop
 by_cases hz : stmtE s = 0
 ·obtain ⟨i0, i1, i2⟩ := hsm hz
  have hjs' := hjs i1 i2
  have hkk : 0 ≤ formN s.ins.op ∧ formN s.ins.op ≤ 11 := by
   have h1 := hf1 i0
   have h2 : (rowOf s.ins.op).form = formN s.ins.op := rfl
   omega
  have hJz := joinS_size hjl hjs'
  have HJ := hx fun (W : World) (A : Option Addr) (n k : Nat) (h : (opsL s (formN s.ins.op) = [] ∧ A = none ∧ n = 0 ∧ k = 0) ∨ ∃ g, A = some ⟨g, 0, none⟩ ∧ n = (opsL s (formN s.ins.op)).length ∧ k = (opsL s (formN s.ins.op)).length ∧ RowV W g 9 ((opsL s (formN s.ins.op)).map .string)) => join_ent h hjl hjs'
  rw [if_pos hz]
  rw [hz] at HC
  have HK := hx (show I64 (formN s.ins.op) from ⟨by omega, by omega⟩)
  have HO5 := hx fun (W : World) (hW : Ext w W) => (HOp.out W hW).mono (R' := fun e w' => ∃ bm, e = .returned (.map (some bm)) ∧ ∃ cp A n k, (∀ W2, Ext w' W2 → (Instr.lookup 52 (.map (some bm)) (.int .i64 (formN s.ins.op)) false).run Tryz.prog W2 = .ok (.func (.func 45) #[] #[.pointer (some ⟨cp, 0, none⟩)]) W2) ∧ (∀ W2, Ext w' W2 → RowV W2 cp 32 [.slice A n k]) ∧ (∀ W2, Ext w' W2 → Calls Tryz.prog 19 #[.slice A n k, .string ⟨#[44, 32]⟩] W2 fun e w' => e = .returned (.string (joinS (opsL s (formN s.ins.op)))) ∧ Ext W2 w') ∧ Ext W w') fun e w' ⟨bm, n, p, h1, h2, h3, h4⟩ => by
   obtain ⟨cp, g1, A, n', k', g2, g3⟩ := h3 _ hkk h5
   exact ⟨bm, h1, cp, A, n', k', fun W2 hx2 => (h2.ext hx2).look _ HK.out g1, fun W2 hx2 => g2.ext hx2, fun W2 hx2 => HJ.out W2 A n' k' (g3.imp id fun ⟨g, a1, a2, a3, a4⟩ => ⟨g, a1, a2, a3, a4.ext hx2⟩), h4⟩
  clear HOp HJ hjs hjs' hsm hf1 hk hjl hz i0 i1 i2 HK
  generalize joinS (opsL s (formN s.ins.op)) = JS at *
  generalize hNM : (rowOf s.ins.op).name = NM at *
  have hadd : (NM ++ ⟨#[32]⟩ ++ JS : ByteArray).size ≤ 2000 := by
   rw [ByteArray.size_append, ByteArray.size_append]
   have : (⟨#[32]⟩ : ByteArray).size = 1 := rfl
   omega
  have hadd1 : (NM ++ ⟨#[32]⟩ : ByteArray).size = NM.size + 1 := by
   rw [ByteArray.size_append]; rfl
  have HT := hx fun (W : World) => (Tryz.strings_TrimRight_one (NM ++ (⟨#[32]⟩ : ByteArray) ++ JS) 32 (by decide) W (by omega)).mono (R' := fun e w' => e = .returned (.string (trimS (NM ++ ⟨#[32]⟩ ++ JS))) ∧ w' = W) fun e w' h => h
  generalize trimS (NM ++ ⟨#[32]⟩ ++ JS) = TS at *
  have hsz2 : ¬ 9223372036854775807 < (NM ++ ⟨#[32]⟩ : ByteArray).size + JS.size := by omega
  have hsz3 : ¬ 9223372036854775807 < NM.size + 1 + JS.size := by omega
  have hsz4 : ¬ 9223372036854775807 < NM.size + 1 := by omega
  have hsz5 : ¬ 9223372036854775807 < NM.size + (⟨#[32]⟩ : ByteArray).size := by rw [show (⟨#[32]⟩ : ByteArray).size = 1 from rfl]; omega
  have q0 := r0.cell (i := 0) rfl
  have q1 := r0.cell (i := 1) rfl
  have q2 := r0.cell (i := 2) rfl
  have q3 := r0.cell (i := 3) rfl
  have q4 := r0.cell (i := 4) rfl
  have q5 := r0.cell (i := 5) rfl
  have q6 := r0.cell (i := 6) rfl
  have q7 := r0.cell (i := 7) rfl
  have q8 := r0.cell (i := 8) rfl
  rw [show decide ((0 : Int) = 0) = true from rfl] at HC
  unfold StV at HO5 HC ⊢
  generalize s.labels.length = nl at *
  generalize formN s.ins.op = FK at *
  generalize s.ins.op = op at *
  generalize s.ins.reg = reg at *
  generalize s.ins.dst = n1 at *
  generalize s.ins.src = n2 at *
  generalize s.ins.off = n3 at *
  generalize s.ins.imm = n4 at *
  generalize s.target = tt at *
  generalize s.map = tm at *
  clear hadd hNM hn h5 hkk q0 q1 q2 q3 q4 q5 q6 q7 q8
  have RL := hx fun (W : World) (h : Ext W0 W) => r0.ext h
  have q0 := r0.cell (i := 0) rfl
  have q1 := r0.cell (i := 1) rfl
  have q2 := r0.cell (i := 2) rfl
  have q3 := r0.cell (i := 3) rfl
  have q4 := r0.cell (i := 4) rfl
  have q5 := r0.cell (i := 5) rfl
  have q6 := r0.cell (i := 6) rfl
  have q7 := r0.cell (i := 7) rfl
  have q8 := r0.cell (i := 8) rfl
  clear r0
  go_enter Tryz.func12, Tryz.ntmps12
  go_wp2_with fail
  refine HC.out.mono ?_
  rintro e w1 ⟨rfl, e1⟩
  rw [← HW0.out] at e1
  have X1 := hx (E0.out.trans e1)
  have L5 := hx fun (W : World) (h : Ext w1 W) => RL.out W (e1.trans h)
  have L6 := hx fun (W : World) (h : Ext w1 W) => And.intro ((L5.out W h).cell (i := 0) rfl) (And.intro ((L5.out W h).cell (i := 1) rfl) (And.intro ((L5.out W h).cell (i := 2) rfl) (And.intro ((L5.out W h).cell (i := 3) rfl) (And.intro ((L5.out W h).cell (i := 4) rfl) (And.intro ((L5.out W h).cell (i := 5) rfl) (And.intro ((L5.out W h).cell (i := 6) rfl) (And.intro ((L5.out W h).cell (i := 7) rfl) ((L5.out W h).cell (i := 8) rfl))))))))
  clear q0 q1 q2 q3 q4 q5 q6 q7 q8 HC HW0 E0 RL e1 L5
  go_upto_region 3 with fail
  have hr0 : Ext w1 w1 := Ext.refl w1
  have hd2 : Ext w1 w1.drew := (Ext.refl w1).drew
  go_region_held3 (fun w' => w'.cell? ⟨w.heap.size, 0, none⟩ = some (.slice A nl c) ∧ w'.cell? ⟨w.heap.size, 1, none⟩ = some (.int .i64 op) ∧ w'.cell? ⟨w.heap.size, 2, none⟩ = some (.bool reg) ∧ w'.cell? ⟨w.heap.size, 3, none⟩ = some (.int .i64 n1) ∧ w'.cell? ⟨w.heap.size, 4, none⟩ = some (.int .i64 n2) ∧ w'.cell? ⟨w.heap.size, 5, none⟩ = some (.int .i64 n3) ∧ w'.cell? ⟨w.heap.size, 6, none⟩ = some (.int .i64 n4) ∧ w'.cell? ⟨w.heap.size, 7, none⟩ = some (.string tt) ∧ w'.cell? ⟨w.heap.size, 8, none⟩ = some (.string tm)) (exact L6.out _ (by assumption))
   (first
    | (go_at_call 24; refine (HNm.out _ (X1.out.trans (by assumption))).mono ?_; rintro e wN ⟨rfl, eN⟩; have fN : Ext w1 wN := Ext.trans (by assumption) eN; clear HNm; (try (have gN := gO.trans eN; have lk := HLK.out wN gN)))
    | (go_at_call 26; refine (HFm.out _ (X1.out.trans (by assumption))).mono ?_; rintro e wF ⟨rfl, eF⟩; have fF : Ext w1 wF := Ext.trans (by assumption) eF; clear HFm; (first | (have gF := gN.trans eF; have lk := HLK.out wF gF) | (have gF := gO.trans eF; have lk := HLK.out wF gF) | skip))
    | (go_at_call 25; refine (HO5.out _ (X1.out.trans (by assumption))).mono ?_; rintro e wO ⟨bm, rfl, cp, A2, n', k', hlk, hrw, hjn, eO⟩; have fO : Ext w1 wO := Ext.trans (by assumption) eO; have gO : Ext wO wO := Ext.refl wO; have HLK := hx hlk; have HRW := hx hrw; have HJN := hx hjn; have lk := HLK.out wO gO; clear HO5 hlk hrw hjn)
    | (go_at_call 45; refine (list1_any A2 n' k' cp _ (HRW.out _ (by assumption))).mono ?_; rintro e wC ⟨rfl, rfl⟩)
    | (go_at_call 19; refine (HJN.out _ (by assumption)).mono ?_; rintro e wJ ⟨rfl, eJ⟩; have fJ : Ext w1 wJ := Ext.trans (by assumption) eJ)
    | (go_at_call 23; refine (HT.out _).mono ?_; rintro e wT ⟨rfl, rfl⟩))
  all_goals
   go_wp2
   go_ret
   exact ⟨rfl, X1.out.trans fJ⟩
 ·rw [if_neg hz]
  have hd : decide (stmtE s = 0) = false := decide_eq_false hz
  rw [hd] at HC
  unfold StV at HC ⊢
  clear HNm HFm HOp hk hsm hnm hjl hjs hf1 hz hd h5
  have q0 := r0.cell (i := 0) rfl
  have q1 := r0.cell (i := 1) rfl
  have q2 := r0.cell (i := 2) rfl
  have q3 := r0.cell (i := 3) rfl
  have q4 := r0.cell (i := 4) rfl
  have q5 := r0.cell (i := 5) rfl
  have q6 := r0.cell (i := 6) rfl
  have q7 := r0.cell (i := 7) rfl
  have q8 := r0.cell (i := 8) rfl
  clear r0
  go_enter Tryz.func12, Tryz.ntmps12
  go_wp2_with fail
  refine HC.out.mono ?_
  rintro e w1 ⟨rfl, e1⟩
  rw [← HW0.out] at e1
  go_wp2
  go_ret
  exact ⟨rfl, E0.out.trans e1⟩
end Go.Proofs.YtocnmjpldpbioaaGreatDoor
