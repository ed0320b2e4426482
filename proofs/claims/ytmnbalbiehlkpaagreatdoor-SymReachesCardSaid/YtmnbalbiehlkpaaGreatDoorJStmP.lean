/- The layer prog: the check of a statement. -/
import Derived.Test.YtmnbalbiehlkpaaGreatDoorJAll
import Derived.Test.YtmnbalbiehlkpaaGreatDoorJRepP
import Derived.Deep.RegionHeld3
import Derived.Deep.QuietTactic
import Derived.BigQuiet
import Derived.Test.YtmnbalbiehlkpaaGreatDoorJPDec
import Derived.Test.YtmnbalbiehlkpaaGreatDoorJObj
import Derived.Test.YtmnbalbiehlkpaaGreatDoorJMemA
set_option linter.unusedVariables false
set_option linter.unusedSimpArgs false
namespace Go.Proofs.YtmnbalbiehlkpaaGreatDoor
open Go.RowKit Go.Lib

set_option maxRecDepth 40000 in
set_option maxHeartbeats 8000000 in
theorem checkStmt_any (B1 B2 : Option Addr) (u1 d1 u2 d2 : Nat) (ix : Int) (A : Option Addr) (c : Nat) (s : Stmt) (w : World) (hl : IsStrs w (.slice A s.labels.length c) s.labels) (hok : s.ins.Ok) (ht : s.target.size ≤ 140737488355328) (hm : s.map.size ≤ 140737488355328)
  (hGL : GlobQ s.names w) (hO : OpsQ s.ins.op w) (hWd : WidN w) :
  Calls Tryz.prog 157 #[.agg #[.slice B1 u1 d1, .slice B2 u2 d2], .int .i64 ix, StV A s.labels.length c s] w fun e w' => e = .returned (.int .i64 (stmtE s)) ∧ Ext w w' := by
 have hsl := stmtE_lbl (s := s)
 have hsi := fun h h2 => stmtE_ins (s := s) h h2
 have hst := fun h h2 => stmtE_tail (s := s) h h2
 obtain ⟨labels, ⟨op, reg, n1, n2, n3, n4⟩, tt, tm⟩ := s
 dsimp only at *
 generalize stmtE ⟨labels, ⟨op, reg, n1, n2, n3, n4⟩, tt, tm⟩ = SE at *
 unfold StV
 dsimp only
 have hop := hok.op
 have HC := hx fun W (hW : Ext w W) => insnCheck_any ⟨op, reg, n1, n2, n3, n4⟩ W hok (hO.ext hW) (hWd.ext hW)
 have HJ := hx fun W (hW : Ext w W) => insnJumps_any ⟨op, reg, n1, n2, n3, n4⟩ W hok (hO.ext hW)
 have HF := hx fun W (hW : Ext w W) => opForm_any op W hop (hO.ext hW)
 have HGL := hx hGL
 have HWH := hx when_any
 have hjx : jumpsX ⟨op, reg, n1, n2, n3, n4⟩ = decide (formN op = 3 ∨ formN op = 4) := rfl
 rw [hjx] at hst
 rw [hjx] at HJ
 unfold Ins.v at HC HJ
 generalize insE ⟨op, reg, n1, n2, n3, n4⟩ = IE at *
 generalize formN op = F at *
 clear hjx hok hop hO hWd hGL
 obtain ⟨m, hmm⟩ : ∃ m, m = labels.length := ⟨_, rfl⟩
 have hb0 : labels.length ≤ 281474976710656 := hl.len
 rw [← hmm] at hl hb0 ⊢
 have HM := hx hmm
 clear hmm
 have HSL := hx hsl
 have HSI := hx hsi
 have HSX := hx hst
 obtain ⟨W0, hW0⟩ : ∃ W0, W0 = (w.alloc (.cells #[.slice B1 u1 d1, .slice B2 u2 d2] 25)).alloc (.cells #[.slice A m c, .int .i64 op, .bool reg, .int .i64 n1, .int .i64 n2, .int .i64 n3, .int .i64 n4, .string tt, .string tm] 55) := ⟨_, rfl⟩
 have e0 : Ext w W0 := by rw [hW0]; exact (Ext.new _ _).alloc _
 have r0 : RowV W0 (w.heap.size + 1) 55 [.slice A m c, .int .i64 op, .bool reg, .int .i64 n1, .int .i64 n2, .int .i64 n3, .int .i64 n4, .string tt, .string tm] := by
  rw [hW0]
  have h := RowV.new (w.alloc (.cells #[.slice B1 u1 d1, .slice B2 u2 d2] 25)) [.slice A m c, .int .i64 op, .bool reg, .int .i64 n1, .int .i64 n2, .int .i64 n3, .int .i64 n4, .string tt, .string tm] 55
  rwa [World.size_alloc] at h
 have hl0 := IsStrs.ext hl e0
 have q0 := r0.cell (i := 0) rfl
 have q1 := r0.cell (i := 1) rfl
 have q2 := r0.cell (i := 2) rfl
 have q3 := r0.cell (i := 3) rfl
 have q4 := r0.cell (i := 4) rfl
 have q5 := r0.cell (i := 5) rfl
 have q6 := r0.cell (i := 6) rfl
 have R0 := hx r0
 have E0 := hx e0
 clear hl hsl hsi hst r0 e0
 go_enter Tryz.func157, Tryz.ntmps157
 go_wp2
 rw [← hW0]
 clear hW0
 go_loopw [15] (fun i wr => ∃ k : Nat, k ≤ m ∧ i = .int .i64 (k : Nat) ∧ (∀ j, j < k → idB (labels.getD j emS) = true) ∧ Ext W0 wr) (fun i _ => m - (RowKit.intOf i).toNat)
 case atStart => exact ⟨0, by omega, rfl, (by intro j hj; omega), Ext.refl _⟩
 case round =>
  obtain ⟨k, hk, rfl, hn, he⟩ := hrel
  have HN := Go.Proofs.YtmnbalbiehlkpaaGreatDoor.hx hn
  clear hn q0
  by_cases hlt : k < m
  ·obtain ⟨x, hx0⟩ : ∃ x, labels[k]? = some x := ⟨_, List.getElem?_eq_getElem (by have := HM.out; omega)⟩
   have hg : labels.getD k emS = x := by rw [List.getD_eq_getElem?_getD, hx0]; rfl
   obtain ⟨bx, ox, rfl, dd1, dd2⟩ := (IsStrs.ext hl0 he).get hx0
   rw [Nat.mul_one] at dd1
   have hkm : (k : Int) < (m : Int) := by omega
   have hV := ident_Valid_any x wr (by omega) ((HGL.out.ext (E0.out.trans he)).sub (by intro y hy; have e : y = x := (by simpa using hy); rw [e]; exact List.mem_append_left _ (List.mem_of_getElem? hx0)))
   have HG := hx hg
   have HX0 := hx hx0
   have HLT := hx hlt
   have HE := hx he
   clear hg hx0 dd2 hlt q1 q2 q3 q4 q5 q6 he
   cases hv : idB x with
   | true =>
    rw [hv] at hV
    have HV := hx hV
    have HVV := hx hv
    clear hV hv
    go_wp2_with fail
    refine HV.out.mono ?_
    rintro e w3 ⟨rfl, e3⟩
    have Y := hx (HE.out.trans e3)
    clear e3 dd1
    go_wp2
    go_roundw
    case rel => exact ⟨k + 1, HLT.out, by go_num, (fun j hj => (Nat.lt_succ_iff_lt_or_eq.1 hj).elim (HN.out j) (fun h => by rw [h, HG.out, HVV.out])), Y.out⟩
    case measure => simp [RowKit.intOf]; omega
   | false =>
    rw [hv] at hV
    have HV := hx hV
    have HB := hx (lbl_hit HX0.out hv)
    clear hV hv
    go_wp2_with fail
    refine HV.out.mono ?_
    rintro e w3 ⟨rfl, e3⟩
    have Y := hx ((E0.out.trans HE.out).trans e3)
    clear e3 dd1
    go_wp2
    go_ret
    exact ⟨ret_int (HSL.out HB.out).symm, Y.out⟩
  ·obtain rfl : m = k := by omega
   have hbn := lbl_none (l := labels) (by rw [← HM.out]; exact HN.out)
   have HBN := hx hbn
   have r9 := R0.out.ext he
   have z1 := r9.cell (i := 1) rfl
   have z2 := r9.cell (i := 2) rfl
   have z3 := r9.cell (i := 3) rfl
   have z4 := r9.cell (i := 4) rfl
   have z5 := r9.cell (i := 5) rfl
   have z6 := r9.cell (i := 6) rfl
   have E9 := hx (E0.out.trans he)
   have R9 := hx r9
   clear hbn hlt hk HN he r9 q1 q2 q3 q4 q5 q6
   by_cases hz : IE = 0
   ·subst hz
    have HST := hx (HSX.out HBN.out rfl)
    clear HSL HSI HSX HBN
    go_wp2_with fail
    refine (HC.out _ E9.out).mono ?_
    rintro e w1 ⟨rfl, e1⟩
    have E1 := hx (E9.out.trans e1)
    have L5 := hx fun (W : World) (h : Ext w1 W) => And.intro ((R9.out.ext (e1.trans h)).cell (i := 1) rfl) (And.intro ((R9.out.ext (e1.trans h)).cell (i := 2) rfl) (And.intro ((R9.out.ext (e1.trans h)).cell (i := 3) rfl) (And.intro ((R9.out.ext (e1.trans h)).cell (i := 4) rfl) (And.intro ((R9.out.ext (e1.trans h)).cell (i := 5) rfl) ((R9.out.ext (e1.trans h)).cell (i := 6) rfl)))))
    have R1 := hx (R9.out.ext e1)
    clear z1 z2 z3 z4 z5 z6 e1
    go_upto_region 10 with fail
    have hd : Ext w1 w1.drew := (Ext.refl w1).drew
    have hr0 : Ext w1 w1 := Ext.refl w1
    generalize hJ : decide (F = 3 ∨ F = 4) = J at *
    generalize hRR : (F == 11) = R at *
    go_cut [10, 11] (fun s10 s11 wx => s10 = .bool J ∧ s11 = .bool R ∧ Ext w1 wx)
    case first =>
     go_region_held3 (fun w' => w'.cell? ⟨w.heap.size + 1, 1, none⟩ = some (.int .i64 op) ∧ w'.cell? ⟨w.heap.size + 1, 2, none⟩ = some (.bool reg) ∧ w'.cell? ⟨w.heap.size + 1, 3, none⟩ = some (.int .i64 n1) ∧ w'.cell? ⟨w.heap.size + 1, 4, none⟩ = some (.int .i64 n2) ∧ w'.cell? ⟨w.heap.size + 1, 5, none⟩ = some (.int .i64 n3) ∧ w'.cell? ⟨w.heap.size + 1, 6, none⟩ = some (.int .i64 n4)) (exact L5.out _ (by assumption))
      (first
       | (go_at_call 30; refine (HJ.out _ (E1.out.trans (by assumption))).mono ?_; rintro e wA ⟨rfl, eA⟩; have fA : Ext w1 wA := Ext.trans (by assumption) eA)
       | (go_at_call 65; refine (HF.out _ (E1.out.trans (by assumption))).mono ?_; rintro e wB ⟨rfl, eB⟩; have fB : Ext w1 wB := Ext.trans (by assumption) eB))
     all_goals
      go_wp2
      go_meet
      exact ⟨rfl, rfl, by assumption⟩
    case rest =>
     obtain ⟨rfl, rfl, x6⟩ := hcut
     have r2 := R1.out.ext x6
     have p5 := r2.cell (i := 5) rfl
     have p6 := r2.cell (i := 6) rfl
     have p7 := r2.cell (i := 7) rfl
     have p8 := r2.cell (i := 8) rfl
     have E2 := hx (E1.out.trans x6)
     clear L5 hd hr0 x6 r2 HF HJ HC
     have hjr : (J = true ∧ R = false) ∨ (J = false ∧ R = true) ∨ (J = false ∧ R = false) := by
      rw [← hJ, ← hRR]
      by_cases f3 : F = 3
      ·subst f3; exact .inl ⟨rfl, rfl⟩
      ·by_cases f4 : F = 4
       ·subst f4; exact .inl ⟨rfl, rfl⟩
       ·by_cases f11 : F = 11
        ·subst f11; exact .inr (.inl ⟨rfl, rfl⟩)
        ·exact .inr (.inr ⟨decide_eq_false (by omega), by simpa using f11⟩)
     clear hJ hRR
     rcases hjr with ⟨rfl, rfl⟩ | ⟨rfl, rfl⟩ | ⟨rfl, rfl⟩
     ·skip
      by_cases c1 : n3 = 0
      ·subst c1
       by_cases c2 : tm = emS
       ·subst c2
        have u1 := em_list
        have u2 := em_isE
        cases hv : idB tt with
        | true =>
         have hT : tailB true false 0 n4 tt emS = 0 := by simp [tailB, neS, hv]
         have HT := hx hT
         clear hT
         have hV := fun W hW => ident_Valid_any tt W (by omega) ((HGL.out.ext hW).sub (by intro y hy; have e : y = tt := (by simpa using hy); rw [e]; exact List.mem_append_right _ (by simp)))
         simp only [hv] at hV
         have HV := hx hV
         clear hV hv
         go_wp2_with fail
         refine (HV.out _ E2.out).mono ?_
         rintro e w3 ⟨rfl, e3⟩
         go_wp2_with (go_at_call 159; refine (HWH.out _ _ _).mono ?_; rintro e w4 ⟨rfl, rfl⟩)
         go_ret
         exact ⟨ret_int (by rw [HST.out, HT.out]; try rfl), E2.out.trans e3⟩
        | false =>
         have hT : tailB true false 0 n4 tt emS = 7 := by simp [tailB, neS, hv]
         have HT := hx hT
         clear hT
         have hV := fun W hW => ident_Valid_any tt W (by omega) ((HGL.out.ext hW).sub (by intro y hy; have e : y = tt := (by simpa using hy); rw [e]; exact List.mem_append_right _ (by simp)))
         simp only [hv] at hV
         have HV := hx hV
         clear hV hv
         go_wp2_with fail
         refine (HV.out _ E2.out).mono ?_
         rintro e w3 ⟨rfl, e3⟩
         go_wp2_with (go_at_call 159; refine (HWH.out _ _ _).mono ?_; rintro e w4 ⟨rfl, rfl⟩)
         go_ret
         exact ⟨ret_int (by rw [HST.out, HT.out]; try rfl), E2.out.trans e3⟩
       ·have u1 := ne_list c2
        have u2 := ne_isE c2
        have hT : tailB true false 0 n4 tt tm = 12 := by simp [tailB, neS, c2]
        clear c2
        have HT := hx hT
        clear hT
        go_wp2_with (go_at_call 159; refine (HWH.out _ _ _).mono ?_; rintro e w4 ⟨rfl, rfl⟩)
        go_ret
        exact ⟨ret_int (by rw [HST.out, HT.out]; try rfl), E2.out⟩
      ·have q1 : (n3 != 0) = true := by simpa using c1
       have hT : tailB true false n3 n4 tt tm = 12 := by simp [tailB, c1]
       clear c1
       have HT := hx hT
       clear hT
       go_wp2_with (go_at_call 159; refine (HWH.out _ _ _).mono ?_; rintro e w4 ⟨rfl, rfl⟩)
       go_ret
       exact ⟨ret_int (by rw [HST.out, HT.out]; try rfl), E2.out⟩
     ·skip
      by_cases c1 : n4 = 0
      ·subst c1
       by_cases c2 : tt = emS
       ·subst c2
        have u1 := em_list
        have u2 := em_isE
        cases hv : idB tm with
        | true =>
         have hT : tailB false true n3 0 emS tm = 0 := by simp [tailB, neS, hv]
         have HT := hx hT
         clear hT
         have hV := fun W hW => ident_Valid_any tm W (by omega) ((HGL.out.ext hW).sub (by intro y hy; have e : y = tm := (by simpa using hy); rw [e]; exact List.mem_append_right _ (by simp)))
         simp only [hv] at hV
         have HV := hx hV
         clear hV hv
         go_wp2_with fail
         refine (HV.out _ E2.out).mono ?_
         rintro e w3 ⟨rfl, e3⟩
         go_wp2_with (go_at_call 159; refine (HWH.out _ _ _).mono ?_; rintro e w4 ⟨rfl, rfl⟩)
         go_ret
         exact ⟨ret_int (by rw [HST.out, HT.out]; try rfl), E2.out.trans e3⟩
        | false =>
         have hT : tailB false true n3 0 emS tm = 7 := by simp [tailB, neS, hv]
         have HT := hx hT
         clear hT
         have hV := fun W hW => ident_Valid_any tm W (by omega) ((HGL.out.ext hW).sub (by intro y hy; have e : y = tm := (by simpa using hy); rw [e]; exact List.mem_append_right _ (by simp)))
         simp only [hv] at hV
         have HV := hx hV
         clear hV hv
         go_wp2_with fail
         refine (HV.out _ E2.out).mono ?_
         rintro e w3 ⟨rfl, e3⟩
         go_wp2_with (go_at_call 159; refine (HWH.out _ _ _).mono ?_; rintro e w4 ⟨rfl, rfl⟩)
         go_ret
         exact ⟨ret_int (by rw [HST.out, HT.out]; try rfl), E2.out.trans e3⟩
       ·have u1 := ne_list c2
        have u2 := ne_isE c2
        have hT : tailB false true n3 0 tt tm = 12 := by simp [tailB, neS, c2]
        clear c2
        have HT := hx hT
        clear hT
        go_wp2_with (go_at_call 159; refine (HWH.out _ _ _).mono ?_; rintro e w4 ⟨rfl, rfl⟩)
        go_ret
        exact ⟨ret_int (by rw [HST.out, HT.out]; try rfl), E2.out⟩
      ·have q1 : (n4 != 0) = true := by simpa using c1
       have hT : tailB false true n3 n4 tt tm = 12 := by simp [tailB, c1]
       clear c1
       have HT := hx hT
       clear hT
       go_wp2_with (go_at_call 159; refine (HWH.out _ _ _).mono ?_; rintro e w4 ⟨rfl, rfl⟩)
       go_ret
       exact ⟨ret_int (by rw [HST.out, HT.out]; try rfl), E2.out⟩
     ·skip
      by_cases c1 : tt = emS
      ·subst c1
       have u1 := em_list
       have u2 := em_isE
       by_cases c2 : tm = emS
       ·subst c2
        have hT : tailB false false n3 n4 emS emS = 0 := by simp [tailB, neS]
        have HT := hx hT
        clear hT
        go_wp2_with (go_at_call 159; refine (HWH.out _ _ _).mono ?_; rintro e w4 ⟨rfl, rfl⟩)
        go_ret
        exact ⟨ret_int (by rw [HST.out, HT.out]; try rfl), E2.out⟩
       ·have u3 := ne_list c2
        have u4 := ne_isE c2
        have hT : tailB false false n3 n4 emS tm = 12 := by simp [tailB, neS, c2]
        clear c2
        have HT := hx hT
        clear hT
        go_wp2_with (go_at_call 159; refine (HWH.out _ _ _).mono ?_; rintro e w4 ⟨rfl, rfl⟩)
        go_ret
        exact ⟨ret_int (by rw [HST.out, HT.out]; try rfl), E2.out⟩
      ·have u1 := ne_list c1
       have u2 := ne_isE c1
       have hT : tailB false false n3 n4 tt tm = 12 := by simp [tailB, neS, c1]
       clear c1
       have HT := hx hT
       clear hT
       go_wp2_with (go_at_call 159; refine (HWH.out _ _ _).mono ?_; rintro e w4 ⟨rfl, rfl⟩)
       go_ret
       exact ⟨ret_int (by rw [HST.out, HT.out]; try rfl), E2.out⟩
   ·have hz' : (IE != 0) = true := by simpa using hz
    have HST := hx (HSI.out HBN.out hz)
    clear HSL HSI HSX HBN hz
    go_wp2_with fail
    refine (HC.out _ E9.out).mono ?_
    rintro e w1 ⟨rfl, e1⟩
    go_wp2
    go_ret
    exact ⟨ret_int HST.out.symm, E9.out.trans e1⟩
end Go.Proofs.YtmnbalbiehlkpaaGreatDoor


set_option linter.unusedVariables false
set_option linter.unusedSimpArgs false
namespace Go.Proofs.YtmnbalbiehlkpaaGreatDoor
open Go.RowKit Go.Lib

theorem enT1 : ∀ args W, (callFunc 157 args).run Tryz.prog W = .ok (.enter 157 args) W := fun _ _ => by kernel_rfl
theorem enT4 : ∀ args W, (callFunc 165 args).run Tryz.prog W = .ok (.enter 165 args) W := fun _ _ => by kernel_rfl
theorem enT5 : ∀ args W, (callFunc 167 args).run Tryz.prog W = .ok (.enter 167 args) W := fun _ _ => by kernel_rfl
theorem enDc : ∀ args W, (callFunc 164 args).run Tryz.prog W = .ok (.enter 164 args) W := fun _ _ => by kernel_rfl
def wrE (_ : Nat) (s : Stmt) : Int := whenN (writesX s.ins == 10) 14
def enE (m : Nat) (i : Nat) (s : Stmt) : Int := whenN (decide (i + 1 = m) && !endsX s.ins) 15
def namesL (M : List Def) : List ByteArray := M.map (·.name)
/-- What the nine rules find. -/
def prRs (M : List Def) (L : List Stmt) : List (Int × Int) :=
 [findA (fun _ d => mapE d) 0 M, findS (fun _ s => stmtE s) L, findA (fun i _ => whenN (decide (255 ≤ i)) 16) 0 M, findA (fun i _ => whenN (repN (M.map (·.name)) == i) 10) 0 M,
  labD [] 0 L, (if L.length = 0 then (0, 15) else (0, 0)), findS (undE L (emS :: M.map (·.name))) L, findS wrE L, findS (enE L.length) L]
/-- The index and the error of a program. -/
def pchk (M : List Def) (L : List Stmt) : Int × Int := (firstF 0 (prRs M L)).1
/-- The names in a program. -/
def namesP (M : List Def) (L : List Stmt) : List ByteArray := M.map (·.name) ++ L.flatMap (·.names)
theorem namesP_def {M : List Def} {L : List Stmt} {d : Def} (h : d ∈ M) : ∀ s ∈ [d.name], s ∈ namesP M L := by
 intro s hs
 obtain rfl : s = d.name := by simpa using hs
 exact List.mem_append_left _ (List.mem_map_of_mem h)
theorem namesP_stm {M : List Def} {L : List Stmt} {x : Stmt} (h : x ∈ L) : ∀ s ∈ x.names, s ∈ namesP M L := fun s hs => List.mem_append_right _ (List.mem_flatMap.2 ⟨x, h, hs⟩)
theorem progCheck_q (A1 A2 : Option Addr) (n1 c1 m c2 : Nat) (M : List Def) (L : List Stmt) (w : World) (hn1 : n1 = M.length) (hl1 : n1 ≤ 100000) (hm : m = L.length) (hml : m ≤ 1000000)
  (hd : IsDefs w (.slice A1 n1 c1) M) (hv : IsStmts w (.slice A2 m c2) L) (hfl : (flat L).length ≤ 1000000) (hG : GlobQ (namesP M L) w) (hN : NoneV w) (hO : ∀ s ∈ L, OpsQ s.ins.op w) (hWd : WidN w) :
  Calls Tryz.prog 28 #[.agg #[.slice A1 n1 c1, .slice A2 m c2]] w fun e w' => e = .returned (.tuple #[.int .i64 (pchk M L).1, .int .i64 (pchk M L).2]) ∧ Ext w w' := by
 subst hn1 hm
 have hok := defs_ok hd
 refine progCheck_of A1 A2 M.length c1 L.length c2 (firstF 0 (prRs M L)).1 (firstF 0 (prRs M L)).2 w fun W0 hW0 => ?_
 refine check_nine A1 A2 M.length c1 L.length c2 (prRs M L) W0 rfl (hN.ext hW0).a (hN.ext hW0).b fun W R hW ra k r hr hz => ?_
 have e1 := hW0.trans hW
 match k, hr with
 | 0, hr =>
  obtain ⟨a, b, q1, q2, q3⟩ := ra.r1
  obtain rfl := Option.some.inj hr
  refine ⟨_, _, q1, enD, fun W' hW' => ?_⟩
  have e2 := e1.trans hW'
  refine eachDef1_any a b _ A2 L.length c2 M (fun _ d => mapE d) W' hl1 (IsDefs.ext hd e2) (hW'.cell q2) (hW'.cell q3) (hN.ext e2).a (hN.ext e2).b fun i d W'' hW'' hdm => ?_
  exact checkMap_any A1 A2 M.length c1 L.length c2 i d (hok d hdm) W'' ((hG.ext (e2.trans hW'')).sub (namesP_def hdm))
 | 1, hr =>
  obtain ⟨a, b, q1, q2, q3⟩ := ra.r2
  obtain rfl := Option.some.inj hr
  refine ⟨_, _, q1, enS, fun W' hW' => ?_⟩
  have e2 := e1.trans hW'
  refine eachStmt_of a b 157 A1 A2 M.length c1 c2 L.length L (fun _ s => stmtE s) W' rfl hml (IsStmts.ext hv e2) (hW'.cell q2) (hW'.cell q3) (hN.ext e2).a (hN.ext e2).b enT1 fun i s A c W'' hW'' hs hsl hso => ?_
  have e3 := e2.trans hW''
  exact checkStmt_any A1 A2 M.length c1 L.length c2 i A c s W'' hsl hso.ins hso.tgt hso.map ((hG.ext e3).sub (namesP_stm (List.mem_of_getElem? hs))) ((hO s (List.mem_of_getElem? hs)).ext e3) (hWd.ext e3)
 | 2, hr =>
  obtain ⟨a, b, q1, q2, q3⟩ := ra.r3
  obtain rfl := Option.some.inj hr
  refine ⟨_, _, q1, enD, fun W' hW' => ?_⟩
  have e2 := e1.trans hW'
  refine eachDefR1_any a b _ A2 L.length c2 M (fun i _ => whenN (decide (255 ≤ i)) 16) W' hl1 (IsDefs.ext hd e2) (hW'.cell q2) (hW'.cell q3) (hN.ext e2).a (hN.ext e2).b fun i d W'' hW'' hdm => ?_
  exact rules1_any A1 A2 M.length c1 L.length c2 i d W''
 | 3, hr =>
  obtain ⟨a, b, q1, q2, q3⟩ := ra.r4
  obtain rfl := Option.some.inj hr
  refine ⟨_, _, q1, enD, fun W' hW' => ?_⟩
  have e2 := e1.trans hW'
  refine eachDefR2_any a b _ A2 L.length c2 M (fun i _ => whenN (repN (M.map (·.name)) == i) 10) W' hl1 (IsDefs.ext hd e2) (hW'.cell q2) (hW'.cell q3) (hN.ext e2).a (hN.ext e2).b fun i d W'' hW'' hdm => ?_
  exact rules2_any _ A2 L.length c2 M i d W'' hl1 (IsDefs.ext hd (e2.trans hW''))
 | 4, hr =>
  obtain rfl := Option.some.inj hr
  refine ⟨_, _, ra.r5, enL, fun W' hW' => ?_⟩
  have e2 := e1.trans hW'
  exact labelsOnce_any A1 A2 M.length c1 L.length c2 L W' rfl hml (IsStmts.ext hv e2) hfl (hN.ext e2).a (hN.ext e2).b
 | 5, hr =>
  obtain rfl := Option.some.inj hr
  refine ⟨_, _, ra.r6, en3, fun W' hW' => ?_⟩
  by_cases h0 : L.length = 0
  ·rw [h0, if_pos rfl]
   exact rules3_none A1 A2 M.length c1 c2 W'
  ·rw [if_neg h0]
   exact rules3_some A1 A2 M.length c1 L.length c2 (by omega) W'
 | 6, hr =>
  obtain rfl := Option.some.inj hr
  refine ⟨_, _, ra.r7, enDc, fun W' hW' => ?_⟩
  have e2 := e1.trans hW'
  exact declared_any A1 A2 M.length c1 L.length c2 M L W' rfl (by omega) rfl hml (IsDefs.ext hd e2) (IsStmts.ext hv e2) hfl (hN.ext e2).a (hN.ext e2).b
 | 7, hr =>
  obtain ⟨a, b, q1, q2, q3⟩ := ra.r8
  obtain rfl := Option.some.inj hr
  refine ⟨_, _, q1, enS, fun W' hW' => ?_⟩
  have e2 := e1.trans hW'
  refine eachStmt_of a b 165 A1 A2 M.length c1 c2 L.length L wrE W' rfl hml (IsStmts.ext hv e2) (hW'.cell q2) (hW'.cell q3) (hN.ext e2).a (hN.ext e2).b enT4 fun i s A c W'' hW'' hs hsl hso => ?_
  exact rules4_any A1 A2 M.length c1 L.length c2 i A s.labels.length c s W'' hso.ins ((hO s (List.mem_of_getElem? hs)).ext (e2.trans hW''))
 | 8, hr =>
  obtain ⟨a, b, q1, q2, q3⟩ := ra.r9
  obtain rfl := Option.some.inj hr
  refine ⟨_, _, q1, enS, fun W' hW' => ?_⟩
  have e2 := e1.trans hW'
  refine eachStmt_of a b 167 A1 A2 M.length c1 c2 L.length L (enE L.length) W' rfl hml (IsStmts.ext hv e2) (hW'.cell q2) (hW'.cell q3) (hN.ext e2).a (hN.ext e2).b enT5 fun i s A c W'' hW'' hs hsl hso => ?_
  exact rules5_any A1 A2 M.length c1 L.length c2 i A s.labels.length c s W'' hso.ins ((hO s (List.mem_of_getElem? hs)).ext (e2.trans hW'')) (List.getElem?_eq_some_iff.1 hs).1 hml
 | k + 9, hr => simp [prRs] at hr
theorem progCheck_any (A1 A2 : Option Addr) (n1 c1 m c2 : Nat) (M : List Def) (L : List Stmt) (w : World) (hn1 : n1 = M.length) (hl1 : n1 ≤ 100000) (hm : m = L.length) (hml : m ≤ 1000000)
  (hd : IsDefs w (.slice A1 n1 c1) M) (hv : IsStmts w (.slice A2 m c2) L) (hfl : (flat L).length ≤ 1000000) (hG : Glob w) (hN : NoneV w) (hO : OpsN w) (hWd : WidN w) :
  Calls Tryz.prog 28 #[.agg #[.slice A1 n1 c1, .slice A2 m c2]] w fun e w' => e = .returned (.tuple #[.int .i64 (pchk M L).1, .int .i64 (pchk M L).2]) ∧ Ext w w' :=
 progCheck_q A1 A2 n1 c1 m c2 M L w hn1 hl1 hm hml hd hv hfl hG hN (fun _ _ => Or.inr hO) hWd
end Go.Proofs.YtmnbalbiehlkpaaGreatDoor


set_option linter.unusedVariables false
set_option linter.unusedSimpArgs false
namespace Go.Proofs.YtmnbalbiehlkpaaGreatDoor
open Go.RowKit Go.Lib

set_option maxRecDepth 20000 in
theorem MapS.lookF {w : World} {b n : Nat} {p : ByteArray → Option Int} (h : MapS w b n p) (s : ByteArray) (hs : s.size ≤ 140737488355328) :
  (Instr.lookup 86 (.map (some b)) (.string s) false).run Tryz.prog w = .ok (.int .i64 ((p s).getD 0)) w := by
 obtain ⟨D, h1, h2⟩ := h
 obtain ⟨c, hr, hc, -⟩ := h1.lookup_int (Maps.string_keyed Tryz.underlying9) Tryz.underlying86 Tryz.underlying3 (zeroInt w) (WideMaps.keyOf_string_mk Tryz.underlying9 (s := s) (by simp only [maxLen]; omega))
 have h4 := (h2 s).2
 unfold keyS at h4
 rw [h4] at hc
 injection hc with hc
 injection hc with _ hc
 rw [hr, hc]
theorem zeroU64 (w : World) : (zeroValue 33).run Tryz.prog w = .ok (.int .u64 0) w := by
 have h : (Tryz.prog.info? 33).map (fun i => i.zero) = some (some (.int .u64 0)) := by kernel_rfl
 obtain ⟨i, hi, hz⟩ := Option.map_eq_some_iff.1 h
 simp [zeroValue, typeInfo, hi, hz]
set_option maxRecDepth 20000 in
theorem look_none (w : World) (b : Nat) (s : ByteArray) (h : w.heap[b]? = some (.map #[] 0)) : (Instr.lookup 101 (.map (some b)) (.string s) false).run Tryz.prog w = .ok (.int .u64 0) w := by
 have hu := run_underlying (P := Tryz.prog) (w := w) Tryz.underlying101
 have h1 := fun e n => MapKept.run_checkKey (P := Tryz.prog) (w := w) Tryz.underlying9 (k := .string s) (show MapKept.IsKey _ _ from trivial) e n
 have h2 := MapKept.run_findKey (P := Tryz.prog) (w := w) (k := .string s) (l := []) (a := none) Tryz.underlying9 rfl
 have h3 := zeroU64 w
 have h4 := h1 true 9999
 simp only [Instr.lookup, Sem.run_bind, hu, Result.andThen_ok, getObj, Sem.run, h, Sem.run_pure, Array.isEmpty_empty]
 rw [h4]
 simp only [Result.andThen_ok]
 rw [h2]
 simp only [Result.andThen_ok, Sem.run_bind, h3]
 rfl
/-- The example's program. -/
def s24A : Stmt := ⟨[], ⟨44, false, 0, 0, 0, 0⟩, ⟨#[120]⟩, ⟨#[]⟩⟩
def s24B : Stmt := ⟨[⟨#[120]⟩], ⟨68, false, 0, 0, 0, 0⟩, ⟨#[]⟩, ⟨#[]⟩⟩
def L24 : List Stmt := [s24A, s24B]
theorem lab24x : labAt L24 ⟨#[120]⟩ = some 1 := by rfl
theorem lab24e : labAt L24 ⟨#[]⟩ = none := by rfl
theorem RowV.ne {w : World} {g b : Nat} {t t' : TypeId} {l l' : List Value} (h : RowV w g t l) (h' : RowV w b t' l') (hne : t ≠ t') : g ≠ b := by
 rintro rfl
 have := Option.some.inj ((h : w.heap[g]? = _).symm.trans h')
 injection this with _ h2
 exact hne h2
theorem GoAt.ext {w w' : World} {v : Value} {x : Ins} {a b : Int} (h : GoAt w v x a b) (he : Ext w w') : GoAt w' v x a b := by
 obtain ⟨p, q, r, e, h1, h2, h3⟩ := h
 exact ⟨p, q, r, e, h1.ext he, h2.ext he, h3.ext he⟩
theorem GoAt.keep {w w' : World} {v : Value} {x : Ins} {a b : Int} {g : Nat} {t : TypeId} {l : List Value} (h : GoAt w v x a b) (hr : RowV w g t l) (hg : w.grownBy w' (some g)) (n1 : t ≠ 53) (n2 : t ≠ 3) : GoAt w' v x a b := by
 obtain ⟨p, q, r, e, h1, h2, h3⟩ := h
 exact ⟨p, q, r, e, h1.keep hg (by have := hr.ne h1 n1; simp; omega), h2.keep hg (by have := hr.ne h2 n2; simp; omega), h3.keep hg (by have := hr.ne h3 n2; simp; omega)⟩
def ActP (w : World) (e : Ending) (w' : World) : Prop := ∃ g v0, e = .returned (.slice (some ⟨g, 0, none⟩) 2 2) ∧ RowV w' g 96 [v0, .func (.func 122) #[] #[]] ∧ GoAt w' v0 s24A.ins 1 1 ∧ GoLo w.heap.size v0 ∧ w.heap.size ≤ g ∧ Ext w w'
theorem run_mkAct (W : World) : (Instr.makeSlice 93 (.int .i64 2) (.int .i64 2)).run Tryz.prog W = .ok (.slice (some ⟨W.heap.size, 0, none⟩) 2 2) (W.alloc (.cells #[.nilFunc, .nilFunc] 96)) := by
 have hi : (Tryz.prog.info? 96).map (fun i => (i.zero, i.size, i.bytes)) = some (some .nilFunc, 1, 8) := by kernel_rfl
 obtain ⟨i, hi, hz⟩ := Option.map_eq_some_iff.1 hi
 simp only [Prod.mk.injEq] at hz
 have h := run_makeSlice (P := Tryz.prog) (w := W) 93 96 i .nilFunc Tryz.underlying93 hi hz.1 .i64 .i64 2 2 (by omega) (by omega) (by rw [hz.2.1]; decide) (by rw [hz.2.2]; decide) (by omega)
 rw [hz.2.1] at h
 have hc : madeCells Value.nilFunc.cells (Int.toNat 2 * 1) = #[.nilFunc, .nilFunc] := by
  apply Array.ext'
  apply List.ext_getElem?
  intro i
  match i with
  | 0 => simp [madeCells, Value.cells]
  | 1 => simp [madeCells, Value.cells]
  | n + 2 => simp [madeCells, Value.cells]
 rw [hc] at h
 exact h
set_option maxRecDepth 40000 in
set_option maxHeartbeats 8000000 in
theorem symActs24_any (A : Option Addr) (c : Nat) (w : World) (hv : IsStmts w (.slice A 2 c) L24) (hO : OpsN w) :
  Calls Tryz.prog 35 #[.agg #[.slice none 0 0, .slice A 2 c]] w (ActP w) := by
 obtain ⟨b, o, rfl, vl, d0, dl, ⟨d1, d2, d3, d4, d5, d6⟩, dok, ⟨d7, d7'⟩, d8, d8'⟩ := hv.get (i := 0) (x := s24A) rfl
 obtain ⟨b', o', hbo, vl', f0, fl, ⟨f1, f2, f3, f4, f5, f6⟩, fok, ⟨f7, f7'⟩, f8, f8'⟩ := hv.get (i := 1) (x := s24B) rfl
 injection hbo with hbo
 injection hbo with hb1 hb2 _
 subst hb1 hb2
 rw [Nat.zero_mul, Nat.add_zero] at d0 d1 d2 d3 d4 d5 d6 d7 d8
 rw [Nat.one_mul] at f0 f1 f2 f3 f4 f5 f6 f7 f8
 obtain ⟨Al, cl, rfl, -, -, -⟩ := dl.form
 obtain ⟨Af, cf, rfl, -, -, -⟩ := fl.form
 have D := hx (And.intro d0 (And.intro d1 (And.intro d2 (And.intro d3 (And.intro d4 (And.intro d5 (And.intro d6 (And.intro d7 d8))))))))
 have F := hx (And.intro f0 (And.intro f1 (And.intro f2 (And.intro f3 (And.intro f4 (And.intro f5 (And.intro f6 (And.intro f7 f8))))))))
 clear d0 d1 d2 d3 d4 d5 d6 d7 d8 f0 f1 f2 f3 f4 f5 f6 f7 f8 dl fl dok fok d7' d8' f7' f8'
 have e0 := Ext.new w (.cells #[.slice none 0 0, .slice (some ⟨b, o, none⟩) 2 c] 25)
 have HL := hx (Labels_any none (some ⟨b, o, none⟩) 0 0 2 c L24 _ rfl (by omega) (IsStmts.ext hv e0) (by decide))
 have r0 := RowV.new w [.slice none 0 0, .slice (some ⟨b, o, none⟩) 2 c] 25
 have E0 := hx e0
 have R0 := hx r0
 have HV := hx hv
 clear e0 r0 hv
 have hmm := @run_makeMap Tryz.prog
 go_enter Tryz.func35, Tryz.ntmps35
 go_wp2_with fail
 refine HL.out.mono ?_
 rintro e w1 ⟨bm, rfl, m1, e1⟩
 obtain ⟨W2, hW2⟩ : ∃ W2, W2 = w1.alloc (.map #[] 0) := ⟨_, rfl⟩
 have e2 : Ext w W2 := by rw [hW2]; exact (E0.out.trans e1).alloc _
 have m2 : MapS W2 bm (flat L24).length (labAt L24) := by rw [hW2]; exact m1.ext (Ext.new _ _)
 have h2 : W2.heap[w1.heap.size]? = some (.map #[] 0) := by rw [hW2]; exact heap_alloc_new w1 _
 have r2 : RowV W2 w.heap.size 25 [.slice none 0 0, .slice (some ⟨b, o, none⟩) 2 c] := by rw [hW2]; exact R0.out.ext (e1.alloc _)
 have p0 := (R0.out.ext e1).cell (i := 0) rfl
 have p0' := r2.cell (i := 0) rfl
 have p0m : (w1.alloc (.map #[] 0)).cell? ⟨w.heap.size, 0, none⟩ = some (.slice none 0 0) := by rw [← hW2]; exact p0'
 obtain ⟨hb, hhb⟩ : ∃ hb, hb = w1.heap.size := ⟨_, rfl⟩
 have HW2 := hx hW2
 rw [← hhb] at h2
 have HHB := hx hhb
 have M2 := hx m2
 have H2 := hx h2
 have R2 := hx r2
 have E2 := hx e2
 clear hW2 hhb m1 m2 h2 r2 e2 e1 HL
 go_wp2
 rw [← HW2.out, ← HHB.out]
 go_loop [16] (fun i => i = .int .i64 0) (fun _ => 0)
 case atStart => rfl
 case round =>
  subst hrel
  have p1 := R2.out.cell (i := 1) rfl
  have hmk := run_mkAct
  have p1' := (R2.out.ext (Ext.new W2 (.cells #[.nilFunc, .nilFunc] 96))).cell (i := 1) rfl
  obtain ⟨g, hg⟩ : ∃ g, g = W2.heap.size := ⟨_, rfl⟩
  have HG := hx hg
  have g0 : RowV (W2.alloc (.cells #[.nilFunc, .nilFunc] 96)) g 96 [.nilFunc, .nilFunc] := by rw [hg]; exact RowV.new _ _ _
  have e3 : Ext W2 (W2.alloc (.cells #[.nilFunc, .nilFunc] 96)) := Ext.new _ _
  clear hg p0 p0' p0m
  go_wp2
  rw [← HG.out]
  clear p1 p1'
  go_loopw [34] (fun i wr => ∃ (k : Nat) (v0 v1 : Value), k ≤ 2 ∧ i = .int .i64 (k : Nat) ∧ RowV wr g 96 [v0, v1] ∧ (1 ≤ k → GoAt wr v0 s24A.ins 1 1 ∧ GoLo w.heap.size v0) ∧ (2 ≤ k → v1 = .func (.func 122) #[] #[]) ∧ Ext W2 wr) (fun i _ => 2 - (RowKit.intOf i).toNat)
  case atStart => exact ⟨0, _, _, by omega, rfl, g0, fun h => by omega, fun h => by omega, e3⟩
  case round =>
   clear g0 e3
   obtain ⟨k, v0, v1, hk, rfl, rg, hv0, hv1, er⟩ := hrel
   have ER := hx (E2.out.trans er)
   have RG := hx rg
   have HV0 := hx hv0
   have HV1 := hx hv1
   have EE := hx er
   clear hv0 hv1 rg
   have hk3 : k = 0 ∨ k = 1 ∨ k = 2 := by omega
   rcases hk3 with rfl | rfl | rfl
   ·obtain ⟨d0, d1, d2, d3, d4, d5, d6, d7, d8⟩ := D.out
    replace d0 := ER.out.cell d0
    replace d1 := ER.out.cell d1
    replace d2 := ER.out.cell d2
    replace d3 := ER.out.cell d3
    replace d4 := ER.out.cell d4
    replace d5 := ER.out.cell d5
    replace d6 := ER.out.cell d6
    replace d7 := ER.out.cell d7
    replace d8 := ER.out.cell d8
    simp only [s24A] at d0 d1 d2 d3 d4 d5 d6 d7 d8
    have hk1 := fun (O : Obj) => (M2.out.ext (er.alloc O)).lookF ⟨#[120]⟩ (by decide)
    rw [lab24x] at hk1
    have hk2 := fun (O : Obj) => look_none (wr.alloc O) hb ⟨#[]⟩ ((er.alloc O).obj H2.out)
    simp only [Option.getD_some] at hk1
    have HC := hx fun (O : Obj) => compGo_any s24A.ins 0 1 0 (wr.alloc O) (by decide +kernel) ⟨by decide, by decide⟩ ⟨by omega, by omega⟩ (hO.ext (ER.out.alloc O))
    simp only [Ins.v, s24A] at HC
    clear er
    go_wp2_with fail
    refine (HC.out _).mono ?_
    rintro e w5 ⟨v5, rfl, ⟨p1, p2, p3, rfl, k1, k2, k3⟩, lo5, e5⟩
    obtain ⟨v5, hv5⟩ : ∃ v5 : Value, v5 = .func (.func 118) #[] #[.pointer (some ⟨p1, 0, none⟩), .pointer (some ⟨p2, 0, none⟩), .pointer (some ⟨p3, 0, none⟩)] := ⟨_, rfl⟩
    have gv : GoAt w5 v5 s24A.ins 1 1 := ⟨p1, p2, p3, hv5, k1, k2, k3⟩
    rw [← hv5] at lo5
    have GL := hx (show GoLo w.heap.size v5 from fun b c d h => by have := lo5 b c d h; have := ER.out.size; simp at *; omega)
    clear lo5
    have rg5 := RG.out.ext ((Ext.new wr _).trans e5)
    have z0 := rg5.frozen 0
    have q0 := rg5.cell (i := 0) rfl
    have x5 := EE.out.trans ((Ext.new wr _).trans e5)
    have GV := hx (gv.keep rg5 (setCell_grown w5 g 0 v5) (by decide) (by decide))
    have RG5 := hx rg5
    have X5 := hx (x5.setCell (a := ⟨g, 0, none⟩) v5 (by rw [HG.out]; exact Nat.le_refl _))
    clear HC hk1 hk2 e5 rg5 x5 gv k1 k2 k3
    subst hv5
    go_wp2
    go_roundw
    case rel => exact ⟨1, _, _, by omega, by rfl, RG5.out.set 0 _, fun _ => ⟨GV.out, GL.out⟩, fun h => by omega, X5.out⟩
    case measure => simp [RowKit.intOf]
   ·obtain ⟨d0, d1, d2, d3, d4, d5, d6, d7, d8⟩ := F.out
    replace d0 := ER.out.cell d0
    replace d1 := ER.out.cell d1
    replace d2 := ER.out.cell d2
    replace d3 := ER.out.cell d3
    replace d4 := ER.out.cell d4
    replace d5 := ER.out.cell d5
    replace d6 := ER.out.cell d6
    replace d7 := ER.out.cell d7
    replace d8 := ER.out.cell d8
    simp only [s24B] at d0 d1 d2 d3 d4 d5 d6 d7 d8
    have hk1 := fun (O : Obj) => (M2.out.ext (er.alloc O)).lookF ⟨#[]⟩ (by decide)
    rw [lab24e] at hk1
    have hk2 := fun (O : Obj) => look_none (wr.alloc O) hb ⟨#[]⟩ ((er.alloc O).obj H2.out)
    simp only [Option.getD_none] at hk1
    have HC := hx fun (O : Obj) => compExit_any s24B.ins 1 0 0 (wr.alloc O) (by decide +kernel) ⟨by decide, by decide⟩ ⟨by omega, by omega⟩ (hO.ext (ER.out.alloc O))
    simp only [Ins.v, s24B] at HC
    clear er
    go_wp2_with fail
    refine (HC.out _).mono ?_
    rintro e w5 ⟨rfl, e5⟩
    have rg5 := RG.out.ext ((Ext.new wr _).trans e5)
    have z0 := rg5.frozen 1
    have q0 := rg5.cell (i := 1) rfl
    have x5 := EE.out.trans ((Ext.new wr _).trans e5)
    have GV := hx (((HV0.out (by omega)).1.ext ((Ext.new wr _).trans e5)).keep rg5 (setCell_grown w5 g 1 (.func (.func 122) #[] #[])) (by decide) (by decide))
    have RG5 := hx rg5
    have X5 := hx (x5.setCell (a := ⟨g, 1, none⟩) (.func (.func 122) #[] #[]) (by rw [HG.out]; exact Nat.le_refl _))
    clear HC hk1 hk2 e5 rg5 x5
    go_wp2
    go_roundw
    case rel => exact ⟨2, _, _, by omega, by rfl, RG5.out.set 1 _, fun _ => ⟨GV.out, (HV0.out (by omega)).2⟩, fun _ => rfl, X5.out⟩
    case measure => simp [RowKit.intOf]
   ·have rg5 := hx (RG.out)
    clear er
    go_wp2
    go_ret
    exact ⟨g, v0, rfl, by rw [← HV1.out (by omega)]; exact RG.out, (HV0.out (by omega)).1, (HV0.out (by omega)).2, by rw [HG.out]; exact E2.out.size, ER.out⟩
end Go.Proofs.YtmnbalbiehlkpaaGreatDoor


set_option linter.unusedVariables false
set_option linter.unusedSimpArgs false
namespace Go.Proofs.YtmnbalbiehlkpaaGreatDoor
open Go.RowKit Go.Lib

/-- A function that is called for each statement, and what stands behind k calls. -/
structure Visit (w0 : World) (F : Nat) (caps : Array Value) (ob : Nat) (V : Nat → Nat → World → Prop) : Prop where
 ent : ∀ args W, (callFunc F args).run Tryz.prog W = .ok (.enter F args) W
 start : ∀ W, Ext w0 W → V W.heap.size 0 W
 ext : ∀ B k W W', V B k W → Ext W W' → V B k W'
 own : ∀ B k W W' s, w0.heap.size ≤ s → s < B → V B k W → W.grownBy W' (some s) → V B k W'
 call : ∀ B k W, k ≤ 100 → V B k W → Calls Tryz.prog F (#[.int .i64 (k : Nat)] ++ caps) W fun e w' => e = .returned (.tuple #[]) ∧ V B (k + 1) w' ∧ ∀ i, i < B → i ≠ ob → w'.heap[i]? = W.heap[i]?
 old : ob < w0.heap.size
 ops : ∀ B k W, V B k W → OpsN W
def RunP (w0 : World) (V : Nat → Nat → World → Prop) (e : Ending) (w' : World) : Prop := ∃ s vm vt B, e = .returned (.tuple #[.pointer (some ⟨s, 0, none⟩), .int .i64 0]) ∧ RowV w' s 68 (stV vm vt 0 0 0 0) ∧ V B 2 w' ∧ w0.heap.size ≤ s
theorem pchk24 : pchk [] L24 = (0, 0) := by decide +kernel
theorem pchk00 : pchk [] [] = (0, 15) := by decide +kernel
/-- The rows that the loop reads. -/
structure Rd24 (w0 W : World) (B ob s g : Nat) (vm vt v0 : Value) (k q : Int) : Prop where
 st : RowV W s 68 (stV vm vt k q 0 0)
 act : RowV W g 96 [v0, .func (.func 122) #[] #[]]
 go : ∃ b c d, v0 = .func (.func 118) #[] #[.pointer (some ⟨b, 0, none⟩), .pointer (some ⟨c, 0, none⟩), .pointer (some ⟨d, 0, none⟩)] ∧ (RowV W b 53 s24A.ins.enc ∧ b < B ∧ b ≠ ob) ∧ (RowV W c 3 [.int .i64 1] ∧ c < B ∧ c ≠ ob) ∧ (RowV W d 3 [.int .i64 1] ∧ d < B ∧ d ≠ ob)
 bs : w0.heap.size ≤ s ∧ s < B ∧ w0.heap.size ≤ g ∧ g < B
theorem Rd24.blk {w0 W W' : World} {B ob s g : Nat} {vm vt v0 : Value} {k q : Int} (h : Rd24 w0 W B ob s g vm vt v0 k q) (ho : ob < w0.heap.size) (hk : ∀ i, i < B → i ≠ ob → W'.heap[i]? = W.heap[i]?) : Rd24 w0 W' B ob s g vm vt v0 k q := by
 obtain ⟨h1, h2, ⟨b, c, d, e, ⟨p1, p2, p3⟩, ⟨q1, q2, q3⟩, ⟨r1, r2, r3⟩⟩, a1, a2, a3, a4⟩ := h
 exact ⟨(hk s a2 (by omega)).trans h1, (hk g a4 (by omega)).trans h2, ⟨b, c, d, e, ⟨(hk b p2 p3).trans p1, p2, p3⟩, ⟨(hk c q2 q3).trans q1, q2, q3⟩, ⟨(hk d r2 r3).trans r1, r2, r3⟩⟩, a1, a2, a3, a4⟩
theorem Rd24.ext {w0 W W' : World} {B ob s g : Nat} {vm vt v0 : Value} {k q : Int} (h : Rd24 w0 W B ob s g vm vt v0 k q) (he : Ext W W') : Rd24 w0 W' B ob s g vm vt v0 k q := by
 obtain ⟨h1, h2, ⟨b, c, d, e, ⟨p1, p2, p3⟩, ⟨q1, q2, q3⟩, ⟨r1, r2, r3⟩⟩, a⟩ := h
 exact ⟨h1.ext he, h2.ext he, ⟨b, c, d, e, ⟨p1.ext he, p2, p3⟩, ⟨q1.ext he, q2, q3⟩, ⟨r1.ext he, r2, r3⟩⟩, a⟩
theorem Rd24.exit {w0 W W' : World} {B ob s g : Nat} {vm vt v0 : Value} {k q : Int} (h : Rd24 w0 W B ob s g vm vt v0 k q) (hs : RowV W' s 68 (stV vm vt 0 0 0 0)) (hg : W.grownBy W' (some s)) : Rd24 w0 W' B ob s g vm vt v0 0 0 := by
 obtain ⟨h1, h2, ⟨b, c, d, e, ⟨p1, p2, p3⟩, ⟨q1, q2, q3⟩, ⟨r1, r2, r3⟩⟩, a⟩ := h
 exact ⟨hs, h2.keep hg (by have := h1.ne h2 (by decide); simp; omega), ⟨b, c, d, e, ⟨p1.keep hg (by have := h1.ne p1 (by decide); simp; omega), p2, p3⟩, ⟨q1.keep hg (by have := h1.ne q1 (by decide); simp; omega), q2, q3⟩, ⟨r1.keep hg (by have := h1.ne r1 (by decide); simp; omega), r2, r3⟩⟩, a⟩
def Lp24 (k : Nat) (fu at_ : Value) (kk : Int) : Prop := (k = 0 ∧ fu = .int .i64 9 ∧ at_ = .int .i64 0 ∧ kk = 2) ∨ (k = 1 ∧ fu = .int .i64 8 ∧ at_ = .int .i64 1 ∧ kk = 2) ∨ (k = 2 ∧ fu = .int .i64 7 ∧ at_ = .int .i64 (-1) ∧ kk = 0)
set_option maxRecDepth 40000 in
set_option maxHeartbeats 8000000 in
theorem symRun24_any (A : Option Addr) (c F ob : Nat) (caps : Array Value) (V : Nat → Nat → World → Prop) (w : World) (hv : IsStmts w (.slice A 2 c) L24) (hG : Glob w) (hN : NoneV w) (hO : OpsN w) (hWd : WidN w) (hV : Visit w F caps ob V) :
  Calls Tryz.prog 18 #[.agg #[.slice none 0 0, .slice A 2 c], .agg #[.slice none 0 0, .slice none 0 0, .int .i64 9], .func (.func F) #[] caps] w (RunP w V) := by
 obtain ⟨W0, hW0⟩ : ∃ W0, W0 = ((w.alloc (.cells #[.slice none 0 0, .slice A 2 c] 25)).alloc (.cells #[.slice none 0 0, .slice none 0 0, .int .i64 9] 29)) := ⟨_, rfl⟩
 have e0 : Ext w W0 := by rw [hW0]; exact (Ext.new w _).alloc _
 have r0 : RowV W0 w.heap.size 25 [.slice none 0 0, .slice A 2 c] := by rw [hW0]; exact (RowV.new _ _ _).ext (Ext.new _ _)
 have r1 : RowV W0 (w.heap.size + 1) 29 [.slice none 0 0, .slice none 0 0, .int .i64 9] := by
  rw [hW0]
  have h := RowV.new (w.alloc (.cells #[.slice none 0 0, .slice A 2 c] 25)) [.slice none 0 0, .slice none 0 0, .int .i64 9] 29
  rwa [World.size_alloc] at h
 have HC := hx (progCheck_any none A 0 0 2 c [] L24 W0 rfl (by omega) rfl (by omega) (Sl.nil _) (IsStmts.ext hv e0) (by decide) (hG.ext e0) (hN.ext e0) (hO.ext e0) (hWd.ext e0))
 rw [pchk24] at HC
 have HST := hx fun W => symStart0_any A 2 c 9 W
 have HA := hx fun (W : World) (hW : Ext w W) => symActs24_any A c W (IsStmts.ext hv hW) (hO.ext hW)
 have HW0 := hx hW0
 have E0 := hx e0
 have R0 := hx r0
 have R1 := hx r1
 have HV := hx hV
 clear hW0 e0 r0 r1 hv hG hN hO hWd hV
 go_enter Tryz.func18, Tryz.ntmps18
 go_wp2_with fail
 rw [← HW0.out]
 refine HC.out.mono ?_
 rintro e w1 ⟨rfl, e1⟩
 have r10 := hx (R0.out.ext e1)
 have r11 := hx (R1.out.ext e1)
 have q0 := r10.out.cell (i := 0) rfl
 have q1 := r10.out.cell (i := 1) rfl
 have i0 := r11.out.cell (i := 0) rfl
 have i1 := r11.out.cell (i := 1) rfl
 have i2 := r11.out.cell (i := 2) rfl
 have E1 := hx (E0.out.trans e1)
 clear e1 HC
 go_wp2_with fail
 refine (HST.out _).mono ?_
 rintro e w2 ⟨s, vm, vt, rfl, s2, bs, e2⟩
 have r20 := hx (r10.out.ext e2)
 have r21 := hx (r11.out.ext e2)
 have E2 := hx (E1.out.trans e2)
 have S2 := hx s2
 have BS := hx (Nat.le_trans E1.out.size bs)
 replace q0 := r20.out.cell (i := 0) rfl
 replace q1 := r20.out.cell (i := 1) rfl
 replace i2 := r21.out.cell (i := 2) rfl
 clear i0 i1 e2 s2 bs HST
 go_wp2_with fail
 refine (HA.out _ E2.out).mono ?_
 rintro e w3 ⟨g, v0, rfl, g3, ⟨b, d, f, hv0, k1, k2, k3⟩, lo3, bg, e3⟩
 obtain ⟨l1, l2, l3⟩ := lo3 b d f hv0
 have hsz := E2.out.size
 have hold := HV.out.old
 have hbs := BS.out
 have hsl := S2.out.lt
 have hse := e3.size
 have RD : Rd24 w w3 w3.heap.size ob s g vm vt v0 2 0 := ⟨S2.out.ext e3, g3, ⟨b, d, f, hv0, ⟨k1, k1.lt, by omega⟩, ⟨k2, k2.lt, by omega⟩, ⟨k3, k3.lt, by omega⟩⟩, by omega, by omega, by omega, g3.lt⟩
 have hv3 := HV.out.start w3 (E2.out.trans e3)
 replace i2 := (r21.out.ext e3).cell (i := 2) rfl
 obtain ⟨B, hB⟩ : ∃ B, B = w3.heap.size := ⟨_, rfl⟩
 rw [← hB] at RD hv3
 have HOLD := hx hold
 clear hB lo3 l1 l2 l3 k1 k2 k3 hv0 hsz hbs hsl hse hold g3 bg e3 r20 r21 S2 HA q0 q1
 have hent := HV.out.ent
 go_wp2
 go_loopw [13, 14] (fun fu at_ wr => ∃ (k : Nat) (kk : Int), Lp24 k fu at_ kk ∧ Rd24 w wr B ob s g vm vt v0 kk 0 ∧ V B k wr) (fun fu _ _ => (RowKit.intOf fu).toNat)
 case atStart => exact ⟨0, 2, .inl ⟨rfl, rfl, rfl, rfl⟩, RD, hv3⟩
 case round =>
  clear RD hv3
  obtain ⟨k, kk, hl, hr, hvk⟩ := hrel
  have RR := hx hr
  have VK := hx hvk
  clear hr hvk
  rcases hl with ⟨rfl, rfl, rfl, rfl⟩ | ⟨rfl, rfl, rfl, rfl⟩ | ⟨rfl, rfl, rfl, rfl⟩
  ·have HCall := hx (HV.out.call B 0 wr (by omega) VK.out)
   go_wp2_with fail
   refine HCall.out.mono ?_
   rintro e w5 ⟨rfl, v5, h5⟩
   have R5 := RR.out.blk HOLD.out h5
   obtain ⟨p1, p2, p3, hv0, ⟨k1, -, -⟩, ⟨k2, -, -⟩, ⟨k3, -, -⟩⟩ := R5.go
   have c0 := R5.act.cell (i := 0) rfl
   rw [hv0] at c0
   have HR := hx (runGo_any s p1 p2 p3 vm vt 2 0 0 0 44 1 1 w5 (by decide +kernel) ⟨by decide, by decide⟩ R5.st k1 k2 k3 (HV.out.ops B _ w5 v5))
   have R5' := hx R5
   have V5 := hx v5
   clear hv0 k1 k2 k3 R5 v5 h5 HCall
   go_wp2_with fail
   refine HR.out.mono ?_
   rintro e w6 ⟨rfl, e6⟩
   have X6 := hx e6
   clear e6 HR c0
   go_wp2
   go_roundw
   case rel => exact ⟨1, 2, .inr (.inl ⟨rfl, rfl, rfl, rfl⟩), R5'.out.ext X6.out, HV.out.ext _ _ _ _ V5.out X6.out⟩
   case measure => simp [RowKit.intOf]
  ·have HCall := hx (HV.out.call B 1 wr (by omega) VK.out)
   go_wp2_with fail
   refine HCall.out.mono ?_
   rintro e w5 ⟨rfl, v5, h5⟩
   have R5 := RR.out.blk HOLD.out h5
   have c1 := R5.act.cell (i := 1) rfl
   have HR := hx (runExit_any s vm vt 2 0 0 0 w5 R5.st)
   have R5' := hx R5
   have V5 := hx v5
   clear R5 v5 h5 HCall
   go_wp2_with fail
   refine HR.out.mono ?_
   rintro e w6 ⟨rfl, s6, g6⟩
   have R6 := hx (R5'.out.exit s6 g6)
   have V6 := hx (HV.out.own _ _ _ _ s R5'.out.bs.1 R5'.out.bs.2.1 V5.out g6)
   clear s6 g6 HR c1
   go_wp2
   go_roundw
   case rel => exact ⟨2, 0, .inr (.inr ⟨rfl, rfl, rfl, rfl⟩), R6.out, V6.out⟩
   case measure => simp [RowKit.intOf]
  ·go_wp2
   go_ret2
   exact ⟨s, vm, vt, B, rfl, RR.out.st, VK.out, RR.out.bs.1⟩
end Go.Proofs.YtmnbalbiehlkpaaGreatDoor
