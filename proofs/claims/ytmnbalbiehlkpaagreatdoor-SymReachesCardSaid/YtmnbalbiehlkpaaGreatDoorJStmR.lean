/- The layer prog, the reference: the check of a statement. -/
import Derived.Test.YtmnbalbiehlkpaaGreatDoorJAll
import Derived.Test.YtmnbalbiehlkpaaGreatDoorJRefChkE
import Derived.Test.YtmnbalbiehlkpaaGreatDoorJSymE
import Derived.Test.YtmnbalbiehlkpaaGreatDoorJSlot
set_option linter.unusedVariables false
set_option linter.unusedSimpArgs false
namespace Go.Proofs.YtmnbalbiehlkpaaGreatDoor
open Go.RowKit Go.Lib

set_option maxRecDepth 40000 in
set_option maxHeartbeats 8000000 in
theorem refStmt_any (A : Option Addr) (c : Nat) (s : Stmt) (w : World) (hl : IsStrs w (.slice A s.labels.length c) s.labels) (hok : s.ins.Ok) (ht : s.target.size ≤ 140737488355328) (hm : s.map.size ≤ 140737488355328) :
  Calls Tryz.prog 43 #[StV A s.labels.length c s] w fun e w' => e = .returned (.int .i64 (stmtE s)) ∧ Ext w w' := by
 have hsl := stmtE_lbl (s := s)
 have hsi := fun h h2 => stmtE_ins (s := s) h h2
 have hst := fun h h2 => stmtE_tail (s := s) h h2
 obtain ⟨labels, ⟨op, reg, n1, n2, n3, n4⟩, tt, tm⟩ := s
 dsimp only at *
 generalize stmtE ⟨labels, ⟨op, reg, n1, n2, n3, n4⟩, tt, tm⟩ = SE at *
 unfold StV
 dsimp only
 have hop := hok.op
 have HC := hx fun W => ref04Check_any ⟨op, reg, n1, n2, n3, n4⟩ W hok
 have HF := hx fun W => (refForm_any op W hop).mono (R' := fun e w' => e = .returned (.int .i64 (formN op)) ∧ w' = W) fun e w' h => by rw [formN_eq]; exact h
 have hjx : jumpsX ⟨op, reg, n1, n2, n3, n4⟩ = decide (formN op = 3 ∨ formN op = 4) := rfl
 rw [hjx] at hst
 unfold Ins.v at HC
 generalize insE ⟨op, reg, n1, n2, n3, n4⟩ = IE at *
 generalize formN op = F at *
 clear hjx hok hop
 obtain ⟨m, hmm⟩ : ∃ m, m = labels.length := ⟨_, rfl⟩
 have hb0 : labels.length ≤ 281474976710656 := hl.len
 rw [← hmm] at hl hb0 ⊢
 have HM := hx hmm
 clear hmm
 have HSL := hx hsl
 have HSI := hx hsi
 have HSX := hx hst
 obtain ⟨W0, hW0⟩ : ∃ W0, W0 = w.alloc (.cells #[.slice A m c, .int .i64 op, .bool reg, .int .i64 n1, .int .i64 n2, .int .i64 n3, .int .i64 n4, .string tt, .string tm] 55) := ⟨_, rfl⟩
 have e0 : Ext w W0 := by rw [hW0]; exact Ext.new _ _
 have r0 : RowV W0 w.heap.size 55 [.slice A m c, .int .i64 op, .bool reg, .int .i64 n1, .int .i64 n2, .int .i64 n3, .int .i64 n4, .string tt, .string tm] := by rw [hW0]; exact RowV.new _ _ _
 have hl0 := IsStrs.ext hl e0
 have q0 := r0.cell (i := 0) rfl
 have q1 := r0.cell (i := 1) rfl
 have q2 := r0.cell (i := 2) rfl
 have q3 := r0.cell (i := 3) rfl
 have q4 := r0.cell (i := 4) rfl
 have q5 := r0.cell (i := 5) rfl
 have q6 := r0.cell (i := 6) rfl
 have R0 := hx r0
 have E0 := hx e0
 clear hl hsl hsi hst r0 e0
 go_enter Tryz.func43, Tryz.ntmps43
 go_wp2
 rw [← hW0]
 clear hW0
 go_loop [3] (fun i => ∃ k : Nat, k ≤ m ∧ i = .int .i64 (k : Nat) ∧ (∀ j, j < k → idB (labels.getD j emS) = true)) (fun i => m - (RowKit.intOf i).toNat)
 case atStart => exact ⟨0, by omega, rfl, by intro j hj; omega⟩
 case round =>
  obtain ⟨k, hk, rfl, hn⟩ := hrel
  have HN := Go.Proofs.YtmnbalbiehlkpaaGreatDoor.hx hn
  clear hn
  by_cases hlt : k < m
  ·obtain ⟨x, hx0⟩ : ∃ x, labels[k]? = some x := ⟨_, List.getElem?_eq_getElem (by have := HM.out; omega)⟩
   have hg : labels.getD k emS = x := by rw [List.getD_eq_getElem?_getD, hx0]; rfl
   obtain ⟨bx, ox, rfl, d1, d2⟩ := hl0.get hx0
   rw [Nat.mul_one] at d1
   have hkm : (k : Int) < (m : Int) := by omega
   have hV := ref02_Valid_any x W0 (by omega)
   have HG := hx hg
   have HX0 := hx hx0
   have HLT := hx hlt
   clear hg hx0 d2 hlt q1 q2 q3 q4 q5 q6
   cases hv : idB x with
   | true =>
    rw [hv] at hV
    have HV := hx hV
    have HVV := hx hv
    clear hV hv
    go_wp2_with fail
    refine HV.out.mono ?_
    rintro e w3 ⟨rfl, rfl⟩
    go_wp2
    go_round
    case rel => exact ⟨k + 1, HLT.out, by go_num, fun j hj => (Nat.lt_succ_iff_lt_or_eq.1 hj).elim (HN.out j) (fun h => by rw [h, HG.out, HVV.out])⟩
    case measure => simp [RowKit.intOf]; omega
   | false =>
    rw [hv] at hV
    have HV := hx hV
    have HB := hx (lbl_hit HX0.out hv)
    clear hV hv
    go_wp2_with fail
    refine HV.out.mono ?_
    rintro e w3 ⟨rfl, rfl⟩
    go_wp2
    go_ret
    exact ⟨ret_int (HSL.out HB.out).symm, E0.out⟩
  ·obtain rfl : m = k := by omega
   have hbn := lbl_none (l := labels) (by rw [← HM.out]; exact HN.out)
   have HBN := hx hbn
   clear hbn hlt hk HN
   by_cases hz : IE = 0
   ·subst hz
    have HST := hx (HSX.out HBN.out rfl)
    clear HSL HSI HSX HBN
    go_wp2_with fail
    refine (HC.out _).mono ?_
    rintro e w1 ⟨rfl, e1⟩
    have r1 := R0.out.ext e1
    have p1 := r1.cell (i := 1) rfl
    have p5 := r1.cell (i := 5) rfl
    have p6 := r1.cell (i := 6) rfl
    have p7 := r1.cell (i := 7) rfl
    have p8 := r1.cell (i := 8) rfl
    have E1 := hx (E0.out.trans e1)
    clear q0 q1 q2 q3 q4 q5 q6 e1 r1
    go_wp2_with fail
    refine (HF.out _).mono ?_
    rintro e w2 ⟨rfl, rfl⟩
    clear HF HC
    by_cases f3 : F = 3
    ·subst f3
     have f1 : decide ((3 : Int) = 3 ∨ (3 : Int) = 4) = true := by decide
     rw [f1, show ((3 : Int) == 11) = false from rfl] at HST
     clear f1
     by_cases c1 : n3 = 0
     ·subst c1
      by_cases c2 : tm = emS
      ·subst c2
       have u1 := em_list
       have u2 := em_isE
       cases hv : idB tt with
       | true =>
        have hT : tailB true false 0 n4 tt emS = 0 := by simp [tailB, neS, hv]
        have HT := hx hT
        clear hT
        have hV := fun W => ref02_Valid_any tt W (by omega)
        simp only [hv] at hV
        have HV := hx hV
        clear hV hv
        go_wp2_with fail
        refine (HV.out _).mono ?_
        rintro e w3 ⟨rfl, rfl⟩
        go_wp2
        go_ret
        exact ⟨ret_int (by rw [HST.out, HT.out]), E1.out⟩
       | false =>
        have hT : tailB true false 0 n4 tt emS = 7 := by simp [tailB, neS, hv]
        have HT := hx hT
        clear hT
        have hV := fun W => ref02_Valid_any tt W (by omega)
        simp only [hv] at hV
        have HV := hx hV
        clear hV hv
        go_wp2_with fail
        refine (HV.out _).mono ?_
        rintro e w3 ⟨rfl, rfl⟩
        go_wp2
        go_ret
        exact ⟨ret_int (by rw [HST.out, HT.out]), E1.out⟩
      ·have u1 := ne_list c2
       have u2 := ne_isE c2
       have hT : tailB true false 0 n4 tt tm = 12 := by simp [tailB, neS, c2]
       clear c2
       have HT := hx hT
       clear hT
       go_wp2
       go_ret
       exact ⟨ret_int (by rw [HST.out, HT.out]), E1.out⟩
     ·have q1 : (n3 != 0) = true := by simpa using c1
      have hT : tailB true false n3 n4 tt tm = 12 := by simp [tailB, c1]
      clear c1
      have HT := hx hT
      clear hT
      go_wp2
      go_ret
      exact ⟨ret_int (by rw [HST.out, HT.out]), E1.out⟩
    ·by_cases f4 : F = 4
     ·subst f4
      have f1 : decide ((4 : Int) = 3 ∨ (4 : Int) = 4) = true := by decide
      rw [f1, show ((4 : Int) == 11) = false from rfl] at HST
      clear f1 f3
      by_cases c1 : n3 = 0
      ·subst c1
       by_cases c2 : tm = emS
       ·subst c2
        have u1 := em_list
        have u2 := em_isE
        cases hv : idB tt with
        | true =>
         have hT : tailB true false 0 n4 tt emS = 0 := by simp [tailB, neS, hv]
         have HT := hx hT
         clear hT
         have hV := fun W => ref02_Valid_any tt W (by omega)
         simp only [hv] at hV
         have HV := hx hV
         clear hV hv
         go_wp2_with fail
         refine (HV.out _).mono ?_
         rintro e w3 ⟨rfl, rfl⟩
         go_wp2
         go_ret
         exact ⟨ret_int (by rw [HST.out, HT.out]), E1.out⟩
        | false =>
         have hT : tailB true false 0 n4 tt emS = 7 := by simp [tailB, neS, hv]
         have HT := hx hT
         clear hT
         have hV := fun W => ref02_Valid_any tt W (by omega)
         simp only [hv] at hV
         have HV := hx hV
         clear hV hv
         go_wp2_with fail
         refine (HV.out _).mono ?_
         rintro e w3 ⟨rfl, rfl⟩
         go_wp2
         go_ret
         exact ⟨ret_int (by rw [HST.out, HT.out]), E1.out⟩
       ·have u1 := ne_list c2
        have u2 := ne_isE c2
        have hT : tailB true false 0 n4 tt tm = 12 := by simp [tailB, neS, c2]
        clear c2
        have HT := hx hT
        clear hT
        go_wp2
        go_ret
        exact ⟨ret_int (by rw [HST.out, HT.out]), E1.out⟩
      ·have q1 : (n3 != 0) = true := by simpa using c1
       have hT : tailB true false n3 n4 tt tm = 12 := by simp [tailB, c1]
       clear c1
       have HT := hx hT
       clear hT
       go_wp2
       go_ret
       exact ⟨ret_int (by rw [HST.out, HT.out]), E1.out⟩
     ·by_cases f11 : F = 11
      ·subst f11
       have f1 : decide ((11 : Int) = 3 ∨ (11 : Int) = 4) = false := by decide
       rw [f1, show ((11 : Int) == 11) = true from rfl] at HST
       clear f1 f3 f4
       by_cases c1 : n4 = 0
       ·subst c1
        by_cases c2 : tt = emS
        ·subst c2
         have u1 := em_list
         have u2 := em_isE
         cases hv : idB tm with
         | true =>
          have hT : tailB false true n3 0 emS tm = 0 := by simp [tailB, neS, hv]
          have HT := hx hT
          clear hT
          have hV := fun W => ref02_Valid_any tm W (by omega)
          simp only [hv] at hV
          have HV := hx hV
          clear hV hv
          go_wp2_with fail
          refine (HV.out _).mono ?_
          rintro e w3 ⟨rfl, rfl⟩
          go_wp2
          go_ret
          exact ⟨ret_int (by rw [HST.out, HT.out]), E1.out⟩
         | false =>
          have hT : tailB false true n3 0 emS tm = 7 := by simp [tailB, neS, hv]
          have HT := hx hT
          clear hT
          have hV := fun W => ref02_Valid_any tm W (by omega)
          simp only [hv] at hV
          have HV := hx hV
          clear hV hv
          go_wp2_with fail
          refine (HV.out _).mono ?_
          rintro e w3 ⟨rfl, rfl⟩
          go_wp2
          go_ret
          exact ⟨ret_int (by rw [HST.out, HT.out]), E1.out⟩
        ·have u1 := ne_list c2
         have u2 := ne_isE c2
         have hT : tailB false true n3 0 tt tm = 12 := by simp [tailB, neS, c2]
         clear c2
         have HT := hx hT
         clear hT
         go_wp2
         go_ret
         exact ⟨ret_int (by rw [HST.out, HT.out]), E1.out⟩
       ·have q1 : (n4 != 0) = true := by simpa using c1
        have hT : tailB false true n3 n4 tt tm = 12 := by simp [tailB, c1]
        clear c1
        have HT := hx hT
        clear hT
        go_wp2
        go_ret
        exact ⟨ret_int (by rw [HST.out, HT.out]), E1.out⟩
      ·have f1 : decide (F = 3 ∨ F = 4) = false := decide_eq_false (by omega)
       have g3 : (F == 3) = false := by simpa using f3
       have g4 : (F == 4) = false := by simpa using f4
       have g11 : (F == 11) = false := by simpa using f11
       have g12 : (F != 11) = true := by simpa using f11
       rw [f1, g11] at HST
       clear f1 f3 f4 f11
       by_cases c1 : tt = emS
       ·subst c1
        have u1 := em_list
        have u2 := em_isE
        by_cases c2 : tm = emS
        ·subst c2
         have hT : tailB false false n3 n4 emS emS = 0 := by simp [tailB, neS]
         have HT := hx hT
         clear hT
         go_wp2
         go_ret
         exact ⟨ret_int (by rw [HST.out, HT.out]), E1.out⟩
        ·have u3 := ne_list c2
         have u4 := ne_isE c2
         have hT : tailB false false n3 n4 emS tm = 12 := by simp [tailB, neS, c2]
         clear c2
         have HT := hx hT
         clear hT
         go_wp2
         go_ret
         exact ⟨ret_int (by rw [HST.out, HT.out]), E1.out⟩
       ·have u1 := ne_list c1
        have u2 := ne_isE c1
        have hT : tailB false false n3 n4 tt tm = 12 := by simp [tailB, neS, c1]
        clear c1
        have HT := hx hT
        clear hT
        go_wp2
        go_ret
        exact ⟨ret_int (by rw [HST.out, HT.out]), E1.out⟩
   ·have hz' : (IE != 0) = true := by simpa using hz
    have HST := hx (HSI.out HBN.out hz)
    clear HSL HSI HSX HBN hz
    go_wp2_with fail
    refine (HC.out _).mono ?_
    rintro e w1 ⟨rfl, e1⟩
    go_wp2
    go_ret
    exact ⟨ret_int HST.out.symm, E0.out.trans e1⟩
end Go.Proofs.YtmnbalbiehlkpaaGreatDoor


set_option linter.unusedVariables false
set_option linter.unusedSimpArgs false
namespace Go.Proofs.YtmnbalbiehlkpaaGreatDoor
open Go.RowKit Go.Lib

set_option maxRecDepth 40000 in
set_option maxHeartbeats 16000000 in
theorem refCheck10_any (A1 A2 : Option Addr) (m1 c1 m c2 : Nat) (M : List Def) (L : List Stmt) (w : World) (hm1 : m1 = M.length) (hm1l : m1 ≤ 100000) (hm : m = L.length) (hml : m ≤ 1000000) (hd : IsDefs w (.slice A1 m1 c1) M) (hv : IsStmts w (.slice A2 m c2) L) (hfl : (flat L).length ≤ 1000000) :
  Calls Tryz.prog 21 #[.agg #[.slice A1 m1 c1, .slice A2 m c2]] w fun e w' => e = .returned (.tuple #[.int .i64 (pchk M L).1, .int .i64 (pchk M L).2]) ∧ Ext w w' := by
 obtain ⟨W0, hW0⟩ : ∃ W0, W0 = w.alloc (.cells #[.slice A1 m1 c1, .slice A2 m c2] 25) := ⟨_, rfl⟩
 have e0 : Ext w W0 := by rw [hW0]; exact Ext.new w _
 have rP : RowV W0 w.heap.size 25 [.slice A1 m1 c1, .slice A2 m c2] := by rw [hW0]; exact RowV.new _ _ _
 have hs0 : W0.heap.size = w.heap.size + 1 := by rw [hW0]; simp
 have HLB := hx fun (W : World) (hW : Ext w W) => refLabels_any A1 A2 m1 c1 m c2 L W hm hml (IsStmts.ext hv hW) hfl
 have HLA := hx fun (s : ByteArray) (W : World) (hW : Ext w W) => refLabel_any A1 A2 m1 c1 m c2 L s W hm hml (IsStmts.ext hv hW) hfl
 have HMA := hx fun (s : ByteArray) (W : World) (hW : Ext w W) => refMap_any A1 A2 m1 c1 m c2 M s W hm1 (by omega) (IsDefs.ext hd hW)
 have HDN := hx (show ∀ s ∈ namesL M, s.size ≤ 140737488355328 from fun s hs => by
  obtain ⟨d, hdm, rfl⟩ := List.mem_map.1 hs
  exact (defs_ok hd d hdm).name)
 have HFL := hx hfl
 have HM := hx hm
 have HM1 := hx hm1
 have hm1b : m1 ≤ 1000000 := by omega
 have HPC := hx (pchk_rest M L)
 generalize pchk M L = PC at *
 clear hm hm1 hfl
 go_enter Tryz.func21, Tryz.ntmps21
 go_wp2
 rw [← hW0]
 clear hW0
 go_loopw [4, 5] (fun vs i wr => ∃ k : Nat, k ≤ m1 ∧ i = .int .i64 (k : Nat) ∧ OwnS wr (w.heap.size + 1) vs ((M.take k).map (·.name)) ∧ (∀ j, j < k → mapE (M.getD j default) = 0) ∧ RowV wr w.heap.size 25 [.slice A1 m1 c1, .slice A2 m c2] ∧ w.heap.size + 1 ≤ wr.heap.size ∧ Ext w wr) (fun _ i _ => m1 - (RowKit.intOf i).toNat)
 case atStart => exact ⟨0, by omega, rfl, Own.nil _ _ _ _ _, (by intro j hj; omega), rP, by omega, e0⟩
 case round =>
  clear e0 rP hs0
  obtain ⟨k, hk, rfl, os, hn, hr, hsz, he⟩ := hrel
  have HN := hx hn
  clear hn
  have q0 := hr.cell (i := 0) rfl
  obtain ⟨As, cs, rfl⟩ := os.slice
  by_cases hlt : k < m1
  ·obtain ⟨x, hx0⟩ : ∃ x, M[k]? = some x := ⟨_, List.getElem?_eq_getElem (by have := HM1.out; omega)⟩
   have hg : M.getD k default = x := by rw [List.getD_eq_getElem?_getD, hx0]; rfl
   obtain ⟨bx, ox, hAA, ⟨d1, d2, d3, d4⟩, dok⟩ := hd.get hx0
   subst hAA
   have hnm := dok.name
   have D1 := hx d1
   have D2 := hx d2
   have D3 := hx d3
   have D4 := hx d4
   replace d1 := he.cell d1
   have hkm : (k : Int) < (m1 : Int) := by omega
   have htk : (M.take k).map (·.name) ++ [x.name] = (M.take (k + 1)).map (·.name) := by rw [List.take_add_one, hx0]; simp
   have HTK := hx htk
   have hl16 : (((M.take k).map (·.name)).length + 1) * 16 ≤ 140737488355328 := by rw [List.length_map, List.length_take]; omega
   have H16 := hx hl16
   have HVL := hx fun W => ref02_Valid_any x.name W (by omega)
   have HSZ := hx fun W => ref09_Sizes_any x W
   have hmE : mapE (M.getD k default) = if idB x.name then whenN (!sizesB x) 9 else 7 := by rw [hg]; rfl
   have HME := hx hmE
   have HLT := hx hlt
   obtain ⟨nm, ky, vl, en⟩ := x
   dsimp only at *
   generalize (M.take k).map (·.name) = NS at *
   generalize idB nm = IB at *
   generalize sizesB ⟨nm, ky, vl, en⟩ = SB at *
   clear hx0 hg dok hnm htk hl16 hmE hlt d2 d3 d4
   go_wp2_with (at_builtin; refine wp_app1 tyS encS_ok os nm rfl rfl rfl rfl rfl hsz (by decide) H16.out ?_; intro g1 cap1 w2 os2 hg2 hat2 hbg2; have hr2 := hr.keep hg2 (fun e => by have := os.base_le _ e.symm; omega); have he2 := he.grown hg2 (fun k hk => by have := os.base_le k hk; omega); have hsz2 := Nat.le_trans hsz hg2.size; have p0 := hr2.cell (i := 0) rfl; have f1 := he2.cell D1.out; have f2 := he2.cell D2.out; have f3 := he2.cell D3.out; have f4 := he2.cell D4.out)
   rw [HTK.out] at os2
   have OS2 := hx os2
   have R2 := hx hr2
   have E2 := hx he2
   clear os os2 hr hr2 he he2 hg2 q0 d1
   cases IB with
   | false =>
    refine (HVL.out _).mono ?_
    rintro e w3 ⟨rfl, rfl⟩
    have hR := HPC.out.trans (rp0s (by rw [← HM1.out]; exact HLT.out) HN.out (e := 7) HME.out (by decide))
    have HR := hx hR
    clear hR
    go_wp2
    go_ret2
    exact ⟨by rw [HR.out]; rfl, E2.out⟩
   | true =>
    refine (HVL.out _).mono ?_
    rintro e w3 ⟨rfl, rfl⟩
    go_wp2_with fail
    refine (HSZ.out _).mono ?_
    rintro e w4 ⟨rfl, e4⟩
    have E4 := hx (E2.out.trans e4)
    have R4 := hx (R2.out.ext e4)
    have hsz4 := Nat.le_trans hsz2 e4.size
    have O4 := hx (OS2.out.ext e4)
    clear e4 p0 f1 f2 f3 f4
    cases SB with
    | false =>
     have hR := HPC.out.trans (rp0s (by rw [← HM1.out]; exact HLT.out) HN.out (e := 9) HME.out (by decide))
     have HR := hx hR
     clear hR
     go_wp2
     go_ret2
     exact ⟨by rw [HR.out]; rfl, E4.out⟩
    | true =>
     have h0 : mapE (M.getD k default) = 0 := HME.out
     have H0 := hx h0
     clear h0
     go_wp2
     go_roundw
     case rel => exact ⟨k + 1, HLT.out, by go_num, by first | exact O4.out | simpa using O4.out, (fun j hj => (Nat.lt_succ_iff_lt_or_eq.1 hj).elim (HN.out j) (fun h => by rw [h]; exact H0.out)), R4.out, hsz4, E4.out⟩
     case measure => simp [RowKit.intOf]; omega
  ·obtain rfl : m1 = k := by omega
   have hln : ((M.take m1).map (·.name)).length = m1 := by rw [List.length_map, List.length_take, ← HM1.out]; omega
   rw [hln] at os ⊢
   clear hln
   rw [List.take_of_length_le (by rw [← HM1.out]; exact Nat.le_refl _)] at os
   have HR1 := hx (HPC.out.trans (rp0n (L := L) (by rw [← HM1.out]; exact HN.out)))
   have hnl : (M.map (·.name)).length ≤ 1000000 := by rw [List.length_map, ← HM1.out]; exact hm1b
   have hns := os.read HDN.out (by omega)
   have HNL := hx hnl
   have HNS := hx hns
   have q1 := hr.cell (i := 1) rfl
   have he1 := he
   obtain ⟨wq, hwq⟩ : ∃ wq, wq = wr := ⟨_, rfl⟩
   rw [← hwq] at HNS hr he1 hsz q0 q1 ⊢
   clear he hwq
   clear hlt hk HN os hnl hns HPC
   go_wp2
   clear q0 q1
   go_loopw [6] (fun i wr => ∃ k : Nat, k ≤ m ∧ i = .int .i64 (k : Nat) ∧ (∀ j, j < k → stmtE (L.getD j default) = 0) ∧ Ext wq wr) (fun i _ => m - (RowKit.intOf i).toNat)
   case atStart => exact ⟨0, by omega, rfl, (by intro j hj; omega), Ext.refl _⟩
   case round =>
    obtain ⟨k, hk, rfl, hn, he2⟩ := hrel
    have HN := hx hn
    clear hn
    have q1 := (hr.ext he2).cell (i := 1) rfl
    have q0 := (hr.ext he2).cell (i := 0) rfl
    have hew := he1.trans he2
    by_cases hlt : k < m
    ·obtain ⟨x, hx0⟩ : ∃ x, L[k]? = some x := ⟨_, List.getElem?_eq_getElem (by have := HM.out; omega)⟩
     have hg : L.getD k default = x := by rw [List.getD_eq_getElem?_getD, hx0]; rfl
     obtain ⟨b, o, hAA, vl, d0, dl, ⟨d1, d2, d3, d4, d5, d6⟩, dok, ⟨d7, d7'⟩, d8, d8'⟩ := (IsStmts.ext hv hew).get hx0
     subst hAA
     obtain ⟨Al, cl, rfl, -, -, dl'⟩ := dl.form
     have hkm : (k : Int) < (m : Int) := by omega
     have hst := refStmt_any Al cl x _ dl' dok d7' d8'
     have HG := hx (congrArg stmtE hg)
     have HLT := hx hlt
     have HEW := hx hew
     have HE2 := hx he2
     unfold StV at hst
     obtain ⟨labels, ⟨op, reg, n1', n2', n3', n4'⟩, tt, tm⟩ := x
     dsimp only at *
     generalize labels.length = ll at *
     generalize stmtE ⟨labels, ⟨op, reg, n1', n2', n3', n4'⟩, tt, tm⟩ = SE at *
     have HST := hx hst
     clear hst hg hx0 dl dl' dok d7' d8' hew he2 hlt
     go_wp2_with fail
     refine HST.out.mono ?_
     rintro e w3 ⟨rfl, e3⟩
     have Y := hx (HE2.out.trans e3)
     have YW := hx (HEW.out.trans e3)
     clear e3 d0 d1 d2 d3 d4 d5 d6 d7 d8 q0 q1
     by_cases hz : SE = 0
     ·subst hz
      go_wp2
      go_roundw
      case rel => exact ⟨k + 1, HLT.out, by go_num, (fun j hj => (Nat.lt_succ_iff_lt_or_eq.1 hj).elim (HN.out j) (fun h => by rw [h, HG.out])), Y.out⟩
      case measure => simp [RowKit.intOf]; omega
     ·have hz' : (SE != 0) = true := by simpa using hz
      have HR := hx (HR1.out.trans (rp1s (by rw [← HM.out]; exact HLT.out) HN.out HG.out hz))
      clear hz
      go_wp2
      go_ret2
      exact ⟨by rw [HR.out]; rfl, YW.out⟩
    ·obtain rfl : m = k := by omega
     have HR2 := hx (HR1.out.trans (rp1n (M := M) (by rw [← HM.out]; exact HN.out)))
     clear hlt hk HN HR1
     by_cases h255 : 255 < m1
     ·have hb : decide ((m1 : Int) > 255) = true := decide_eq_true (by omega)
      have HR := hx (HR2.out.trans (rp2s (L := L) (by rw [← HM1.out]; exact h255)))
      have HEW := hx hew
      clear h255 he2 hew
      go_wp2
      go_ret2
      exact ⟨by rw [HR.out]; rfl, HEW.out⟩
     ·have hb : decide ((m1 : Int) > 255) = false := decide_eq_false (by omega)
      have HR3 := hx (HR2.out.trans (rp2n (L := L) (by rw [← HM1.out]; exact h255)))
      have HREP := hx (ref02_Repeated_any _ (namesL M) _ HNL.out (IsStrs.ext HNS.out he2))
      have HEW := hx hew
      have HRW := hx (hr.ext he2)
      have hrb := repN_bd (namesL M)
      have hRl : (namesL M).length = m1 := by unfold namesL; rw [List.length_map]; exact HM1.out.symm
      rw [hRl] at hrb
      generalize hRN : repN (namesL M) = RN at *
      have HRN := hx hRN
      clear h255 he2 hew HR2 hRN hRl
      go_wp2_with fail
      refine HREP.out.mono ?_
      rintro e w3 ⟨rfl, e3⟩
      have E3 := hx (HEW.out.trans e3)
      have R3 := hx (HRW.out.ext e3)
      clear e3 q0 q1
      have q0 := R3.out.cell (i := 0) rfl
      have q1 := R3.out.cell (i := 1) rfl
      by_cases hrep : 0 ≤ RN
      ·have hb2 : decide (RN ≥ 0) = true := decide_eq_true hrep
       have HR := hx (HR3.out.trans (rp3s (L := L) (by rw [HRN.out]; exact hrep)))
       rw [HRN.out] at HR
       clear hrep hrb
       go_wp2
       go_ret2
       exact ⟨by rw [HR.out]; rfl, E3.out⟩
      ·have hb2 : decide (RN ≥ 0) = false := decide_eq_false hrep
       have HR4 := hx (HR3.out.trans (rp3n (L := L) (by rw [HRN.out]; exact hrep)))
       clear hrep HR3 hrb
       go_wp2_with fail
       refine (HLB.out _ E3.out).mono ?_
       rintro e w4 ⟨v1, v2, rfl, i1, i2, e4⟩
       obtain ⟨B1, b1, rfl, -, -, i1'⟩ := i1.form
       obtain ⟨B2, b2, rfl, -, -, i2'⟩ := i2.form
       have HREP2 := hx (ref02_Repeated_any _ (flat L) w4 HFL.out i1')
       have hrb := repN_bd (flat L)
       have hfa := flatAt_length L 0
       rw [hfa] at i2' ⊢
       generalize hRN : repN (flat L) = RM at *
       have HRM := hx hRN
       have hflb := HFL.out
       generalize (flat L).length = FL at *
       have HI2 := hx i2'
       have E4 := hx (E3.out.trans e4)
       have R4 := hx (R3.out.ext e4)
       clear i1 i2 i1' i2' e4 q0 q1 hfa hRN
       go_wp2_with fail
       refine HREP2.out.mono ?_
       rintro e w5 ⟨rfl, e5⟩
       have hi5 := IsInts.ext HI2.out e5
       have E5 := hx (E4.out.trans e5)
       have R5 := hx (R4.out.ext e5)
       clear e5
       have q1 := R5.out.cell (i := 1) rfl
       by_cases hrep : 0 ≤ RM
       ·have hb3 : decide (RM ≥ 0) = true := decide_eq_true hrep
        obtain ⟨r, rfl⟩ := Int.eq_ofNat_of_zero_le hrep
        obtain ⟨y, hy⟩ : ∃ y, (flatAt 0 L)[r]? = some y := ⟨_, List.getElem?_eq_getElem (by have := hi5.form; obtain ⟨_, _, h1, _⟩ := this; injection h1 with _ h1; omega)⟩
        obtain ⟨by', oy, rfl, d1, -⟩ := hi5.get hy
        rw [Nat.mul_one] at d1
        have HR := hx (HR4.out.trans (rp4s (M := M) HRM.out))
        have hyd : (flatAt 0 L).getD r 0 = y := by rw [List.getD_eq_getElem?_getD, hy]; rfl
        rw [hyd] at HR
        have hrl : (r : Int) < (FL : Int) := by omega
        clear hrep hi5 hy hyd hrb
        go_wp2
        go_ret2
        exact ⟨by rw [HR.out]; rfl, E5.out⟩
       ·have hb3 : decide (RM ≥ 0) = false := decide_eq_false hrep
        have HR5 := hx (HR4.out.trans (rp4n (M := M) (by rw [HRM.out]; exact hrep)))
        clear hrep HR4 hi5 hrb hflb
        by_cases hm0 : m = 0
        ·have hb4 : ((m : Int) == 0) = true := by simp; omega
         have HR := hx (HR5.out.trans (rp5s (M := M) (by rw [← HM.out]; exact hm0)))
         clear hm0
         go_wp2
         go_ret2
         exact ⟨by rw [HR.out]; rfl, E5.out⟩
        ·have hb4 : ((m : Int) == 0) = false := by simp; omega
         have HR6 := hx (HR5.out.trans (rp5n (M := M) (by rw [← HM.out]; exact hm0)))
         have hm0' : 0 < m := by omega
         have HM0 := hx hm0'
         have xr5 := Ext.refl w5
         clear hm0 HR5 hm0'
         go_wp2
         clear q1
         go_loopw [11] (fun i wr => ∃ k : Nat, k ≤ m ∧ i = .int .i64 (k : Nat) ∧ (∀ j, j < k → undB L (emS :: namesL M) (L.getD j default) = false) ∧ Ext w5 wr) (fun i _ => m - (RowKit.intOf i).toNat)
         case atStart => exact ⟨0, by omega, rfl, (by intro j hj; omega), xr5⟩
         case round =>
          clear xr5
          obtain ⟨k, hk, rfl, hn, he2⟩ := hrel
          have HN := hx hn
          clear hn
          have hew := E5.out.trans he2
          have q1 := (R5.out.ext he2).cell (i := 1) rfl
          by_cases hlt : k < m
          ·obtain ⟨x, hx0⟩ : ∃ x, L[k]? = some x := ⟨_, List.getElem?_eq_getElem (by have := HM.out; omega)⟩
           have hg : L.getD k default = x := by rw [List.getD_eq_getElem?_getD, hx0]; rfl
           obtain ⟨b, o, hAA, vl, d0, dl, ⟨d1, d2, d3, d4, d5, d6⟩, dok, ⟨d7, d7'⟩, d8, d8'⟩ := (IsStmts.ext hv hew).get hx0
           subst hAA
           obtain ⟨Al, cl, rfl, -, -, -⟩ := dl.form
           have hkm : (k : Int) < (m : Int) := by omega
           have hun : undB L (emS :: namesL M) (L.getD k default) = ((neS x.target && !(labAt L x.target).isSome) || !(inL (emS :: namesL M) x.map)) := by rw [hg]; rfl
           have HUN := hx hun
           have HLT := hx hlt
           have eN := Ext.new wr (.cells (stL Al x.labels.length cl x).toArray 55)
           have rS := RowV.new wr (stL Al x.labels.length cl x) 55
           have E6 := hx (hew.trans eN)
           have X6 := hx (he2.trans eN)
           have R6 := hx (R5.out.ext (he2.trans eN))
           obtain ⟨labels, ⟨op, reg, n1', n2', n3', n4'⟩, tt, tm⟩ := x
           simp only [stL] at *
           generalize labels.length = ll at *
           have RS := hx rS
           have p0 := R6.out.cell (i := 0) rfl
           have p1 := R6.out.cell (i := 1) rfl
           clear hun hg hx0 dl dok d7' d8' hlt he2 hew eN rS
           by_cases htt : tt = emS
           ·subst htt
            have u1 := em_list
            have u2 := em_isE
            have HNE := hx (show neS emS = false by simp [neS])
            by_cases hmm : tm = emS
            ·subst hmm
             have u3 := em_list
             have u4 := em_isE
             have hin : inL (emS :: namesL M) emS = true := inL_hit (k := 0) rfl
             have HIN := hx hin
             clear hin
             have hu : undB L (emS :: namesL M) (L.getD k default) = false := by rw [HUN.out]; simp [HNE.out, HIN.out]
             have HU := hx hu
             clear hu
             go_wp2
             go_roundw
             case rel => exact ⟨k + 1, HLT.out, by go_num, (fun j hj => (Nat.lt_succ_iff_lt_or_eq.1 hj).elim (HN.out j) (fun h => by rw [h]; exact HU.out)), X6.out⟩
             case measure => simp [RowKit.intOf]; omega
            ·have u3 := ne_list hmm
             have u4 := ne_isE hmm
             have hin : inL (emS :: namesL M) tm = inL (namesL M) tm := by
              unfold inL
              rw [List.any_cons, decide_eq_false (fun e => hmm e.symm), Bool.false_or]
             have HIN := hx hin
             clear hmm hin
             go_wp2_with fail
             refine (HMA.out tm _ E6.out).mono ?_
             rintro e w7 ⟨rfl, e7⟩
             have E7 := hx (E6.out.trans e7)
             have X7 := hx (X6.out.trans e7)
             clear e7
             by_cases hmx : mapX M tm < 0
             ·have b7 : decide (mapX M tm < 0) = true := decide_eq_true hmx
              have HMX := hx (mapX_in ▸ hmx : inL (namesL M) tm = false)
              clear hmx
              have hu : undB L (emS :: namesL M) (L.getD k default) = true := by rw [HUN.out]; simp [HNE.out, HIN.out, HMX.out]
              have HR := hx (HR6.out.trans (rp6s (by rw [← HM.out]; exact HLT.out) HN.out hu))
              clear hu
              go_wp2
              go_ret2
              exact ⟨by rw [HR.out]; rfl, E7.out⟩
             ·have b7 : decide (mapX M tm < 0) = false := decide_eq_false hmx
              have HMX := hx (show inL (namesL M) tm = true by
               cases h : inL (namesL M) tm with
               | true => rfl
               | false => exact absurd (mapX_in ▸ h : mapX M tm < 0) hmx)
              clear hmx
              have hu : undB L (emS :: namesL M) (L.getD k default) = false := by rw [HUN.out]; simp [HNE.out, HIN.out, HMX.out]
              have HU := hx hu
              clear hu
              go_wp2
              go_roundw
              case rel => exact ⟨k + 1, HLT.out, by go_num, (fun j hj => (Nat.lt_succ_iff_lt_or_eq.1 hj).elim (HN.out j) (fun h => by rw [h]; exact HU.out)), X7.out⟩
              case measure => simp [RowKit.intOf]; omega
           ·have u1 := ne_list htt
            have u2 := ne_isE htt
            have HNE := hx (show neS tt = true by simp [neS, htt])
            clear htt
            go_wp2_with fail
            refine (HLA.out tt _ E6.out).mono ?_
            rintro e w6 ⟨rfl, e6⟩
            have r6 := RS.out.ext e6
            have t8 := r6.cell (i := 8) rfl
            have rp6 := R6.out.ext e6
            have E6b := hx (E6.out.trans e6)
            have X6b := hx (X6.out.trans e6)
            clear d0 d1 d2 d3 d4 d5 d6 d7 d8 p0 p1 q1
            have p0 := rp6.cell (i := 0) rfl
            have p1 := rp6.cell (i := 1) rfl
            clear r6 rp6 e6
            by_cases hlx : labX L tt < 0
            ·have b6 : decide (labX L tt < 0) = true := decide_eq_true hlx
             have HLS := hx (labX_lt L tt ▸ hlx : (labAt L tt).isSome = false)
             clear hlx
             have hu : undB L (emS :: namesL M) (L.getD k default) = true := by rw [HUN.out]; simp [HNE.out, HLS.out]
             have HR := hx (HR6.out.trans (rp6s (by rw [← HM.out]; exact HLT.out) HN.out hu))
             clear hu
             go_wp2
             go_ret2
             exact ⟨by rw [HR.out]; rfl, E6b.out⟩
            ·have b6 : decide (labX L tt < 0) = false := decide_eq_false hlx
             have HLS := hx (show (labAt L tt).isSome = true by
              cases h : (labAt L tt).isSome with
              | true => rfl
              | false => exact absurd (labX_lt L tt ▸ h : labX L tt < 0) hlx)
             clear hlx
             by_cases hmm : tm = emS
             ·subst hmm
              have u3 := em_list
              have u4 := em_isE
              have hin : inL (emS :: namesL M) emS = true := inL_hit (k := 0) rfl
              have HIN := hx hin
              clear hin
              have hu : undB L (emS :: namesL M) (L.getD k default) = false := by rw [HUN.out]; simp [HNE.out, HLS.out, HIN.out]
              have HU := hx hu
              clear hu
              go_wp2
              go_roundw
              case rel => exact ⟨k + 1, HLT.out, by go_num, (fun j hj => (Nat.lt_succ_iff_lt_or_eq.1 hj).elim (HN.out j) (fun h => by rw [h]; exact HU.out)), X6b.out⟩
              case measure => simp [RowKit.intOf]; omega
             ·have u3 := ne_list hmm
              have u4 := ne_isE hmm
              have hin : inL (emS :: namesL M) tm = inL (namesL M) tm := by
               unfold inL
               rw [List.any_cons, decide_eq_false (fun e => hmm e.symm), Bool.false_or]
              have HIN := hx hin
              clear hmm hin
              go_wp2_with fail
              refine (HMA.out tm _ E6b.out).mono ?_
              rintro e w7 ⟨rfl, e7⟩
              have E7 := hx (E6b.out.trans e7)
              have X7 := hx (X6b.out.trans e7)
              clear e7
              by_cases hmx : mapX M tm < 0
              ·have b7 : decide (mapX M tm < 0) = true := decide_eq_true hmx
               have HMX := hx (mapX_in ▸ hmx : inL (namesL M) tm = false)
               clear hmx
               have hu : undB L (emS :: namesL M) (L.getD k default) = true := by rw [HUN.out]; simp [HNE.out, HLS.out, HIN.out, HMX.out]
               have HR := hx (HR6.out.trans (rp6s (by rw [← HM.out]; exact HLT.out) HN.out hu))
               clear hu
               go_wp2
               go_ret2
               exact ⟨by rw [HR.out]; rfl, E7.out⟩
              ·have b7 : decide (mapX M tm < 0) = false := decide_eq_false hmx
               have HMX := hx (show inL (namesL M) tm = true by
                cases h : inL (namesL M) tm with
                | true => rfl
                | false => exact absurd (mapX_in ▸ h : mapX M tm < 0) hmx)
               clear hmx
               have hu : undB L (emS :: namesL M) (L.getD k default) = false := by rw [HUN.out]; simp [HNE.out, HLS.out, HIN.out, HMX.out]
               have HU := hx hu
               clear hu
               go_wp2
               go_roundw
               case rel => exact ⟨k + 1, HLT.out, by go_num, (fun j hj => (Nat.lt_succ_iff_lt_or_eq.1 hj).elim (HN.out j) (fun h => by rw [h]; exact HU.out)), X7.out⟩
               case measure => simp [RowKit.intOf]; omega
          ·obtain rfl : m = k := by omega
           have HR7 := hx (HR6.out.trans (rp6n (M := M) (by rw [← HM.out]; exact HN.out)))
           have X3 := hx he2
           clear hlt hk HN HR6 he2 hew
           go_wp2
           clear q1
           go_loopw [13] (fun i wr => ∃ k : Nat, k ≤ m ∧ i = .int .i64 (k : Nat) ∧ (∀ j, j < k → (writesX (L.getD j default).ins == 10) = false) ∧ Ext w5 wr) (fun i _ => m - (RowKit.intOf i).toNat)
           case atStart => exact ⟨0, by omega, rfl, (by intro j hj; omega), X3.out⟩
           case round =>
            obtain ⟨k, hk, rfl, hn, he2⟩ := hrel
            have HN := hx hn
            clear hn
            have hew := E5.out.trans he2
            have q1 := (R5.out.ext he2).cell (i := 1) rfl
            by_cases hlt : k < m
            ·obtain ⟨x, hx0⟩ : ∃ x, L[k]? = some x := ⟨_, List.getElem?_eq_getElem (by have := HM.out; omega)⟩
             have hg : L.getD k default = x := by rw [List.getD_eq_getElem?_getD, hx0]; rfl
             obtain ⟨b, o, hAA, vl, d0, dl, ⟨d1, d2, d3, d4, d5, d6⟩, dok, -, -, -⟩ := (IsStmts.ext hv hew).get hx0
             subst hAA
             have hkm : (k : Int) < (m : Int) := by omega
             have HJ := hx (ref04Writes_any x.ins wr dok)
             have hwx : (writesX (L.getD k default).ins == 10) = (writesX x.ins == 10) := by rw [hg]
             have HWX := hx hwx
             have HLT := hx hlt
             have HEW := hx hew
             have HE2 := hx he2
             obtain ⟨labels, ⟨op, reg, n1', n2', n3', n4'⟩, tt, tm⟩ := x
             unfold Ins.v at HJ
             dsimp only at *
             generalize writesX ⟨op, reg, n1', n2', n3', n4'⟩ = WX at *
             clear hwx hg hx0 dl dok hlt he2 hew d0
             go_wp2_with fail
             refine HJ.out.mono ?_
             rintro e w6 ⟨rfl, e6⟩
             have Y := hx (HE2.out.trans e6)
             have YW := hx (HEW.out.trans e6)
             clear e6 d1 d2 d3 d4 d5 d6 q1
             by_cases hw : WX = 10
             ·subst hw
              have HR := hx (HR7.out.trans (rp7s (M := M) (by rw [← HM.out]; exact HLT.out) HN.out HWX.out))
              go_wp2
              go_ret2
              exact ⟨by rw [HR.out]; rfl, YW.out⟩
             ·have hwb : (WX == 10) = false := by simpa using hw
              have HWB := hx (HWX.out.trans hwb)
              clear hw
              go_wp2
              go_roundw
              case rel => exact ⟨k + 1, HLT.out, by go_num, (fun j hj => (Nat.lt_succ_iff_lt_or_eq.1 hj).elim (HN.out j) (fun h => by rw [h]; exact HWB.out)), Y.out⟩
              case measure => simp [RowKit.intOf]; omega
            ·obtain rfl : m = k := by omega
             have HR8 := hx (HR7.out.trans (rp7n (M := M) (by rw [← HM.out]; exact HN.out)))
             have hm0 := HM0.out
             obtain ⟨i, hi⟩ : ∃ i, m = i + 1 := ⟨m - 1, by omega⟩
             have hkl : L.length = i + 1 := by rw [← hi]; exact HM.out.symm
             obtain ⟨x, hx0⟩ : ∃ x, L[i]? = some x := ⟨_, List.getElem?_eq_getElem (by omega)⟩
             have hg : L.getD i default = x := by rw [List.getD_eq_getElem?_getD, hx0]; rfl
             obtain ⟨b, o, hAA, vl, d0, dl, ⟨d1, d2, d3, d4, d5, d6⟩, dok, -, -, -⟩ := (IsStmts.ext hv hew).get hx0
             subst hAA
             have hw1 : wrap64 (i : Int) = (i : Int) := by unfold wrap64; omega
             have hk1 : (m : Int) - 1 = (i : Int) := by omega
             have hkm : (i : Int) < (m : Int) := by omega
             have hF := refForm_any x.ins.op wr dok.op
             rw [← formN_eq] at hF
             have hex : endsX (L.getD i default).ins = decide (formN x.ins.op = 3 ∨ formN x.ins.op = 6) := by rw [hg]; rfl
             have HEX := hx hex
             have HKL := hx hkl
             have HEW := hx hew
             obtain ⟨labels, ⟨op, reg, n1', n2', n3', n4'⟩, tt, tm⟩ := x
             dsimp only at *
             generalize formN op = F at *
             have HF := hx hF
             clear hF hex hkl hi hx0 hg dl dok hlt hk HN HR7 he2 hew hm0 d0 d2 d3 d4 d5 d6 hm1l hml hm1b
             by_cases h3 : F = 3
             ·subst h3
              have HR := hx (HR8.out.trans (rp8n (M := M) HKL.out (by rw [HEX.out]; rfl)))
              go_wp2_with fail
              refine HF.out.mono ?_
              rintro e w6 ⟨rfl, rfl⟩
              go_wp2
              go_ret2
              exact ⟨by rw [HR.out]; rfl, HEW.out⟩
             ·have h3b : (F != 3) = true := by simpa using h3
              by_cases h6 : F = 6
              ·subst h6
               have HR := hx (HR8.out.trans (rp8n (M := M) HKL.out (by rw [HEX.out]; rfl)))
               clear h3 h3b
               go_wp2_with fail
               refine HF.out.mono ?_
               rintro e w6 ⟨rfl, rfl⟩
               go_wp2
               go_ret2
               exact ⟨by rw [HR.out]; rfl, HEW.out⟩
              ·have h6b : (F != 6) = true := by simpa using h6
               have HR := hx (HR8.out.trans (rp8s (M := M) HKL.out (by rw [HEX.out]; exact decide_eq_false (by omega))))
               clear h3 h6
               go_wp2_with fail
               refine HF.out.mono ?_
               rintro e w6 ⟨rfl, rfl⟩
               go_wp2
               go_ret2
               exact ⟨by rw [HR.out]; rfl, HEW.out⟩
end Go.Proofs.YtmnbalbiehlkpaaGreatDoor
