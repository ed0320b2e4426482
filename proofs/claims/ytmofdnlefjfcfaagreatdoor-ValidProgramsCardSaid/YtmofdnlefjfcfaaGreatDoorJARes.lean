/- The layer asm: Resolve. -/
import Derived.Test.YtmofdnlefjfcfaaGreatDoorJResR
import Derived.Test.YtmofdnlefjfcfaaGreatDoorJOwnSt
import Derived.Deep.DeepCutAuto
import Derived.BigRegion
import Derived.Test.YtmofdnlefjfcfaaGreatDoorJJoinR
import Derived.Test.YtmofdnlefjfcfaaGreatDoorJPDec
import Derived.WalkMore
import Derived.Deep.LoopGhost
import Derived.Test.YtmofdnlefjfcfaaGreatDoorJBoxC
set_option linter.unusedVariables false
set_option linter.unusedSimpArgs false
namespace Go.Proofs.YtmofdnlefjfcfaaGreatDoor
open Go.RowKit Go.Lib

theorem enA1 : ∀ args W, (callFunc 52 args).run Tryz.prog W = .ok (.enter 52 args) W := fun _ _ => by kernel_rfl
theorem enA2 : ∀ args W, (callFunc 55 args).run Tryz.prog W = .ok (.enter 55 args) W := fun _ _ => by kernel_rfl
theorem enA3 : ∀ args W, (callFunc 59 args).run Tryz.prog W = .ok (.enter 59 args) W := fun _ _ => by kernel_rfl
theorem resE_run (M : List Def) (L : List Stmt) : firstP [pchk M L, smR L, nearR L] = resE M L := by
 unfold resE
 rw [firstP]
 by_cases h : (pchk M L).2 = 0
 ·rw [if_pos h, if_pos h, firstP]
  unfold smR nearR
  cases h1 : fstB (szBad L) L.length with
  | some i => rfl
  | none =>
   cases h2 : fstB (farBad L) L.length with
   | some i => rfl
   | none => rfl
 ·rw [if_neg h, if_neg h]
theorem resE_z {M : List Def} {L : List Stmt} (h : (resE M L).2 = 0) : resE M L = (0, 0) := by
 by_cases h1 : (pchk M L).2 = 0
 ·cases h2 : fstB (szBad L) L.length with
  | some i => rw [resE_size h1 h2] at h; exact absurd (show (16 : Int) = 0 from h) (by decide)
  | none =>
   cases h3 : fstB (farBad L) L.length with
   | some i => rw [resE_far h1 h2 h3] at h; exact absurd (show (13 : Int) = 0 from h) (by decide)
   | none => exact resE_ok h1 h2 h3
 ·rw [resE_chk h1] at h; exact absurd h h1
set_option maxRecDepth 40000 in
set_option maxHeartbeats 8000000 in
theorem asmResolve_any (A1 A2 : Option Addr) (n1 c1 m c2 : Nat) (M : List Def) (L : List Stmt) (w : World) (hn1 : n1 = M.length) (hl1 : n1 ≤ 100000) (hm : m = L.length) (hml : m ≤ 100000)
  (hd : IsDefs w (.slice A1 n1 c1) M) (hv : IsStmts w (.slice A2 m c2) L) (hfl : (flat L).length ≤ 1000000) (hG : Glob w) (hN : NoneV w) (hO : OpsN w) (hWd : WidN w) :
  Calls Tryz.prog 21 #[.agg #[.slice A1 n1 c1, .slice A2 m c2]] w fun e w' => ∃ v', e = .returned (.tuple #[v', .int .i64 (resE M L).1, .int .i64 (resE M L).2]) ∧ IsIns w' v' (resO M L) ∧ Ext w w' := by
 obtain ⟨W0, hW0⟩ : ∃ W0, W0 = w.alloc (.cells #[.slice A1 n1 c1, .slice A2 m c2] 25) := ⟨_, rfl⟩
 have e0 : Ext w W0 := by rw [hW0]; exact Ext.new w _
 have rP : RowV W0 w.heap.size 25 [.slice A1 n1 c1, .slice A2 m c2] := by rw [hW0]; exact RowV.new _ _ _
 have hs0 : W0.heap.size = w.heap.size + 1 := by rw [hW0]; simp
 have hd0 := IsDefs.ext hd e0
 have hv0 := IsStmts.ext hv e0
 have HCD := layCode_any A1 A2 n1 c1 m c2 L W0 hm (by omega) hv0
 have HS3 := hx fun (W : World) (h : Ext W0 W) => ares3_any w.heap.size A1 A2 n1 c1 m c2 M L W hn1 hl1 hm (by omega) (IsDefs.ext hd0 h) (IsStmts.ext hv0 h) hfl (hG.ext (e0.trans h)) (hN.ext (e0.trans h)) (hO.ext (e0.trans h)) (hWd.ext (e0.trans h)) (rP.ext h)
 have hok := stmts_ok hv
 have hcl : (codeL L).length = m := by rw [codeL_length, hm]
 have HS1 := hx fun (gl gN : Nat) (W : World) (h : Ext W0 W) (hl : IsIns W (.slice (some ⟨gN, 0, none⟩) m m) (codeL L)) (rL : RowV W gl 45 [.slice (some ⟨gN, 0, none⟩) m m]) => ares1_any gl (some ⟨gN, 0, none⟩) m m L W hm (by omega) hl (hO.ext (e0.trans h)) rL
 have HS2 := hx fun (gl gN base : Nat) (W : World) (h : Ext W0 W) (hLI : (pchk M L).2 = 0) (hb : W0.heap.size ≤ base) (hgl : W0.heap.size ≤ gl) (rL : RowV W gl 45 [.slice (some ⟨gN, 0, none⟩) m m]) (oN : OwnN W base (.slice (some ⟨gN, 0, none⟩) m m) (codeL L)) =>
  ares2_any w.heap.size gl gN base A1 A2 n1 c1 m c2 L W0 W hm hml hv0 hfl (hO.ext e0) (hWd.ext e0) (fun j hj hne => lab_in hLI hj hne) rP h hb hgl rL oN
 have HRE := hx (resE_run M L)
 have HRO := hx (show resO M L = if (resE M L).2 = 0 then resL L else [] from rfl)
 have HRZ := hx (show (resE M L).2 = 0 → resE M L = (0, 0) from resE_z)
 have hokr := resX_ok hok hm (by omega)
 have HOKR := hx hokr
 have HOK := hx hok
 have HM := hx hm
 rw [hW0] at HCD
 have HCL := hx hcl
 have HW0 := hx hW0
 have E0 := hx e0
 have HS0 := hx hs0
 clear hs0
 have q0 := rP.cell (i := 0) rfl
 have q1 := rP.cell (i := 1) rfl
 clear hd hv hG hN hO hWd hfl hok hokr hd0 hv0 rP e0 hn1 hW0 hm hcl
 generalize resE M L = RE at *
 generalize resO M L = RO at *
 go_enter Tryz.func21, Tryz.ntmps21
 go_wp2_with fail
 refine HCD.mono ?_
 rintro e w1 ⟨gN, rfl, oN, e1⟩
 rw [← HW0.out] at e1 oN
 have q0' := e1.cell q0
 have q1' := e1.cell q1
 clear HCD q0 q1
 go_upto_region 2 with fail
 obtain ⟨W2, hW2⟩ : ∃ W2, W2 = w1.alloc (.cells #[.slice (some ⟨gN, 0, none⟩) m m] 45) := ⟨_, rfl⟩
 rw [← hW2]
 have x2 : Ext w1 W2 := by rw [hW2]; exact Ext.new w1 _
 have rL : RowV W2 w1.heap.size 45 [.slice (some ⟨gN, 0, none⟩) m m] := by rw [hW2]; exact RowV.new _ _ _
 have oN2 := oN.ext x2
 have e2 := e1.trans x2
 have HGL := hx e1.size
 clear hW2 q0' q1' x2 oN e1
 go_wp2_with fail
 obtain ⟨W3, hW3⟩ : ∃ W3, W3 = W2.alloc (.cells #[.func (.func 59) #[] #[.pointer (some ⟨w.heap.size, 0, none⟩)], .func (.func 52) #[] #[.pointer (some ⟨w1.heap.size, 0, none⟩)], .func (.func 55) #[] #[.pointer (some ⟨w.heap.size, 0, none⟩), .pointer (some ⟨w1.heap.size, 0, none⟩)]] 153) := ⟨_, rfl⟩
 rw [← hW3]
 have x3 : Ext W2 W3 := by rw [hW3]; exact Ext.new W2 _
 have rF : RowV W3 W2.heap.size 153 [.func (.func 59) #[] #[.pointer (some ⟨w.heap.size, 0, none⟩)], .func (.func 52) #[] #[.pointer (some ⟨w1.heap.size, 0, none⟩)], .func (.func 55) #[] #[.pointer (some ⟨w.heap.size, 0, none⟩), .pointer (some ⟨w1.heap.size, 0, none⟩)]] := by rw [hW3]; exact RowV.new _ _ _
 have oN3 := oN2.ext x3
 have rL3 := rL.ext x3
 have e3 := e2.trans x3
 clear hW3 x3 oN2 rL e2
 have hbs : W0.heap.size ≤ W0.heap.size + 1 := by omega
 have hrun := asmRun_any W2.heap.size 3 3 [pchk M L, smR L, nearR L] (fun k W => (k ≤ 2 → Ext W3 W) ∧ (k = 3 → RowV W w1.heap.size 45 [.slice (some ⟨gN, 0, none⟩) m m] ∧ OwnN W (W0.heap.size + 1) (.slice (some ⟨gN, 0, none⟩) m m) (resL L))) (fun W => Ext W0 W) W3 rfl (by decide) e3 ⟨fun _ => Ext.refl _, fun h => absurd h (by decide)⟩
  (fun k r hr hz => by
   match k, hr with
   | 0, hr =>
    obtain rfl := Option.some.inj hr
    intro W hI
    have h := hI.1 (by decide)
    exact ⟨_, _, (rF.ext h).cell (i := 0) rfl, enA3, (HS3.out W (e3.trans h)).mono fun e w' hh => ⟨hh.1, (e3.trans h).trans hh.2, fun _ => ⟨fun _ => h.trans hh.2, fun h => absurd h (by decide)⟩⟩⟩
   | 1, hr =>
    obtain rfl := Option.some.inj hr
    intro W hI
    have h := hI.1 (by decide)
    have hin := Own.read encN_ok (oN3.ext h) (E := EIns) (by rw [HCL.out]; omega) fun x hx b o h => ⟨⟨by simpa using h 0 _ rfl, h 1 _ rfl, h 2 _ rfl, h 3 _ rfl, h 4 _ rfl, h 5 _ rfl⟩, HOK.out x hx⟩
    exact ⟨_, _, (rF.ext h).cell (i := 1) rfl, enA1, (HS1.out w1.heap.size gN W (e3.trans h) hin (rL3.ext h)).mono fun e w' hh => ⟨hh.1, (e3.trans h).trans hh.2, fun _ => ⟨fun _ => h.trans hh.2, fun h => absurd h (by decide)⟩⟩⟩
   | 2, hr =>
    obtain rfl := Option.some.inj hr
    intro W hI
    have h := hI.1 (by decide)
    exact ⟨_, _, (rF.ext h).cell (i := 2) rfl, enA2, (HS2.out w1.heap.size gN (W0.heap.size + 1) W (e3.trans h) (hz _ (by simp)) hbs HGL.out (rL3.ext h) (oN3.ext h)).mono fun e w' hh => ⟨hh.1, hh.2.1, fun hq => ⟨fun h => absurd h (by decide), fun _ => hh.2.2 hq⟩⟩⟩
   | k + 3, hr => simp at hr)
 rw [HRE.out] at hrun
 have HRUN := hx hrun
 clear hrun hbs oN3 rL3 e3 rF HS1 HS2 HS3
 obtain ⟨ra, re⟩ := RE
 dsimp only at *
 refine HRUN.out.mono ?_
 rintro e w4 ⟨rfl, x4, j4⟩
 have X4 := hx (E0.out.trans x4)
 have J4 := hx j4
 clear HRUN x4 j4
 by_cases h0 : re = 0
 ·subst h0
  obtain rfl : ra = 0 := congrArg Prod.fst (HRZ.out (by first | rfl | trivial))
  obtain ⟨r4, o4⟩ := (J4.out (by first | rfl | trivial)).2 rfl
  have HO := hx (show RO = resL L from HRO.out.trans (if_pos rfl))
  have l0 := r4.cell (i := 0) rfl
  clear r4
  have O4 := hx o4
  clear o4
  go_wp2
  refine bodyPost_ret (results_tmp3 rfl _ _ _) rfl ?_
  refine ⟨_, rfl, ?_, X4.out⟩
  rw [HO.out]
  have hlr : (resL L).length = m := by unfold resL; rw [List.length_map, List.length_range, HM.out]
  have hh := Own.read encN_ok O4.out (E := EIns) (by rw [hlr]; omega) fun x hx b o h => ⟨⟨by simpa using h 0 _ rfl, h 1 _ rfl, h 2 _ rfl, h 3 _ rfl, h 4 _ rfl, h 5 _ rfl⟩, HOKR.out x (by rw [HM.out]; exact hx)⟩
  exact hh
 ·have hne : (re != 0) = true := by simpa using h0
  have HO := hx (show RO = [] from HRO.out.trans (if_neg h0))
  clear h0
  go_wp2
  refine bodyPost_ret (results_tmp3 rfl _ _ _) rfl ?_
  exact ⟨_, rfl, by rw [HO.out]; exact Sl.nil _, X4.out⟩
end Go.Proofs.YtmofdnlefjfcfaaGreatDoor


set_option linter.unusedVariables false
set_option linter.unusedSimpArgs false
namespace Go.Proofs.YtmofdnlefjfcfaaGreatDoor
open Go.RowKit

theorem i64_div {y : Int} (h : I64 y) : I64 (y / 256) := by obtain ⟨h1, h2⟩ := h; exact ⟨by omega, by omega⟩
theorem wrap8 (y : Int) : IntKind.u8.wrap y = y % 256 := by simp [IntKind.wrap, IntKind.signed, IntKind.bits]
set_option maxRecDepth 20000 in
set_option maxHeartbeats 4000000 in
theorem putI_any (v : Value) (l : List Int) (base n : Nat) (x : Int) (w : World) (hx0 : I64 x) (hn : n ≤ 8) (ho : AppB w base v l) (hB : base ≤ w.heap.size) (hL : l.length ≤ 100000000) :
  Calls Tryz.prog 96 #[v, .int .i64 x, .int .i64 n] w fun e w' => ∃ v' l', e = .returned v' ∧ Hx (l' = l ++ le n x) ∧ Hx (l'.length = l.length + n) ∧ AppB w' base v' l' ∧ (n ≠ 0 → OwnB w' base v' l') ∧ Grew w w' v v' := by
 go_enter Tryz.func96, Tryz.ntmps96
 go_wp2
 go_loopw [0, 1, 8] (fun s y i wr => ∃ (k : Nat) (y' : Int) (l' : List Int), k ≤ n ∧ i = .int .i64 k ∧ y = .int .i64 y' ∧ I64 y' ∧ AppB wr base s l' ∧ (k ≠ 0 → OwnB wr base s l') ∧ l' ++ le (n - k) y' = l ++ le n x ∧ l'.length = l.length + k ∧ Grew w wr v s)
  (fun _ _ i _ => n - (RowKit.intOf i).toNat)
 case atStart => exact ⟨0, x, l, by omega, rfl, rfl, hx0, ho, fun h => absurd rfl h, rfl, rfl, Grew.refl _ _⟩
 case round =>
  obtain ⟨k, y', l', hk, rfl, rfl, hy0, ho', hok, hle, hl', hG⟩ := hrel
  have HE := hx hle; clear hle
  have HLn := hx hl'; clear hl'
  have hsz := hG.size
  have hl8 : (l'.length + 1) * 1 ≤ 140737488355328 := by have := HLn.out; omega
  have hbs : base ≤ _ := Nat.le_trans hB hsz
  by_cases hlt : k < n
  ·have W4 := hx (i64_div hy0)
   have w6 := wrap8 y'
   have HL8 := hx hl8
   have HBS := hx hbs
   clear hsz hl8 hbs hy0 hx0
   go_wp2_with (first | (at_builtin; refine wp_appF tyB encB_ok ho' (y' % 256) rfl rfl rfl rfl rfl HBS.out (by decide) HL8.out ?_; intro g cap w1 ho1 hg1 hat1 hbg1))
   have hG1 := hG.trans (Grew.mk1 (n := l'.length + 1) (cap := cap) hg1 hat1)
   clear ho' hG hg1 hok
   go_wp2
   go_roundw
   case rel => exact ⟨k + 1, y' / 256, l' ++ [y' % 256], hlt, by simp, rfl, W4.out, .inl ho1, fun _ => ho1, by
    have := HE.out; rw [show n - k = (n - (k + 1)) + 1 by omega, le] at this; simpa using this, by simp [HLn.out, Nat.add_assoc], hG1⟩
   case measure => simp [RowKit.intOf]; omega
  ·obtain rfl : k = n := by omega
   obtain ⟨A, c, rfl⟩ := ho'.slice
   clear hl8 hbs hsz hy0 hx0
   go_wp2
   go_ret
   have h : l' = l ++ le k x := by have := HE.out; simpa [le] using this
   exact ⟨_, l', rfl, ⟨h⟩, ⟨by rw [h]; simp [le_length]⟩, ho', hok, hG⟩
set_option maxRecDepth 20000 in
set_option maxHeartbeats 4000000 in
theorem putL_any (v : Value) (l : List Int) (base n : Nat) (x : Int) (w : World) (hx0 : I64 x) (hn : n ≤ 8) (ho : AppB w base v l) (hB : base ≤ w.heap.size) (hL : l.length ≤ 100000000) :
  Calls Tryz.prog 97 #[v, .int .i64 x, .int .i64 n] w fun e w' => ∃ v' l', e = .returned v' ∧ Hx (l' = l ++ le n x) ∧ Hx (l'.length = l.length + n) ∧ AppB w' base v' l' ∧ (n ≠ 0 → OwnB w' base v' l') ∧ Grew w w' v v' := by
 go_enter Tryz.func97, Tryz.ntmps97
 go_wp2
 go_loopw [0, 1, 8] (fun s y i wr => ∃ (k : Nat) (y' : Int) (l' : List Int), k ≤ n ∧ i = .int .i64 k ∧ y = .int .i64 y' ∧ I64 y' ∧ AppB wr base s l' ∧ (k ≠ 0 → OwnB wr base s l') ∧ l' ++ le (n - k) y' = l ++ le n x ∧ l'.length = l.length + k ∧ Grew w wr v s)
  (fun _ _ i _ => n - (RowKit.intOf i).toNat)
 case atStart => exact ⟨0, x, l, by omega, rfl, rfl, hx0, ho, fun h => absurd rfl h, rfl, rfl, Grew.refl _ _⟩
 case round =>
  obtain ⟨k, y', l', hk, rfl, rfl, hy0, ho', hok, hle, hl', hG⟩ := hrel
  have HE := hx hle; clear hle
  have HLn := hx hl'; clear hl'
  have hsz := hG.size
  have hl8 : (l'.length + 1) * 1 ≤ 140737488355328 := by have := HLn.out; omega
  have hbs : base ≤ _ := Nat.le_trans hB hsz
  by_cases hlt : k < n
  ·have W4 := hx (i64_div hy0)
   have w6 := wrap8 y'
   have HL8 := hx hl8
   have HBS := hx hbs
   clear hsz hl8 hbs hy0 hx0
   go_wp2_with (first | (at_builtin; refine wp_appF tyB encB_ok ho' (y' % 256) rfl rfl rfl rfl rfl HBS.out (by decide) HL8.out ?_; intro g cap w1 ho1 hg1 hat1 hbg1))
   have hG1 := hG.trans (Grew.mk1 (n := l'.length + 1) (cap := cap) hg1 hat1)
   clear ho' hG hg1 hok
   go_wp2
   go_roundw
   case rel => exact ⟨k + 1, y' / 256, l' ++ [y' % 256], hlt, by simp, rfl, W4.out, .inl ho1, fun _ => ho1, by
    have := HE.out; rw [show n - k = (n - (k + 1)) + 1 by omega, le] at this; simpa using this, by simp [HLn.out, Nat.add_assoc], hG1⟩
   case measure => simp [RowKit.intOf]; omega
  ·obtain rfl : k = n := by omega
   obtain ⟨A, c, rfl⟩ := ho'.slice
   clear hl8 hbs hsz hy0 hx0
   go_wp2
   go_ret
   have h : l' = l ++ le k x := by have := HE.out; simpa [le] using this
   exact ⟨_, l', rfl, ⟨h⟩, ⟨by rw [h]; simp [le_length]⟩, ho', hok, hG⟩
end Go.Proofs.YtmofdnlefjfcfaaGreatDoor


set_option linter.unusedVariables false
set_option linter.unusedSimpArgs false
namespace Go.Proofs.YtmofdnlefjfcfaaGreatDoor
open Go.RowKit

abbrev bts16 : Array Value := #[.int .u8 0, .int .u8 0, .int .u8 0, .int .u8 0, .int .u8 0, .int .u8 0, .int .u8 0, .int .u8 0, .int .u8 0, .int .u8 0, .int .u8 0, .int .u8 0, .int .u8 0, .int .u8 0, .int .u8 0, .int .u8 0]
theorem make16 (W : World) : (Instr.makeSlice 28 (.int .i64 0) (.int .i64 16)).run Tryz.prog W = .ok (.slice (some ⟨W.heap.size, 0, none⟩) 0 16) (W.alloc (.cells #[.int .u8 0, .int .u8 0, .int .u8 0, .int .u8 0, .int .u8 0, .int .u8 0, .int .u8 0, .int .u8 0, .int .u8 0, .int .u8 0, .int .u8 0, .int .u8 0, .int .u8 0, .int .u8 0, .int .u8 0, .int .u8 0] 5)) := by
 have hi : (Tryz.prog.info? 5).map (fun i => (i.zero, i.size, i.bytes)) = some (some (.int .u8 0), 1, 1) := by kernel_rfl
 obtain ⟨i, hi1, hi2⟩ := Option.map_eq_some_iff.1 hi
 simp only [Prod.mk.injEq] at hi2
 obtain ⟨hz, hs, hb⟩ := hi2
 have h := run_make (P := Tryz.prog) W 28 5 i _ Tryz.underlying28 hi1 hz .i64 .i64 0 16 (by decide) (by decide) (by rw [hb]; decide) (by decide)
 rw [hs, show madeCells (Value.cells (.int .u8 0)) (Int.toNat 16 * 1) = bts16 by kernel_rfl] at h
 exact h
abbrev cel16 (CD V : Int) : Array Value := #[.int .u8 CD, .int .u8 V, .int .u8 0, .int .u8 0, .int .u8 0, .int .u8 0, .int .u8 0, .int .u8 0, .int .u8 0, .int .u8 0, .int .u8 0, .int .u8 0, .int .u8 0, .int .u8 0, .int .u8 0, .int .u8 0]
theorem own16 {W : World} {base g : Nat} {CD V : Int} (h : W.heap[g]? = some (.cells (cel16 CD V) 5 (0, 0))) (hb : base ≤ g) : OwnB W base (.slice (some ⟨g, 0, none⟩) 2 16) [CD, V] :=
 ⟨by simp, .inr ⟨g, 16, cel16 CD V, rfl, hb, h, by simp, by simp [maxLen], by simp, by simp⟩⟩
set_option maxRecDepth 40000 in
set_option maxHeartbeats 8000000 in
theorem slotEnc_any (x : Ins) (w : World) (hx0 : x.Ok) (hO : OpsN w) (hW : WidN w) (hz : insE x = 0) :
  Calls Tryz.prog 60 #[x.v] w fun e w' => ∃ v', e = .returned (.tuple #[v', .int .i64 0]) ∧ OwnB w' w.heap.size v' (encX9 x) ∧ Ext w w' := by
 obtain ⟨W0, hW0⟩ : ∃ W0, W0 = w.alloc (.cells #[.int .i64 x.op, .bool x.reg, .int .i64 x.dst, .int .i64 x.src, .int .i64 x.off, .int .i64 x.imm] 53) := ⟨_, rfl⟩
 have e0 : Ext w W0 := by rw [hW0]; exact Ext.new w _
 have r0 : RowV W0 w.heap.size 53 [.int .i64 x.op, .bool x.reg, .int .i64 x.dst, .int .i64 x.src, .int .i64 x.off, .int .i64 x.imm] := by rw [hW0]; exact RowV.new _ _ _
 have hCK := insnCheck_any x W0 hx0 (hO.ext e0) (hW.ext e0)
 rw [hz] at hCK
 have HC := hx fun (W : World) (h : Ext w W) => opCode_any x.op x.reg W hx0.op (hO.ext h)
 have HF := hx fun (W : World) (h : Ext w W) => opFixed_any x.op W hx0.op (hO.ext h)
 have HS := hx fun (W : World) (h : Ext w W) => insnSlots_any x.op W hx0.op (hO.ext h)
 have hok := insE_zero hz
 have hf := fixN_bd x.op
 obtain ⟨z1, z2, z3⟩ := fix_zero hok
 have hd := regOk_bd hok.dst
 have hs := regOk_bd hok.src
 have ho := fits16_bd hok.off
 have hi := hx0.imm
 have h12 := slotsN_of hok.form
 have hen : encX9 x = (if slotsN x.op = 2 then (([(codeN x.op x.reg).1, (16 * ((fixN x.op).1 + x.src) + x.dst) % 256] ++ le 2 ((fixN x.op).2.1 + x.off) ++ le 4 ((fixN x.op).2.2 + x.imm)) ++ le 4 0) ++ le 4 (x.imm / 4294967296) else [(codeN x.op x.reg).1, (16 * ((fixN x.op).1 + x.src) + x.dst) % 256] ++ le 2 ((fixN x.op).2.1 + x.off) ++ le 4 ((fixN x.op).2.2 + x.imm)) := rfl
 rw [hen]
 unfold Ins.v at *
 obtain ⟨op, reg, n1, n2, n3, n4⟩ := x
 dsimp only at *
 rw [hW0] at hCK
 have HCK := hx hCK
 have HW0 := hx hW0
 generalize (codeN op reg).1 = CD at *
 generalize (codeN op reg).2 = CB at *
 generalize (fixN op).1 = f1 at *
 generalize (fixN op).2.1 = f2 at *
 generalize (fixN op).2.2 = f3 at *
 generalize slotsN op = sl at *
 have hi' : I64 n4 := hi
 obtain ⟨hi0, hi1⟩ := hi
 have i4 : I64 (f3 + n4) := by rcases z3 with h | h <;> rw [h] <;> exact ⟨by omega, by omega⟩
 have a1 : bits BinOp.or IntKind.i64 n2 f1 = f1 + n2 := bits_or_zero ⟨by omega, by omega⟩ ⟨by omega, by omega⟩ z1
 have a2 : wrap64 ((f1 + n2) * 16) = 16 * (f1 + n2) := by rw [Int.mul_comm]; exact wrapI _ (by omega) (by omega)
 have a3 : bits BinOp.or IntKind.i64 (16 * (f1 + n2)) n1 = 16 * (f1 + n2) + n1 := bits_or_16 (by omega) (by omega)
 have a4 : bits BinOp.or IntKind.i64 n3 f2 = f2 + n3 := bits_or_zero ⟨by omega, by omega⟩ ⟨by omega, by omega⟩ z2
 have a5 : bits BinOp.or IntKind.i64 n4 f3 = f3 + n4 := bits_or_zero hi' ⟨by omega, by omega⟩ z3
 have a6 := wrap8 (16 * (f1 + n2) + n1)
 have I2 := hx (show I64 (f2 + n3) from ⟨by omega, by omega⟩)
 have I4 := hx i4
 have I5 := hx (show I64 (n4 / 4294967296) from ⟨by omega, by omega⟩)
 have E0 := hx e0
 have R0 := hx r0
 clear hen hok hf z1 z2 z3 hd hs ho hi0 hi1 hi' i4 hCK hW0 e0 r0 hx0 hO hW hz
 go_enter Tryz.func60, Tryz.ntmps60
 go_wp2_with fail
 refine HCK.out.mono ?_
 rintro e w1 ⟨rfl, e1⟩
 rw [← HW0.out] at e1
 have r1 := R0.out.ext e1
 have x1 := E0.out.trans e1
 have k0 := r1.cell (i := 0) rfl
 have k1 := r1.cell (i := 1) rfl
 clear HCK
 go_wp2_with fail
 refine (HC.out _ x1).mono ?_
 rintro e w2 ⟨rfl, e2⟩
 clear k0 k1
 have r2 := r1.ext e2
 have k0 := r2.cell (i := 0) rfl
 go_wp2_with fail
 refine (HF.out _ (x1.trans e2)).mono ?_
 rintro e w3 ⟨rfl, e3⟩
 clear k0
 have r3 := r2.ext e3
 have k0 := r3.cell (i := 0) rfl
 have k2 := r3.cell (i := 2) rfl
 have k3 := r3.cell (i := 3) rfl
 have k4 := r3.cell (i := 4) rfl
 have k5 := r3.cell (i := 5) rfl
 have E3 := hx (x1.trans (e2.trans e3))
 clear r1 e1 e2 e3 r2 x1
 go_upto_region 6 with fail
 go_cut [10] (fun s10 wx => ∃ B, s10 = .slice (some ⟨B, 0, none⟩) 2 16 ∧ OwnB wx (w.heap.size + 1) (.slice (some ⟨B, 0, none⟩) 2 16) [CD, (16 * (f1 + n2) + n1) % 256] ∧ Ext w wx ∧ Ext w3 wx)
 case first =>
  have hmk := make16
  have k2' := fun o : Obj => (Ext.new w3 o).cell k2
  have k3' := fun o : Obj => (Ext.new w3 o).cell k3
  have hsz3 : w.heap.size + 1 ≤ w3.heap.size := by have := r3.lt; omega
  go_region
  ·go_wp2
   go_meet
   refine ⟨_, rfl, own16 (g := w3.heap.size) ?_ hsz3, (((E3.out.alloc _).alloc _).drew), (((Ext.refl w3).alloc _).alloc _).drew⟩
   exact ((Ext.new _ _).drew).obj (heap_alloc_new w3 (.cells (cel16 CD ((16 * (f1 + n2) + n1) % 256)) 5))
  ·go_wp2
   go_meet
   refine ⟨_, rfl, own16 (g := w3.heap.size + 1) ?_ (by omega), (((E3.out.alloc _).alloc _).drew), (((Ext.refl w3).alloc _).alloc _).drew⟩
   have h := heap_alloc_new (w3.alloc (.cells #[.int .u8 CD, .int .u8 ((16 * (f1 + n2) + n1) % 256)] 5)) (.cells (cel16 CD ((16 * (f1 + n2) + n1) % 256)) 5)
   rw [World.size_alloc] at h
   exact h
 case rest =>
  obtain ⟨B, rfl, o4, x4, x34⟩ := hcut
  have r4 := r3.ext x34
  clear k0 k2 k3 k4 k5 x34 r3 a1 a2 a3 a6
  generalize hV : (16 * (f1 + n2) + n1) % 256 = V at *
  have HV := hx hV
  clear hV
  have k4 := r4.cell (i := 4) rfl
  have hB4 : w.heap.size + 1 ≤ wc.heap.size := by have := r4.lt; omega
  go_wp2_with fail
  refine (putI_any _ _ (w.heap.size + 1) 2 (f2 + n3) _ I2.out (by omega) (.inl o4) hB4 (by simp)).mono ?_
  rintro e w5 ⟨v5, l5, rfl, hl5, hn5, -, own5, g5⟩
  replace own5 := own5 (by decide)
  have r5 := r4.keep g5.1 (fun e => by have := o4.base_le _ e.symm; omega)
  have e5 := x4.grown g5.1 (fun k hk => by have := o4.base_le k hk; omega)
  have hs5 := g5.size
  clear k4 o4 g5 r4 x4
  have k5 := r5.cell (i := 5) rfl
  obtain ⟨A5, c5, rfl⟩ := own5.slice
  have hB5 : w.heap.size + 1 ≤ w5.heap.size := by have := r5.lt; omega
  have hq5 : l5.length = 4 := by have := hn5.out; simpa using this
  have HQ5 := hx hq5
  clear hq5 hB4 hs5
  go_wp2_with fail
  refine (putL_any _ _ (w.heap.size + 1) 4 (f3 + n4) _ I4.out (by omega) (.inl own5) hB5 (by rw [HQ5.out]; omega)).mono ?_
  rintro e w6 ⟨v6, l6, rfl, hl6, hn6, -, own6, g6⟩
  replace own6 := own6 (by decide)
  have r6 := r5.keep g6.1 (fun e => by have := own5.base_le _ e.symm; omega)
  have e6 := e5.grown g6.1 (fun k hk => by have := own5.base_le k hk; omega)
  clear k5 own5 g6 r5 e5
  have k0 := r6.cell (i := 0) rfl
  obtain ⟨A6, c6, rfl⟩ := own6.slice
  have hq6 : l6.length = 8 := by have := hn6.out; rw [HQ5.out] at this; exact this
  have HQ6 := hx hq6
  have HL6 := hx (show l6 = [CD, (16 * (f1 + n2) + n1) % 256] ++ le 2 (f2 + n3) ++ le 4 (f3 + n4) by rw [hl6.out, hl5.out, HV.out])
  clear hq6 hB5 a4 a5
  go_wp2_with fail
  refine (HS.out _ e6).mono ?_
  rintro e w7 ⟨rfl, e7⟩
  have o7 := own6.ext e7
  have r7 := r6.ext e7
  have x7 := e6.trans e7
  clear k0 own6 r6 e6 e7
  rcases h12 with h1 | h2
  ·subst h1
   go_wp2
   refine bodyPost_ret (results_tmp2 rfl _ _ _) rfl ?_
   refine ⟨_, rfl, ?_, x7⟩
   have h := HL6.out
   simp only [List.append_assoc, List.cons_append, List.nil_append] at h
   rw [← h]
   exact ownsRow_base o7 (by omega)
  ·subst h2
   have hB7 : w.heap.size + 1 ≤ w7.heap.size := by have := r7.lt; omega
   go_wp2_with fail
   refine (putI_any _ _ (w.heap.size + 1) 4 0 _ (show I64 0 from ⟨by omega, by omega⟩) (by omega) (.inl o7) hB7 (by rw [HQ6.out]; omega)).mono ?_
   rintro e w8 ⟨v8, l8, rfl, hl8, hn8, -, own8, g8⟩
   replace own8 := own8 (by decide)
   have r8 := r7.keep g8.1 (fun e => by have := o7.base_le _ e.symm; omega)
   have e8 := x7.grown g8.1 (fun k hk => by have := o7.base_le k hk; omega)
   clear o7 g8 r7 x7
   have k5 := r8.cell (i := 5) rfl
   obtain ⟨A8, c8, rfl⟩ := own8.slice
   have hB8 : w.heap.size + 1 ≤ w8.heap.size := by have := r8.lt; omega
   have hq8 : l8.length = 12 := by have := hn8.out; rw [HQ6.out] at this; exact this
   have HQ8 := hx hq8
   clear hq8 hB7
   go_wp2_with fail
   refine (putL_any _ _ (w.heap.size + 1) 4 (n4 / 4294967296) _ I5.out (by omega) (.inl own8) hB8 (by rw [HQ8.out]; omega)).mono ?_
   rintro e w9 ⟨v9, l9, rfl, hl9, hn9, -, own9, g9⟩
   replace own9 := own9 (by decide)
   have e9 := e8.grown g9.1 (fun k hk => by have := own8.base_le k hk; omega)
   obtain ⟨A9, c9, rfl⟩ := own9.slice
   clear own8 g9 r8 e8 k5
   have HL9 := hx (show l9 = (([CD, (16 * (f1 + n2) + n1) % 256] ++ le 2 (f2 + n3) ++ le 4 (f3 + n4)) ++ le 4 0) ++ le 4 (n4 / 4294967296) by rw [hl9.out, hl8.out, HL6.out])
   go_wp2
   refine bodyPost_ret (results_tmp2 rfl _ _ _) rfl ?_
   refine ⟨_, rfl, ?_, e9⟩
   have h := HL9.out
   simp only [List.append_assoc, List.cons_append, List.nil_append] at h
   rw [← h]
   exact ownsRow_base own9 (by omega)
end Go.Proofs.YtmofdnlefjfcfaaGreatDoor


set_option linter.unusedVariables false
set_option linter.unusedSimpArgs false
namespace Go.Proofs.YtmofdnlefjfcfaaGreatDoor
open Go.RowKit

set_option maxRecDepth 40000 in
set_option maxHeartbeats 8000000 in
theorem slotJoin_any (v : Value) (L : List Ins) (w : World) (hv : IsIns w v L) (hL : L.length ≤ 100000) (hE : ∀ x ∈ L, insE x = 0) (hO : OpsN w) (hW : WidN w) :
  Calls Tryz.prog 22 #[v] w fun e w' => ∃ v', e = .returned (.tuple #[v', .int .i64 0, .int .i64 0]) ∧ OwnB w' w.heap.size v' (L.flatMap encX9) ∧ Ext w w' := by
 obtain ⟨A, c, rfl, hc, -, hv'⟩ := hv.form
 have HEN := hx fun (x : Ins) (hx1 : x ∈ L) (W : World) (h : Ext w W) (hk : x.Ok) => slotEnc_any x W hk (hO.ext h) (hW.ext h) (hE x hx1)
 clear hE hO hW
 go_enter Tryz.func22, Tryz.ntmps22
 go_wp2
 go_loopw [5, 12] (fun vo i wr => ∃ k : Nat, k ≤ L.length ∧ i = .int .i64 (k : Nat) ∧ OwnB wr w.heap.size vo ((L.take k).flatMap encX9) ∧ Ext w wr) (fun _ i _ => L.length - (RowKit.intOf i).toNat)
 case atStart => exact ⟨0, by omega, rfl, Own.nil _ _ _ _ _, Ext.refl _⟩
 case round =>
  obtain ⟨k, hk, rfl, ho, he⟩ := hrel
  obtain ⟨A4, c4, rfl⟩ := ho.slice
  by_cases hlt : k < L.length
  ·obtain ⟨x, hx0⟩ : ∃ x, L[k]? = some x := ⟨_, List.getElem?_eq_getElem hlt⟩
   obtain ⟨b0, o, rfl, hEx⟩ := (IsIns.ext hv' he).get hx0
   obtain ⟨⟨k0, k1, k2, k3, k4, k5⟩, hok⟩ := hEx
   have htk : (L.take (k + 1)).flatMap encX9 = (L.take k).flatMap encX9 ++ encX9 x := by rw [List.take_add_one, hx0]; simp
   have hl1 : ((L.take k).flatMap encX9).length ≤ 16 * k := by have h1 := encs9_length (L.take k); rw [List.length_take] at h1; omega
   have hl2 := encL_le x
   have hkm : (k : Int) < (L.length : Int) := by omega
   have HTK := hx htk
   have HL1 := hx hl1
   have HL2 := hx hl2
   have HLT := hx hlt
   have HQ := hx fun (W : World) (h : Ext w W) => HEN.out x (List.mem_of_getElem? hx0) W h hok
   generalize (L.take k).flatMap encX9 = P at *
   generalize encX9 x = R at *
   unfold Ins.v at HQ
   obtain ⟨op, reg, n1, n2, n3, n4⟩ := x
   dsimp only at *
   have HE := hx he
   have HO := hx ho
   have HV := hx hv'
   clear htk hx0 hl1 hl2 hok hlt
   go_upto_region 5 with fail
   obtain ⟨W1, hW1⟩ : ∃ W1, W1 = wr.alloc (.cells #[.int .i64 op, .bool reg, .int .i64 n1, .int .i64 n2, .int .i64 n3, .int .i64 n4] 53) := ⟨_, rfl⟩
   rw [← hW1]
   have x1 : Ext wr W1 := by rw [hW1]; exact Ext.new wr _
   have rx1 : RowV W1 wr.heap.size 53 [.int .i64 op, .bool reg, .int .i64 n1, .int .i64 n2, .int .i64 n3, .int .i64 n4] := by rw [hW1]; exact RowV.new _ _ _
   have y0 := rx1.cell (i := 0) rfl
   have y1 := rx1.cell (i := 1) rfl
   have y2 := rx1.cell (i := 2) rfl
   have y3 := rx1.cell (i := 3) rfl
   have y4 := rx1.cell (i := 4) rfl
   have y5 := rx1.cell (i := 5) rfl
   have ho1 := HO.out.ext x1
   have he1 := HE.out.trans x1
   clear hW1 ho he k0 k1 k2 k3 k4 k5 x1 rx1
   go_wp2_with fail
   refine (HQ.out _ he1).mono ?_
   rintro e w1 ⟨v1, rfl, ow1, e1⟩
   have o1 := ho1.ext e1
   have x1 := hx (he1.trans e1)
   have hsr := own_src ow1
   have hs1 := x1.out.size
   obtain ⟨A6, c6, rfl⟩ := ow1.slice
   have hb1 : P.length + R.length ≤ 140737488355328 := by have h1 := HL1.out; have h2 := HL2.out; omega
   have HB1 := hx hb1
   clear y0 y1 y2 y3 y4 y5 e1 hb1 he1 ho1 ow1
   go_wp2_with (at_builtin; refine wp_appS tyB encB_ok o1 hsr rfl rfl rfl rfl hs1 (by rw [Nat.mul_one]; exact HB1.out) HB1.out ?_; intro v2 w2 o2 g2 a2)
   have X2 := hx (x1.out.grown g2 o1.base_le)
   have O2 := hx o2
   clear g2 o2 o1 hsr a2 hs1
   go_wp2
   go_roundw
   case rel => exact ⟨k + 1, HLT.out, by go_num, by rw [HTK.out]; exact O2.out, X2.out⟩
   case measure => simp [RowKit.intOf]; omega
  ·obtain rfl : k = L.length := by omega
   have HO := hx ho
   clear ho
   go_wp2
   refine bodyPost_ret (results_tmp3 rfl _ _ _) rfl ?_
   refine ⟨.slice A4 ((L.take L.length).flatMap encX9).length c4, rfl, ?_, he⟩
   have h := HO.out
   rw [List.take_length] at h ⊢
   exact h
end Go.Proofs.YtmofdnlefjfcfaaGreatDoor


set_option linter.unusedVariables false
set_option linter.unusedSimpArgs false
namespace Go.Proofs.YtmofdnlefjfcfaaGreatDoor
open Go.RowKit Go.Lib

set_option maxRecDepth 40000 in
set_option maxHeartbeats 8000000 in
theorem layRefs_any (A1 A2 : Option Addr) (m1 c1 m c2 : Nat) (M : List Def) (L : List Stmt) (w : World) (hm1 : m1 = M.length) (hm1l : m1 ≤ 1000000) (hm : m = L.length) (hml : m ≤ 1000000) (hd : IsDefs w (.slice A1 m1 c1) M) (hv : IsStmts w (.slice A2 m c2) L) (hO : OpsN w) :
  Calls Tryz.prog 24 #[.agg #[.slice A1 m1 c1, .slice A2 m c2]] w fun e w' => ∃ v', e = .returned v' ∧ IsRels w' v' (refsOf M L m) ∧ Ext w w' := by
 obtain ⟨W0, hW0⟩ : ∃ W0, W0 = w.alloc (.cells #[.slice A1 m1 c1, .slice A2 m c2] 25) := ⟨_, rfl⟩
 have e0 : Ext w W0 := by rw [hW0]; exact Ext.new w _
 have rP : RowV W0 w.heap.size 25 [.slice A1 m1 c1, .slice A2 m c2] := by rw [hW0]; exact RowV.new _ _ _
 have hCD := layCode_any A1 A2 m1 c1 m c2 L W0 hm hml (IsStmts.ext hv e0)
 have HRO := hx (refsOf_ok M L m (by omega) (by omega))
 rw [hW0] at hCD
 have HCD := hx hCD
 have HW0 := hx hW0
 have HM := hx hm
 have HM1 := hx hm1
 have hcl : (codeL L).length = m := by rw [codeL_length, hm]
 have HCL := hx hcl
 have HOK := hx (stmts_ok hv)
 have HO := hx hO
 clear hm hm1 hCD hW0 hcl hO
 go_enter Tryz.func24, Tryz.ntmps24
 go_wp2
 go_step3
 go_wp2_with fail
 refine HCD.out.mono ?_
 rintro e w1 ⟨g1, rfl, oc, e1⟩
 rw [← HW0.out] at e1
 have E1 := e0.trans e1
 have ic : IsIns w1 (.slice (some ⟨g1, 0, none⟩) m m) (codeL L) := Own.read encN_ok oc (by rw [HCL.out]; omega) fun x hx b o h => ⟨⟨by simpa using h 0 _ rfl, h 1 _ rfl, h 2 _ rfl, h 3 _ rfl, h 4 _ rfl, h 5 _ rfl⟩, HOK.out x hx⟩
 have HSS := hx (Starts_any _ (codeL L) w1 ic (by rw [HCL.out]; exact hml) (HO.out.ext E1))
 have r1 := rP.ext e1
 clear HCD HW0 e0 oc ic rP e1
 go_wp2_with fail
 refine HSS.out.mono ?_
 rintro e w2 ⟨v2, rfl, i2, e2⟩
 obtain ⟨B2, b2, rfl, -, -, i2'⟩ := i2.form
 have hsl : (startsL (codeL L)).length = m := by rw [startsL_length, HCL.out]
 rw [hsl] at i2'
 have E2 := E1.trans e2
 have r2 := r1.ext e2
 have q0 := r2.cell (i := 0) rfl
 have q1 := r2.cell (i := 1) rfl
 clear HSS i2 E1 e2 r1
 go_wp2
 try rw [hsl]
 go_step3
 go_wp2
 clear hsl q0 q1
 go_loopg [3, 19] m (fun g vo i wr => ∃ k : Nat, k + g = m ∧ i = .int .i64 (k : Nat) ∧ OwnR wr w2.heap.size vo (refsOf M L k) ∧ Ext w2 wr)
 case atStart => exact ⟨0, by omega, rfl, Own.nil _ _ _ _ _, Ext.refl _⟩
 case round =>
  obtain ⟨k, hkg, rfl, os, he2⟩ := hrel
  have he := E2.trans he2
  obtain ⟨As, cs, rfl⟩ := os.slice
  cases gk with
  | succ g =>
   have hlt : k < m := by omega
   obtain ⟨x, hx0⟩ : ∃ x, L[k]? = some x := ⟨_, List.getElem?_eq_getElem (by have := HM.out; omega)⟩
   have hg : L.getD k default = x := by rw [List.getD_eq_getElem?_getD, hx0]; rfl
   obtain ⟨b, o, hAA, vl, d0, dl, ⟨d1, d2, d3, d4, d5, d6⟩, dok, ⟨d7, d7'⟩, d8, d8'⟩ := (IsStmts.ext hv he).get hx0
   subst hAA
   obtain ⟨Al, cl, rfl, -, -, -⟩ := dl.form
   have hkm : (k : Int) < (m : Int) := by omega
   have hrs : refsOf M L (k + 1) = refsOf M L k ++ (if formN x.ins.op = 11 ∧ 0 ≤ mapX M x.map then [⟨slotsT ((codeL L).take k), mapX M x.map⟩] else []) := by rw [refsOf_succ]; unfold refR; rw [hg]
   have HRS := hx hrs
   have eN := Ext.new wr (.cells (stL Al x.labels.length cl x).toArray 55)
   have rS := RowV.new wr (stL Al x.labels.length cl x) 55
   have hF := opForm_any x.ins.op _ dok.op (HO.out.ext (he.trans eN))
   have oN := os.ext eN
   have xN := he2.trans eN
   have HLT := hx hlt
   obtain ⟨S, hS⟩ : ∃ S, (startsL (codeL L))[k]? = some S := ⟨_, List.getElem?_eq_getElem (by rw [startsL_length, HCL.out]; exact hlt)⟩
   have hSv : S = slotsT ((codeL L).take k) := by
    rw [startsL_get (by rw [HCL.out]; exact hlt)] at hS
    exact (Option.some.inj hS).symm
   obtain ⟨bs, os', hBB, hs1, -⟩ := i2'.get hS
   subst hBB
   rw [Nat.mul_one] at hs1
   have HS1 := hx hs1
   rw [← hSv] at HRS
   have hl16 : ((refsOf M L k).length + 1) * 16 ≤ 140737488355328 := by have := refsOf_len M L k; omega
   have H16 := hx hl16
   have HKG := hx hkg
   obtain ⟨labels, ⟨op, reg, n1', n2', n3', n4'⟩, tt, tm⟩ := x
   simp only [stL] at *
   generalize labels.length = ll at *
   generalize formN op = F at *
   generalize refsOf M L k = RK at *
   have HF := hx hF
   have RS := hx rS
   have XN := hx xN
   clear hF hrs hlt hx0 hg dl dok d7' d8' os he2 he eN rS hS hSv hs1 xN hl16 hkg
   go_wp2_with fail
   refine HF.out.mono ?_
   rintro e w3 ⟨rfl, e3⟩
   have X3 := hx (XN.out.trans e3)
   have O3 := hx (oN.ext e3)
   have R3 := hx (RS.out.ext e3)
   clear d0 d1 d2 d3 d4 d5 d6 d7 d8 e3 oN
   by_cases h11 : F = 11
   ·subst h11
    have q0 := (r2.ext X3.out).cell (i := 0) rfl
    go_wp2
    clear q0
    go_loopg [3, 32] m1 (fun g' vo j wi => ∃ t : Nat, t + g' = m1 ∧ j = .int .i64 (t : Nat) ∧ (∀ u, u < t → (M.getD u default).name ≠ tm) ∧ OwnR wi w2.heap.size vo RK ∧ Ext w2 wi ∧ RowV wi wr.heap.size 55 [.slice Al ll cl, .int .i64 op, .bool reg, .int .i64 n1', .int .i64 n2', .int .i64 n3', .int .i64 n4', .string tt, .string tm])
    case atStart => exact ⟨0, by omega, rfl, (by intro u hu; omega), O3.out, X3.out, R3.out⟩
    case round =>
     obtain ⟨t, htg, rfl, hn, ot, xt, rt⟩ := hrel
     have HN := hx hn
     clear hn
     obtain ⟨At, ct, rfl⟩ := ot.slice
     cases gk with
     | succ g' =>
      have hlt2 : t < m1 := by omega
      obtain ⟨y, hy0⟩ : ∃ y, M[t]? = some y := ⟨_, List.getElem?_eq_getElem (by have := HM1.out; omega)⟩
      have hgy : M.getD t default = y := by rw [List.getD_eq_getElem?_getD, hy0]; rfl
      obtain ⟨by', oy, hCC, ⟨f1, f2, f3, f4⟩, -⟩ := (IsDefs.ext hd (E2.trans xt)).get hy0
      subst hCC
      have htm : (t : Int) < (m1 : Int) := by omega
      have eD := fun (W : World) => Ext.new W (.cells #[.string y.name, .int .i64 y.key, .int .i64 y.val, .int .i64 y.ents] 65)
      have oD := ot.ext (eD _)
      have xD := xt.trans (eD _)
      have rD := rt.ext (eD _)
      have t8 := rD.cell (i := 8) rfl
      have hs1 := xD.cell HS1.out
      have HLT2 := hx hlt2
      have HTG := hx htg
      have HGY := hx hgy
      obtain ⟨nm, ky, vl, en⟩ := y
      dsimp only at *
      clear hy0 hgy hlt2 ot xt rt eD htg
      by_cases hnm : nm = tm
      ·subst hnm
       have hmx : mapX M nm = (t : Int) := mapX_hit (by rw [← HM1.out]; exact HLT2.out) HN.out (by rw [HGY.out])
       have HR2 := hx (HRS.out.trans (by rw [hmx, if_pos (by first | exact ⟨rfl, by omega⟩ | exact ⟨trivial, by omega⟩)]))
       obtain ⟨WD, hWD⟩ : ∃ WD, WD = wr.alloc (.cells #[.string nm, .int .i64 ky, .int .i64 vl, .int .i64 en] 65) := ⟨_, rfl⟩
       go_upto_region 11 with fail
       rw [← hWD] at oD xD rD hs1 ⊢
       have hszD := xD.size
       have OD := hx oD
       have XD := hx xD
       have RD := hx rD
       clear oD xD rD hmx hWD t8 f1 f2 f3 f4
       go_wp2_with (at_builtin; refine wp_app1 tyR encR_ok OD.out ⟨S, (t : Int)⟩ rfl rfl rfl rfl rfl hszD (by decide) H16.out ?_; intro g3 cap3 w8 os8 hg3 hat3 hbg3)
       have x8 := XD.out.grown hg3 (fun k hk => OD.out.base_le k hk)
       rw [← HR2.out] at os8
       clear hg3 hs1
       go_wp2
       go_roundg g
       case measure => omega
       case rel => exact ⟨k + 1, by have := HKG.out; omega, by go_num, os8, x8⟩
      ·have hb := str_beq hnm
       have HNM := hx hnm
       have OD := hx oD
       have XD := hx xD
       have RD := hx rD
       clear hnm oD xD rD
       go_wp2
       go_roundg g'
       case measure => omega
       case rel => exact ⟨t + 1, by have := HTG.out; omega, by go_num, (fun u hu => (Nat.lt_succ_iff_lt_or_eq.1 hu).elim (HN.out u) (fun h => by rw [h, HGY.out]; exact HNM.out)), OD.out, XD.out, RD.out⟩
     | zero =>
      obtain rfl : m1 = t := by omega
      have hmx : mapX M tm = -1 := mapX_none (by rw [← HM1.out]; exact HN.out)
      have HR2 := hx (HRS.out.trans (by rw [hmx, if_neg (fun h => absurd h.2 (by decide)), List.append_nil]))
      have OT := hx ot
      have XT := hx xt
      clear ot xt rt hmx htg
      go_wp2
      go_roundg g
      case measure => omega
      case rel => exact ⟨k + 1, by have := HKG.out; omega, by go_num, by rw [HR2.out]; exact OT.out, XT.out⟩
   ·have hb : (F != 11) = true := by simpa using h11
    have HR2 := hx (HRS.out.trans (by rw [if_neg (fun h => h11 h.1), List.append_nil]))
    clear h11
    go_wp2
    go_roundg g
    case measure => omega
    case rel => exact ⟨k + 1, by have := HKG.out; omega, by go_num, by rw [HR2.out]; exact O3.out, X3.out⟩
  | zero =>
   obtain rfl : m = k := by omega
   have OS := hx os
   have HE := hx he
   clear os he he2 hkg
   go_wp2
   try rw [Exit.noGoto_ret]
   go_ret
   exact ⟨_, rfl, OS.out.read encR_ok (E := ERel) (by have h1 := refsOf_len M L m; omega) fun x hx b o h => ⟨⟨by simpa using h 0 _ rfl, h 1 _ rfl⟩, HRO.out x hx⟩, HE.out⟩
end Go.Proofs.YtmofdnlefjfcfaaGreatDoor


set_option linter.unusedVariables false
set_option linter.unusedSimpArgs false
namespace Go.Proofs.YtmofdnlefjfcfaaGreatDoor
open Go.RowKit Go.Lib

theorem srcD {w : World} {A : Option Addr} {c : Nat} {l : List Def} (h : IsDefs w (.slice A l.length c) l) : Src w (.slice A l.length c) l.length (l.flatMap Def.enc) := by
 have h' := h
 obtain ⟨A', c', h1, h2, h3, hn, h4⟩ := h
 cases h1
 refine ⟨A, c, rfl, fun e => ?_, fun j u hu => ?_⟩
 ·have := hn e
  exact ⟨this, by omega⟩
 ·have hlen : (l.flatMap Def.enc).length = l.length * 4 := flat_length encD_ok l
  have hj := (List.getElem?_eq_some_iff.1 hu).1
  rw [hlen] at hj
  obtain ⟨x, hx⟩ : ∃ x, l[j / 4]? = some x := ⟨_, List.getElem?_eq_getElem (by omega)⟩
  have hg := flat_get encD_ok l (j / 4) (j % 4) (by omega) hx
  rw [show j / 4 * 4 + j % 4 = j by omega, hu] at hg
  obtain ⟨b, o, hA, ⟨d1, d2, d3, d4⟩, -⟩ := h4 _ _ hx
  refine ⟨b, o, hA, ?_⟩
  have hr : j % 4 < 4 := by omega
  have hjj : o + j = o + j / 4 * 4 + j % 4 := by omega
  rw [hjj]
  generalize j % 4 = r at *
  match r, hr with
  | 0, _ => rw [Nat.add_zero, d1]; exact hg.symm ▸ rfl
  | 1, _ => rw [d2]; exact hg.symm ▸ rfl
  | 2, _ => rw [d3]; exact hg.symm ▸ rfl
  | 3, _ => rw [d4]; exact hg.symm ▸ rfl
set_option maxRecDepth 20000 in
set_option maxHeartbeats 1000000 in
theorem cloneD_any (v : Value) (l : List Def) (w : World) (hv : IsDefs w v l) (hl : l.length ≤ 1000000) :
  Calls Tryz.prog 23 #[v] w fun e w' => ∃ v', e = .returned v' ∧ OwnD w' w.heap.size v' l ∧ Ext w w' := by
 have hv0 := hv
 obtain ⟨A, c, rfl, h1, h2, hn, h4⟩ := hv
 cases A with
 | none =>
  have hc := hn rfl
  have hl0 : l.length = 0 := by omega
  obtain rfl : l = [] := List.eq_nil_of_length_eq_zero hl0
  have he := eqlNil (P := Tryz.prog) Tryz.underlying22
  go_enter Tryz.func23, Tryz.ntmps23
  go_wp2
  go_ret
  exact ⟨_, rfl, Own.nil _ _ _ _ _, Ext.refl _⟩
 | some ad =>
  have he := eqlNil (P := Tryz.prog) Tryz.underlying22
  have ho := Own.lit0 (e := 65) (sz := 4) (enc := Def.enc) w w.heap.size (Nat.le_refl _)
  have hs := srcD (IsDefs.ext hv0 (Ext.new w (.cells #[] 65)))
  go_enter Tryz.func23, Tryz.ntmps23
  go_wp2_with (at_builtin; refine wp_appS tyD encD_ok ho hs rfl rfl rfl rfl (by simp) (by simp; omega) (by simp; omega) ?_; intro v1 w1 o1 g1 a1)
  go_ret
  exact ⟨v1, rfl, by simpa using o1, (Ext.new w _).grown g1 (fun k hk => by simp [Value.ownBlock] at hk; omega)⟩
end Go.Proofs.YtmofdnlefjfcfaaGreatDoor
