/- The layer print: lines. -/
import Derived.Test.YtocnmjpldpbioaaGreatDoorJSlot
import Derived.Test.YtocnmjpldpbioaaGreatDoorJPrnP
import Derived.Test.YtocnmjpldpbioaaGreatDoorJFmtI
import Derived.Test.YtocnmjpldpbioaaGreatDoorJRefChkE
import Derived.BigQuiet
import Derived.Deep.QuietTactic
import Derived.Deep.RegionWith
import Derived.Deep.RegionHeld3
import Derived.Test.YtocnmjpldpbioaaGreatDoorRows
import Derived.Test.YtocnmjpldpbioaaGreatDoorJObj
import Derived.Stop.LaidErr
import Derived.Lib.LaidU8
import Derived.MakeChecks
import Derived.LaidOnce
import Derived.Lay
import Derived.JoinedOf
set_option linter.unusedVariables false
set_option linter.unusedSimpArgs false
namespace Go.Proofs.YtocnmjpldpbioaaGreatDoor
open Go.RowKit Go.Lib

set_option maxRecDepth 40000 in
set_option maxHeartbeats 4000000 in
theorem lines1_any (B b g : Nat) (l : List UInt8) (x : ByteArray) (w : World) (h : BldW w B b l) (hc : w.cell? ⟨g, 0, none⟩ = some (.string x)) (hl : l.length + x.size ≤ 1000000) (hB : B ≤ w.heap.size) :
  Calls Tryz.prog 27 #[.pointer (some ⟨b, 0, none⟩), .slice (some ⟨g, 0, none⟩) 1 1] w fun e w' => e = .returned (.tuple #[]) ∧ BldW w' B b (l ++ (x.data.toList ++ [10])) ∧ Below B w w' ∧ KeptB b w w' := by
 have HS := hx (bld_WriteString B b l x w h (by omega) hB)
 have hxl : x.data.toList.length = x.size := by simp
 have HY : Hx (∀ (W : World), BldW W B b (l ++ x.data.toList) → B ≤ W.heap.size → Calls Tryz.prog 48 #[.pointer (some ⟨b, 0, none⟩), .int .u8 10] W fun e w' => e = .returned .nilIface ∧ BldW w' B b (l ++ x.data.toList ++ [10]) ∧ Below B W w' ∧ KeptB b W w') :=
  hx fun W hb hW => bld_WriteByte B b (l ++ x.data.toList) 10 W hb (by rw [List.length_append]; omega) hW
 have HB := hx hB
 go_enter Tryz.func27, Tryz.ntmps27
 go_wp2
 go_loopw [8] (fun i wr => ∃ k : Nat, k ≤ 1 ∧ i = .int .i64 (k : Nat) ∧ BldW wr B b (if k = 0 then l else l ++ (x.data.toList ++ [10])) ∧ Below B w wr ∧ KeptB b w wr ∧ (k = 0 → wr = w)) (fun i _ => 1 - (RowKit.intOf i).toNat)
 case atStart => exact ⟨0, by omega, rfl, h, Below.refl _ _, Lib.OthersKept.refl _ _ _, fun _ => rfl⟩
 case round =>
  obtain ⟨k, hk, rfl, bw, bl, kb, h0⟩ := hrel
  by_cases hk0 : k = 0
  ·subst hk0
   obtain rfl := h0 rfl
   clear bw h0 bl kb
   go_wp2_with (first
    | (go_at_call 35; refine HS.out.mono ?_; rintro e w1 ⟨rfl, b1, l1, k1⟩)
    | (go_at_call 48; refine (HY.out _ b1 (Nat.le_trans HB.out l1.size)).mono ?_; rintro e w2 ⟨rfl, b2, l2, k2⟩))
   go_roundw
   case rel => exact ⟨1, Nat.le_refl _, by go_num, by rw [if_neg (by decide), ← List.append_assoc]; exact b2, l1.trans l2, k1.trans k2, fun h => by omega⟩
   case measure => simp [RowKit.intOf]
  ·obtain rfl : k = 1 := by omega
   rw [if_neg (by decide)] at bw
   clear h0 HS HY
   go_wp2
   go_end0
   exact ⟨rfl, bw, bl, kb⟩
end Go.Proofs.YtocnmjpldpbioaaGreatDoor


set_option linter.unusedVariables false
set_option linter.unusedSimpArgs false
namespace Go.Proofs.YtocnmjpldpbioaaGreatDoor
open Go.RowKit Go.Lib

theorem pchk_def (d : Def) : pchk [d] [] = (0, if mapE d = 0 then 15 else mapE d) := by
 unfold pchk prRs
 have h3 : (findA (fun i _ => whenN (decide (255 ≤ i)) 16) 0 [d]) = (0, 0) := rfl
 have h4 : (findA (fun i _ => whenN (repN ([d].map (·.name)) == i) 10) 0 [d]) = (0, 0) := rfl
 have h1 : findA (fun _ d => mapE d) 0 [d] = if mapE d = 0 then (0, 0) else (0, mapE d) := rfl
 have h2 : ∀ F, findS F ([] : List Stmt) = (0, 0) := fun _ => rfl
 rw [h1, h3, h4, h2]
 by_cases h : mapE d = 0
 ·rw [if_pos h, if_pos h]; rfl
 ·rw [if_neg h, if_neg h, firstF, if_neg h]
/-- The text of a map's declaration. -/
def defT (s : ByteArray) (k v e : ByteArray) : ByteArray := ⟨#[109, 97, 112, 32]⟩ ++ s ++ ⟨#[32]⟩ ++ k ++ ⟨#[32]⟩ ++ v ++ ⟨#[32]⟩ ++ e
def defS (d : Def) : ByteArray := if mapE d = 0 then defT d.name (numS d.key) (numS d.val) (numS d.ents) else ⟨#[]⟩
theorem join_def (s k v e : ByteArray) : (⟨(Lib.join ([(⟨#[109, 97, 112]⟩ : ByteArray), s, k, v, e].map (·.data.toList)) (⟨#[32]⟩ : ByteArray).data.toList).toArray⟩ : ByteArray) = defT s k v e := by
 apply ByteArray.ext
 apply Array.ext'
 unfold defT Lib.join
 simp [ByteArray.toList_data_append, List.intercalate]
theorem join5 (s k v e : ByteArray) (w : World) (hs : s.size ≤ 140737488355328 - 1000) (hk : k.size ≤ 21) (hv : v.size ≤ 21) (he : e.size ≤ 21) :
  Calls Tryz.prog 19 #[.slice (some ⟨w.heap.size, 0, none⟩) 5 5, .string ⟨#[32]⟩] (w.alloc (.cells #[.string ⟨#[109, 97, 112]⟩, .string s, .string k, .string v, .string e] 9)) fun x w' => x = .returned (.string (defT s k v e)) ∧ Ext w w' := by
 have h := Tryz.strings_Join w.heap.size 0 5 [⟨#[109, 97, 112]⟩, s, k, v, e] ⟨#[32]⟩ (w.alloc (.cells #[.string ⟨#[109, 97, 112]⟩, .string s, .string k, .string v, .string e] 9))
  (fun j x hj => by
   match j, hj with
   | 0, hj => obtain rfl := Option.some.inj hj; simp
   | 1, hj => obtain rfl := Option.some.inj hj; simp
   | 2, hj => obtain rfl := Option.some.inj hj; simp
   | 3, hj => obtain rfl := Option.some.inj hj; simp
   | 4, hj => obtain rfl := Option.some.inj hj; simp
   | n + 5, hj => simp at hj) (by simp) (by simp) (by simp)
  (by
   have h1 := congrArg (fun b : ByteArray => b.data.toList.length) (join_def s k v e)
   simp only at h1
   rw [h1]
   have h2 : (defT s k v e).size = 4 + s.size + 1 + k.size + 1 + v.size + 1 + e.size := by
    unfold defT
    simp only [ByteArray.size_append]
    rfl
   have h3 : (defT s k v e).data.toList.length = (defT s k v e).size := by simp
   omega)
 refine h.mono fun x w' ⟨h1, h2⟩ => ⟨by rw [h1, join_def], (Ext.new w _).trans h2⟩
set_option maxRecDepth 40000 in
set_option maxHeartbeats 8000000 in
theorem print_Def_any (d : Def) (w : World) (hd : d.Ok) (hG : GlobQ [d.name] w) (hN : NoneV w) (hWd : WidN w) (hP : PowV w) :
  Calls Tryz.prog 10 #[d.v] w fun e w' => e = .returned (.string (defS d)) ∧ Ext w w' := by
 obtain ⟨W0, hW0⟩ : ∃ W0, W0 = (w.alloc (.cells #[.string d.name, .int .i64 d.key, .int .i64 d.val, .int .i64 d.ents] 27)).alloc (.cells #[.string d.name, .int .i64 d.key, .int .i64 d.val, .int .i64 d.ents] 27) := ⟨_, rfl⟩
 have e0 : Ext w W0 := by rw [hW0]; exact (Ext.new w _).alloc _
 have r0 : RowV W0 w.heap.size 27 [.string d.name, .int .i64 d.key, .int .i64 d.val, .int .i64 d.ents] := by
  rw [hW0]
  exact (Ext.new _ _).obj (RowV.new w [.string d.name, .int .i64 d.key, .int .i64 d.val, .int .i64 d.ents] 27)
 have r1 : RowV W0 (w.heap.size + 1) 27 [.string d.name, .int .i64 d.key, .int .i64 d.val, .int .i64 d.ents] := by
  rw [hW0]
  have h := RowV.new (w.alloc (.cells #[.string d.name, .int .i64 d.key, .int .i64 d.val, .int .i64 d.ents] 27)) [.string d.name, .int .i64 d.key, .int .i64 d.val, .int .i64 d.ents] 27
  rw [World.size_alloc] at h
  exact h
 have hds : IsDefs W0 (.slice (some ⟨w.heap.size + 1, 0, none⟩) 1 1) [d] := ⟨_, 1, rfl, by simp [maxLen], by simp, (fun h => by cases h), fun i x hi => by
  match i, hi with
  | 0, hi =>
   obtain rfl := Option.some.inj hi
   exact ⟨_, _, rfl, ⟨r1.cell (i := 0) rfl, r1.cell (i := 1) rfl, r1.cell (i := 2) rfl, r1.cell (i := 3) rfl⟩, hd⟩
  | n + 1, hi => simp at hi⟩
 have hc := progCheck_q (some ⟨w.heap.size + 1, 0, none⟩) none 1 1 0 0 [d] [] W0 rfl (by decide) rfl (by decide) hds (Sl.nil _) (by decide) ((hG.ext e0).sub (by simp [namesP])) (hN.ext e0) (fun s hs => by cases hs) (hWd.ext e0)
 rw [pchk_def, hW0] at hc
 have HC := hx hc
 have HW0 := hx hW0
 have E0 := hx e0
 obtain ⟨dn, dk, dv, de⟩ := hd
 have HPK := hx fun (W : World) (h : Ext w W) => print_Number_any d.key W dk (hP.ext h)
 have HPV := hx fun (W : World) (h : Ext w W) => print_Number_any d.val W dv (hP.ext h)
 have HPE := hx fun (W : World) (h : Ext w W) => print_Number_any d.ents W de (hP.ext h)
 have k1 := numS_size dk
 have k2 := numS_size dv
 have k3 := numS_size de
 have hsm : mapE d = 0 → d.name.size ≤ 32 := fun h => by
  unfold mapE at h
  split at h
  ·rename_i hid
   unfold idB at hid
   simp only [Bool.and_eq_true, decide_eq_true_eq] at hid
   exact hid.1.2.1
  ·omega
 have hme : mapE d ≠ 15 := by
  unfold mapE whenN
  split
  ·split <;> decide
  ·decide
 have hS : defS d = if mapE d = 0 then defT d.name (numS d.key) (numS d.val) (numS d.ents) else ⟨#[]⟩ := rfl
 rw [hS]
 clear hS hc hW0 e0 r1 hds hG hN hWd hP
 generalize mapE d = ME at *
 unfold Def.v
 obtain ⟨nm, ky, vl, en⟩ := d
 dsimp only at *
 generalize numS ky = SK at *
 generalize numS vl = SV at *
 generalize numS en = SE at *
 by_cases h0 : ME = 0
 ·subst h0
  have HSM := hx (hsm rfl)
  rw [if_pos rfl] at HC ⊢
  have HJ := hx fun (W : World) => join5 nm SK SV SE W (by have := HSM.out; omega) k1 k2 k3
  clear hsm dk dv de dn
  go_enter Tryz.func10, Tryz.ntmps10
  go_wp2_with fail
  refine HC.out.mono ?_
  rintro e w1 ⟨rfl, e1⟩
  rw [← HW0.out] at e1
  have R1 := hx (r0.ext e1)
  have X1 := hx (E0.out.trans e1)
  clear e1 HC r0
  have L5 := hx fun (W : World) (h : Ext w1 W) => And.intro ((R1.out.ext h).cell (i := 0) rfl) (And.intro ((R1.out.ext h).cell (i := 1) rfl) (And.intro ((R1.out.ext h).cell (i := 2) rfl) ((R1.out.ext h).cell (i := 3) rfl)))
  go_upto_region 4 with fail
  have hr0 : Ext w1 w1 := Ext.refl w1
  have hd2 : Ext w1 w1.drew := (Ext.refl w1).drew
  go_region_held3 (fun w' => w'.cell? ⟨w.heap.size, 0, none⟩ = some (.string nm) ∧ w'.cell? ⟨w.heap.size, 1, none⟩ = some (.int .i64 ky) ∧ w'.cell? ⟨w.heap.size, 2, none⟩ = some (.int .i64 vl) ∧ w'.cell? ⟨w.heap.size, 3, none⟩ = some (.int .i64 en)) (first | exact L5.out _ (by assumption) | exact L5.out _ (Ext.alloc (by assumption) _))
   (first
    | (go_at_call 6; first | (refine (HPK.out _ (X1.out.trans (by assumption))).mono ?_; rintro e wK ⟨rfl, eK⟩; have fK : Ext w1 wK := Ext.trans (by assumption) eK; clear HPK) | (refine (HPV.out _ (X1.out.trans (by assumption))).mono ?_; rintro e wV ⟨rfl, eV⟩; have fV : Ext w1 wV := Ext.trans (by assumption) eV; clear HPV) | (refine (HPE.out _ (X1.out.trans (by assumption))).mono ?_; rintro e wE ⟨rfl, eE⟩; have fE : Ext w1 wE := Ext.trans (by assumption) eE; clear HPE))
    | (go_at_call 19; refine (HJ.out _).mono ?_; rintro e wJ ⟨rfl, eJ⟩; have fJ : Ext w1 wJ := Ext.trans (by assumption) eJ))
  all_goals
   go_wp2
   go_ret
   exact ⟨rfl, X1.out.trans fJ⟩
 ·rw [if_neg h0] at HC ⊢
  have hb : (ME != 15) = true := by simpa using hme
  clear hsm dk dv de dn HPK HPV HPE
  go_enter Tryz.func10, Tryz.ntmps10
  go_wp2_with fail
  refine HC.out.mono ?_
  rintro e w1 ⟨rfl, e1⟩
  rw [← HW0.out] at e1
  go_wp2
  go_ret
  exact ⟨rfl, E0.out.trans e1⟩
end Go.Proofs.YtocnmjpldpbioaaGreatDoor


set_option linter.unusedVariables false
set_option linter.unusedSimpArgs false
namespace Go.Proofs.YtocnmjpldpbioaaGreatDoor
open Go.RowKit Go.Lib

def lineT (s : ByteArray) : List UInt8 := s.data.toList ++ [10]
def stmtT (s : Stmt) : List UInt8 := (s.labels.flatMap fun l => lineT (l ++ ⟨#[58]⟩)) ++ lineT (codeS s)
def progT (M : List Def) (L : List Stmt) : List UInt8 := (M.flatMap fun d => lineT (defS d)) ++ L.flatMap stmtT
/-- The text of a program. -/
def progS (M : List Def) (L : List Stmt) : ByteArray := if (pchk M L).2 = 0 then ⟨(progT M L).toArray⟩ else ⟨#[]⟩
theorem flat_take_succ {α β : Type} (f : α → List β) (l : List α) (k : Nat) (x : α) (h : l[k]? = some x) : (l.take (k + 1)).flatMap f = (l.take k).flatMap f ++ f x := by
 rw [List.take_add_one, h]
 simp
theorem flat_pre_len {α β : Type} (f : α → List β) (l : List α) (k : Nat) : ((l.take k).flatMap f).length ≤ (l.flatMap f).length := by
 conv => rhs; rw [← List.take_append_drop k l, List.flatMap_append, List.length_append]
 omega
theorem BldW.lt {w : World} {B b : Nat} {l : List UInt8} (h : BldW w B b l) : b < w.heap.size := by
 rcases h with ⟨-, v, h, -⟩ | ⟨-, v, h, -⟩ <;> exact (Array.getElem?_eq_some_iff.1 h).1
theorem lineT_len (s : ByteArray) : (lineT s).length = s.size + 1 := by simp [lineT]
theorem lines_step {w1 wr W2 : World} {l : List UInt8} {x : ByteArray} (hb : BldW wr w1.heap.size w1.heap.size l) (he : Ext w1 wr) (h2 : Ext wr W2) (hl : l.length + x.size ≤ 1000000) :
  Calls Tryz.prog 27 #[.pointer (some ⟨w1.heap.size, 0, none⟩), .slice (some ⟨W2.heap.size, 0, none⟩) 1 1] (W2.alloc (.cells #[.string x] 9)) fun e w' => e = .returned (.tuple #[]) ∧ BldW w' w1.heap.size w1.heap.size (l ++ lineT x) ∧ Ext w1 w' ∧ KeptB w1.heap.size W2 w' := by
 have h3 := Ext.new W2 (.cells #[.string x] 9)
 have h4 := (he.trans h2).trans h3
 refine (lines1_any _ _ W2.heap.size l x _ (hb.ext (h2.trans h3)) (by simp) hl h4.size).mono fun e w' ⟨g1, g2, g3, g4⟩ => ⟨g1, g2, Below.trans h4 g3, (Lib.OthersKept.alloc (Lib.OthersKept.refl _ _ W2) _).trans g4⟩
set_option maxRecDepth 40000 in
set_option maxHeartbeats 16000000 in
theorem print_Program_any (A1 A2 : Option Addr) (m1 c1 m c2 : Nat) (M : List Def) (L : List Stmt) (w : World) (hm1 : m1 = M.length) (hl1 : m1 ≤ 100000) (hm : m = L.length) (hml : m ≤ 1000000)
  (hd : IsDefs w (.slice A1 m1 c1) M) (hv : IsStmts w (.slice A2 m c2) L) (hfl : (flat L).length ≤ 1000000) (hG : GlobQ (namesP M L) w) (hN : NoneV w) (hO : ∀ s ∈ L, OpsQ s.ins.op w) (hWd : WidN w) (hP : PowV w) (h5 : ∀ s ∈ L, formN s.ins.op ≠ 5) (hT : (progT M L).length ≤ 1000000) :
  Calls Tryz.prog 13 #[.agg #[.slice A1 m1 c1, .slice A2 m c2]] w fun e w' => e = .returned (.string (progS M L)) ∧ Ext w w' := by
 obtain ⟨W0, hW0⟩ : ∃ W0, W0 = w.alloc (.cells #[.slice A1 m1 c1, .slice A2 m c2] 40) := ⟨_, rfl⟩
 have e0 : Ext w W0 := by rw [hW0]; exact Ext.new _ _
 have r0 : RowV W0 w.heap.size 40 [.slice A1 m1 c1, .slice A2 m c2] := by rw [hW0]; exact RowV.new _ _ _
 have hC := progCheck_q A1 A2 m1 c1 m c2 M L W0 hm1 hl1 hm hml (IsDefs.ext hd e0) (IsStmts.ext hv e0) hfl (hG.ext e0) (hN.ext e0) (fun s hs => (hO s hs).ext e0) (hWd.ext e0)
 have HD := hx fun (d : Def) (W : World) (hdm : d ∈ M) (h : d.Ok) (hW : Ext w W) => print_Def_any d W h ((hG.ext hW).sub (namesP_def hdm)) (hN.ext hW) (hWd.ext hW) (hP.ext hW)
 have HCd := hx fun (A : Option Addr) (c : Nat) (s : Stmt) (W : World) (hs : s ∈ L) (hl : IsStrs W (.slice A s.labels.length c) s.labels) (hn : s.labels.length ≤ 1000000) (hok : s.ins.Ok) (ht : s.target.size ≤ 140737488355328) (hmm : s.map.size ≤ 140737488355328) (hW : Ext w W) =>
  print_Code_any A c s W hl hn hok ht hmm ((hG.ext hW).sub (namesP_stm hs)) (hN.ext hW) ((hO s hs).ext hW) (hWd.ext hW) (hP.ext hW) (h5 s hs)
 rw [hW0] at hC
 have HC := hx hC
 have HW0 := hx hW0
 have E0 := hx e0
 have HM1 := hx hm1
 have HM := hx hm
 have HT := hx hT
 have HFL := hx hfl
 have q0 := r0.cell (i := 0) rfl
 have q1 := r0.cell (i := 1) rfl
 have hps : progS M L = if (pchk M L).2 = 0 then ⟨(progT M L).toArray⟩ else ⟨#[]⟩ := rfl
 rw [hps]
 clear hC hW0 e0 hG hN hO hWd hP h5 hm1 hm hT hfl hps
 generalize (pchk M L).1 = P1 at *
 generalize (pchk M L).2 = P2 at *
 by_cases hz : P2 = 0
 ·subst hz
  rw [if_pos rfl]
  go_enter Tryz.func13, Tryz.ntmps13
  go_wp2_with fail
  refine HC.out.mono ?_
  rintro e w1 ⟨rfl, e1⟩
  rw [← HW0.out] at e1
  have r1 := r0.ext e1
  have X1 := hx (E0.out.trans e1)
  have q0' := r1.cell (i := 0) rfl
  have q1' := r1.cell (i := 1) rfl
  have hb0 := r1.lt
  have BN := BldW.new w1
  have y0 := Ext.new w1 (.cells #[.pointer none, .slice none 0 0] 58)
  have q2' := y0.cell q0'
  have HR1 := hx fun (W : World) (h : Ext w1 W) => And.intro (h.cell q0') (h.cell q1')
  clear HC HW0 E0 q0 q1 r0 e1
  have HTT := hx (show (M.flatMap fun d => lineT (defS d)).length + (L.flatMap stmtT).length ≤ 1000000 by have := HT.out; unfold progT at this; rw [List.length_append] at this; exact this)
  have HPT := hx (show progT M L = (M.flatMap fun d => lineT (defS d)) ++ L.flatMap stmtT from rfl)
  generalize hpt : progT M L = PT at *
  have HPE := hx hpt
  clear hpt
  go_wp2
  go_loopw [22] (fun i wr => ∃ k : Nat, k ≤ m1 ∧ i = .int .i64 (k : Nat) ∧ BldW wr w1.heap.size w1.heap.size ((M.take k).flatMap fun d => lineT (defS d)) ∧ Ext w1 wr) (fun i _ => m1 - (RowKit.intOf i).toNat)
  case atStart => exact ⟨0, by omega, rfl, BN, y0⟩
  case round =>
   clear BN y0 q2'
   obtain ⟨k, hk, rfl, bw, he⟩ := hrel
   by_cases hlt : k < m1
   ·obtain ⟨d, hd0⟩ : ∃ d, M[k]? = some d := ⟨_, List.getElem?_eq_getElem (by rw [← HM1.out]; exact hlt)⟩
    obtain ⟨b1, o1, hA, ⟨d1, d2, d3, d4⟩, dok⟩ := (IsDefs.ext hd (X1.out.trans he)).get hd0
    subst hA
    have hdm := List.mem_of_getElem? hd0
    have hpre := flat_pre_len (fun d => lineT (defS d)) M (k + 1)
    have hsu := flat_take_succ (fun d => lineT (defS d)) M k d hd0
    rw [hsu, List.length_append, lineT_len] at hpre
    have HSU := hx hsu
    have HL := hx fun (W2 : World) (h : Ext wr W2) => lines_step (x := defS d) bw he h (by have := HTT.out; omega)
    have HE := hx he
    have HLT := hx hlt
    have HDD := hx fun (W : World) (h : Ext wr W) => HD.out d W hdm dok ((X1.out.trans he).trans h)
    unfold Def.v at HDD
    obtain ⟨nm, ky, vl, en⟩ := d
    dsimp only at *
    generalize defS ⟨nm, ky, vl, en⟩ = DS at *
    have x1 := Ext.new wr (.cells #[.string nm, .int .i64 ky, .int .i64 vl, .int .i64 en] 27)
    have hkm : (k : Int) < (m1 : Int) := by omega
    clear hsu hpre hd0 hdm hlt dok bw he
    go_wp2_with (first
     | (go_at_call 10; refine (HDD.out _ x1).mono ?_; rintro e w2 ⟨rfl, e2⟩; have x2 := x1.trans e2)
     | (go_at_call 27; refine (HL.out _ x2).mono ?_; rintro e w3 ⟨rfl, b3, e3, k3⟩))
    go_roundw
    case rel => exact ⟨k + 1, HLT.out, by go_num, by rw [HSU.out]; exact b3, e3⟩
    case measure => simp [RowKit.intOf]; omega
   ·obtain rfl : m1 = k := by omega
    rw [List.take_of_length_le (by rw [← HM1.out]; exact Nat.le_refl _)] at bw
    generalize (M.flatMap fun d => lineT (defS d)) = TM at *
    have hcc := HR1.out _ he
    obtain ⟨p0, p1⟩ := hcc
    clear hk hlt HD hd
    go_wp2
    go_loopw [34] (fun i wq => ∃ k : Nat, k ≤ m ∧ i = .int .i64 (k : Nat) ∧ BldW wq w1.heap.size w1.heap.size (TM ++ (L.take k).flatMap stmtT) ∧ Ext w1 wq) (fun i _ => m - (RowKit.intOf i).toNat)
    case atStart => exact ⟨0, by omega, rfl, by simpa using bw, he⟩
    case round =>
     clear bw he p0 p1 hl1 r1 q0' q1' hb0 HR1
     obtain ⟨k, hk, rfl, bw, he⟩ := hrel
     by_cases hlt : k < m
     ·obtain ⟨s, hs0⟩ : ∃ s, L[k]? = some s := ⟨_, List.getElem?_eq_getElem (by rw [← HM.out]; exact hlt)⟩
      obtain ⟨b1, o1, hA, vl, d0, dl, ⟨d1, d2, d3, d4, d5, d6⟩, dok, ⟨d7, hts⟩, d8, hms⟩ := hv.get hs0
      subst hA
      obtain ⟨A', c', rfl, -, -, dlw⟩ := dl.form
      have xw := X1.out.trans he
      replace d0 := xw.cell d0
      replace d1 := xw.cell d1
      replace d2 := xw.cell d2
      replace d3 := xw.cell d3
      replace d4 := xw.cell d4
      replace d5 := xw.cell d5
      replace d6 := xw.cell d6
      replace d7 := xw.cell d7
      replace d8 := xw.cell d8
      have hpre := flat_pre_len stmtT L (k + 1)
      have hsu := flat_take_succ stmtT L k s hs0
      have hst : stmtT s = (s.labels.flatMap fun l => lineT (l ++ ⟨#[58]⟩)) ++ lineT (codeS s) := rfl
      rw [hsu, List.length_append, hst, List.length_append, lineT_len] at hpre
      have hfls : s.labels.length ≤ 1000000 := by
       have h1 := flat_pre_len (fun s : Stmt => s.labels) L (k + 1)
       rw [flat_take_succ (fun s : Stmt => s.labels) L k s hs0, List.length_append] at h1
       have h2 := HFL.out
       have h3 : (flat L).length = (L.flatMap fun s => s.labels).length := by simp [flat]
       omega
      have HSU := hx (hsu.trans (by rw [hst]))
      have HPRE := hx hpre
      have HDL := hx fun (W : World) (h : Ext w1 W) => IsStrs.ext dlw (X1.out.trans h)
      have hsm := List.mem_of_getElem? hs0
      have HCC := hx fun (W : World) (h : Ext w1 W) => HCd.out A' c' s W hsm (HDL.out W h) hfls dok hts hms (X1.out.trans h)
      have hkm : (k : Int) < (m : Int) := by omega
      have HLT := hx hlt
      have hsb : wr.heap.size ≠ w1.heap.size := by have := bw.lt; omega
      obtain ⟨sb, hsbe⟩ : ∃ sb, sb = wr.heap.size := ⟨_, rfl⟩
      unfold StV at HCC
      obtain ⟨labels, ⟨op, reg, n1, n2, n3, n4⟩, tt, tm⟩ := s
      dsimp only at *
      generalize codeS ⟨labels, ⟨op, reg, n1, n2, n3, n4⟩, tt, tm⟩ = CS at *
      have x1 := Ext.new wr (.cells #[.slice A' labels.length c', .int .i64 op, .bool reg, .int .i64 n1, .int .i64 n2, .int .i64 n3, .int .i64 n4, .string tt, .string tm] 34)
      have rS := RowV.new wr [.slice A' labels.length c', .int .i64 op, .bool reg, .int .i64 n1, .int .i64 n2, .int .i64 n3, .int .i64 n4, .string tt, .string tm] 34
      generalize hnl : labels.length = nl at *
      have HNL := hx hnl
      have bw1 := bw.ext x1
      have he1 := he.trans x1
      rw [← hsbe] at hsb rS
      have HSB := hx hsb
      clear hsu hpre hst hs0 hlt dok bw he dl dlw hts hms hsm xw hnl x1
      go_wp2
      go_loopw [41] (fun i wz => ∃ j : Nat, j ≤ nl ∧ i = .int .i64 (j : Nat) ∧ BldW wz w1.heap.size w1.heap.size (TM ++ (L.take k).flatMap stmtT ++ (labels.take j).flatMap fun l => lineT (l ++ ⟨#[58]⟩)) ∧ Ext w1 wz ∧ RowV wz sb 34 [.slice A' nl c', .int .i64 op, .bool reg, .int .i64 n1, .int .i64 n2, .int .i64 n3, .int .i64 n4, .string tt, .string tm]) (fun i _ => nl - (RowKit.intOf i).toNat)
      case atStart => exact ⟨0, by omega, rfl, by simpa using bw1, he1, rS⟩
      case round =>
       clear bw1 he1 rS d0 d1 d2 d3 d4 d5 d6 d7 d8
       obtain ⟨j, hj, rfl, bz, ez, rz⟩ := hrel
       have bs := HSB.out
       by_cases hlj : j < nl
       ·obtain ⟨x, hx0⟩ : ∃ x, labels[j]? = some x := ⟨_, List.getElem?_eq_getElem (by rw [HNL.out]; exact hlj)⟩
        obtain ⟨bb, oo, rfl, dx, dxs⟩ := (HDL.out _ ez).get hx0
        rw [Nat.mul_one] at dx
        have hpre := flat_pre_len (fun l => lineT (l ++ ⟨#[58]⟩)) labels (j + 1)
        have hsu := flat_take_succ (fun l => lineT (l ++ ⟨#[58]⟩)) labels j x hx0
        rw [hsu, List.length_append, lineT_len] at hpre
        have hcl : (⟨#[58]⟩ : ByteArray).size = 1 := rfl
        have HSV := hx hsu
        have HL := hx fun (W2 : World) (h : Ext wr W2) => lines_step (x := x ++ ⟨#[58]⟩) bz ez h (by have h1 := HPRE.out; have h2 := HTT.out; rw [List.length_append, List.length_append]; omega)
        have HLJ := hx hlj
        have HRZ := hx rz
        have hjm : (j : Int) < (nl : Int) := by omega
        obtain ⟨xl, hxl⟩ : ∃ xl, xl = x ++ ⟨#[58]⟩ := ⟨_, rfl⟩
        have x0 := Ext.refl wr
        have dz := rz.cell (i := 0) rfl
        have HXL := hx hxl
        clear hsu hpre hx0 hlj rz
        go_wp2_with (first
         | (go_at_call 27; refine (HL.out _ x0).mono ?_; rintro e w3 ⟨rfl, b3, e3, k3⟩))
        go_roundw
        case rel => exact ⟨j + 1, HLJ.out, by go_num, by rw [HSV.out, ← List.append_assoc]; exact b3, e3, k3.row HRZ.out bs (by decide)⟩
        case measure => simp [RowKit.intOf]; omega
       ·obtain rfl : nl = j := by omega
        subst hsbe
        rw [List.take_of_length_le (l := labels) (by rw [HNL.out]; exact Nat.le_refl _)] at bz
        have dz0 := rz.cell (i := 0) rfl
        have dz1 := rz.cell (i := 1) rfl
        have dz2 := rz.cell (i := 2) rfl
        have dz3 := rz.cell (i := 3) rfl
        have dz4 := rz.cell (i := 4) rfl
        have dz5 := rz.cell (i := 5) rfl
        have dz6 := rz.cell (i := 6) rfl
        have dz7 := rz.cell (i := 7) rfl
        have dz8 := rz.cell (i := 8) rfl
        have HL := hx fun (W2 : World) (h : Ext wr W2) => lines_step (x := CS) bz ez h (by have h1 := HPRE.out; have h2 := HTT.out; rw [List.length_append, List.length_append]; omega)
        have HEZ := hx ez
        clear hj hlj bz
        go_wp2_with (first
         | (go_at_call 12; refine (HCC.out _ ez).mono ?_; rintro e w2 ⟨rfl, x2⟩)
         | (go_at_call 27; refine (HL.out _ x2).mono ?_; rintro e w3 ⟨rfl, b3, e3, k3⟩))
        go_roundw
        case rel => exact ⟨k + 1, HLT.out, by go_num, by rw [HSU.out]; simpa only [List.append_assoc] using b3, e3⟩
        case measure => simp [RowKit.intOf]; omega
     ·obtain rfl : m = k := by omega
      rw [List.take_of_length_le (by rw [← HM.out]; exact Nat.le_refl _), ← HPT.out] at bw
      have HSt := hx (Tryz.Builder_String_any_k w1.heap.size w1.heap.size PT wr bw he.size)
      have HE := hx he
      clear bw he
      go_wp2_with (go_at_call 28; refine HSt.out.mono ?_; rintro e w3 ⟨rfl, b3, e3, k3⟩)
      go_ret
      exact ⟨by rw [HPE.out]; rfl, X1.out.trans (Below.trans HE.out e3)⟩
 ·have hz' : (P2 != 0) = true := by simpa using hz
  rw [if_neg hz]
  clear hz
  go_enter Tryz.func13, Tryz.ntmps13
  go_wp2_with fail
  refine HC.out.mono ?_
  rintro e w1 ⟨rfl, e1⟩
  rw [← HW0.out] at e1
  go_wp2
  go_ret
  exact ⟨rfl, E0.out.trans e1⟩
end Go.Proofs.YtocnmjpldpbioaaGreatDoor


set_option linter.unusedVariables false
set_option linter.unusedSimpArgs false
namespace Go.Proofs.YtocnmjpldpbioaaGreatDoor
open Go.RowKit Go.Lib

def s11A : Stmt := { labels := [], ins := ⟨71, false, 1, 10, -8, 0⟩, target := ⟨#[]⟩, map := ⟨#[]⟩ }
def s11B : Stmt := { labels := [⟨#[97]⟩], ins := ⟨68, false, 0, 0, 0, 0⟩, target := ⟨#[]⟩, map := ⟨#[]⟩ }
theorem numS_neg {i : Nat} (h : i < 10) (h0 : 0 < i) : numS (-(i : Int)) = ⟨#[45, UInt8.ofNat (48 + i)]⟩ := by
 unfold numS Lib.itoa
 have e : (-(i : Int)).natAbs = i := by omega
 have e2 : (-(i : Int)) < 0 := by omega
 first | (rw [if_pos e2, e, Lib.decDigits_one h]; rfl) | (simp [e2, Lib.decDigits_one h]; rfl)
theorem numS_one {i : Nat} (h : i < 10) : numS (i : Int) = ⟨#[UInt8.ofNat (48 + i)]⟩ := by
 unfold numS Lib.itoa
 have e2 : ¬ (i : Int) < 0 := by omega
 first | (rw [if_neg e2, Int.toNat_natCast, Lib.decDigits_one h]; rfl) | (simp [e2, Lib.decDigits_one h]; rfl)
theorem num7 : numS (-7) = ⟨#[45, 55]⟩ := numS_neg (i := 7) (by decide) (by decide)
theorem num8 : numS (-8) = ⟨#[45, 56]⟩ := numS_neg (i := 8) (by decide) (by decide)
theorem num4 : numS 4 = ⟨#[52]⟩ := numS_one (i := 4) (by decide)
theorem num1 : numS 1 = ⟨#[49]⟩ := numS_one (i := 1) (by decide)
theorem num2 : numS 2 = ⟨#[50]⟩ := numS_one (i := 2) (by decide)
theorem num3 : numS 3 = ⟨#[51]⟩ := numS_one (i := 3) (by decide)
theorem nam1 : nameOf 1 = ⟨#[114, 49]⟩ := (nameOf_in (n := 1) (by decide)).trans (by rw [Lib.decDigits_one (by decide)]; rfl)
theorem nam2 : nameOf 2 = ⟨#[114, 50]⟩ := (nameOf_in (n := 2) (by decide)).trans (by rw [Lib.decDigits_one (by decide)]; rfl)
theorem nam10 : nameOf 10 = ⟨#[114, 49, 48]⟩ := (nameOf_in (n := 10) (by decide)).trans (by rw [Lib.decDigits_two (by decide) (by decide)]; rfl)
theorem mem11 : memS 2 4 = ⟨#[91, 114, 50, 43, 52, 93]⟩ := by
 unfold memS offS
 rw [nam2, num4]
 decide +kernel
theorem def11 : defS ⟨⟨#[109]⟩, 1, 2, 3⟩ = ⟨#[109, 97, 112, 32, 109, 32, 49, 32, 50, 32, 51]⟩ := by
 unfold defS
 rw [if_pos (by decide +kernel)]
 dsimp only
 rw [num1, num2, num3]
 decide +kernel
theorem code11A : codeS s11A = ⟨#[108, 100, 120, 119, 32, 114, 49, 44, 32, 91, 114, 49, 48, 45, 56, 93]⟩ := by
 unfold codeS
 rw [if_pos (by decide +kernel)]
 unfold opsL memS offS s11A
 dsimp only
 rw [nam1, nam10, num8]
 decide +kernel
theorem code11B : codeS s11B = ⟨#[101, 120, 105, 116]⟩ := by
 unfold codeS
 rw [if_pos (by decide +kernel), show formN s11B.ins.op = 6 by decide +kernel]
 unfold opsL
 decide +kernel
theorem prog11 : progS [] [s11B] = ⟨#[97, 58, 10, 101, 120, 105, 116, 10]⟩ := by
 unfold progS
 rw [if_pos (by decide +kernel)]
 have e : progT [] [s11B] = [97, 58, 10, 101, 120, 105, 116, 10] := by
  unfold progT stmtT
  simp only [List.flatMap_nil, List.flatMap_cons, List.append_nil, List.nil_append]
  rw [code11B]
  decide +kernel
 rw [e]
end Go.Proofs.YtocnmjpldpbioaaGreatDoor


set_option linter.unusedVariables false
set_option linter.unusedSimpArgs false
namespace Go.Proofs.YtocnmjpldpbioaaGreatDoor
open Go.RowKit Go.Lib

theorem isStmts11 {w4 W : World} (he : Ext ((w4.alloc (.cells #[.string ⟨#[97]⟩] 9)).alloc (.cells #[.slice (some ⟨w4.heap.size, 0, none⟩) 1 1, .int .i64 68, .bool false, .int .i64 0, .int .i64 0, .int .i64 0, .int .i64 0, .string ⟨#[]⟩, .string ⟨#[]⟩] 34)) W) :
  IsStmts W (.slice (some ⟨w4.heap.size + 1, 0, none⟩) 1 1) [s11B] := by
 have r1 := (RowV.new w4 [.string ⟨#[97]⟩] 9).ext ((Ext.new _ _).trans he)
 have r2 := (RowV.new (w4.alloc (.cells #[.string ⟨#[97]⟩] 9)) [.slice (some ⟨w4.heap.size, 0, none⟩) 1 1, .int .i64 68, .bool false, .int .i64 0, .int .i64 0, .int .i64 0, .int .i64 0, .string ⟨#[]⟩, .string ⟨#[]⟩] 34).ext he
 rw [show (w4.alloc (.cells #[.string ⟨#[97]⟩] 9)).heap.size = w4.heap.size + 1 by simp] at r2
 refine ⟨some ⟨w4.heap.size + 1, 0, none⟩, 1, rfl, ⟨Nat.le_refl 1, by decide⟩, by simp, (fun e => by cases e), fun i u hu => ⟨w4.heap.size + 1, 0, rfl, ?_⟩⟩
 match i, hu with
 | 0, hu =>
  obtain rfl := Option.some.inj hu
  refine ⟨_, r2.cell (i := 0) rfl, ⟨some ⟨w4.heap.size, 0, none⟩, 1, rfl, ⟨Nat.le_refl 1, by decide⟩, by simp [s11B], (fun e => by cases e), fun i u hu => ⟨w4.heap.size, 0, rfl, ?_⟩⟩,
   ⟨r2.cell (i := 1) rfl, r2.cell (i := 2) rfl, r2.cell (i := 3) rfl, r2.cell (i := 4) rfl, r2.cell (i := 5) rfl, r2.cell (i := 6) rfl⟩, by constructor <;> exact ⟨by decide, by decide⟩, ⟨r2.cell (i := 7) rfl, by decide⟩, r2.cell (i := 8) rfl, by decide⟩
  match i, hu with
  | 0, hu =>
   obtain rfl := Option.some.inj hu
   exact ⟨r1.cell (i := 0) rfl, by decide⟩
  | n + 1, hu => simp [s11B] at hu
 | n + 1, hu => simp at hu
set_option maxRecDepth 40000 in
set_option maxHeartbeats 8000000 in
theorem alive11_any (w : World) (hG : GlobP w) (hN : NoneV w) (hWd : WidN w) (hP : PowV w) : Calls Tryz.prog 5 #[] w fun e w' => e = .returned (.bool true) ∧ Ext w w' := by
 have x1 := Ext.new w (.cells #[.slice none 0 0, .int .i64 71, .bool false, .int .i64 1, .int .i64 10, .int .i64 (-8), .int .i64 0, .string ⟨#[]⟩, .string ⟨#[]⟩] 34)
 have r1 := RowV.new w [.slice none 0 0, .int .i64 71, .bool false, .int .i64 1, .int .i64 10, .int .i64 (-8), .int .i64 0, .string ⟨#[]⟩, .string ⟨#[]⟩] 34
 have okA : s11A.ins.Ok := by constructor <;> exact ⟨by decide, by decide⟩
 have H1 : Hx (∀ W, Ext w W → Calls Tryz.prog 12 #[.agg #[.slice none 0 0, .int .i64 71, .bool false, .int .i64 1, .int .i64 10, .int .i64 (-8), .int .i64 0, .string ⟨#[]⟩, .string ⟨#[]⟩]] W fun e w' => e = .returned (.string ⟨#[108, 100, 120, 119, 32, 114, 49, 44, 32, 91, 114, 49, 48, 45, 56, 93]⟩) ∧ Ext W w') :=
  hx fun W hW => by have h := print_Code_any none 0 s11A W (Sl.nil _) (by decide) okA (by decide) (by decide) ⟨hG.ext hW, .inl (by simp [Stmt.names, s11A, QuietN])⟩ (hN.ext hW) (.inl (by decide)) (hWd.ext hW) (hP.ext hW) (by decide +kernel); rw [code11A] at h; exact h
 have H2 : Hx (∀ W, Ext w W → Calls Tryz.prog 8 #[.int .i64 2, .int .i64 4] W fun e w' => e = .returned (.string ⟨#[91, 114, 50, 43, 52, 93]⟩) ∧ Ext W w') :=
  hx fun W hW => by have h := print_Memory_any 2 4 W ⟨by decide, by decide⟩ ⟨by decide, by decide⟩ (hWd.ext hW) (hP.ext hW); rw [mem11] at h; exact h
 have H3 : Hx (∀ W, Ext w W → Calls Tryz.prog 6 #[.int .i64 (-7)] W fun e w' => e = .returned (.string ⟨#[45, 55]⟩) ∧ Ext W w') :=
  hx fun W hW => by have h := print_Number_any (-7) W ⟨by decide, by decide⟩ (hP.ext hW); rw [num7] at h; exact h
 have H4 : Hx (∀ W, Ext w W → Calls Tryz.prog 10 #[.agg #[.string ⟨#[109]⟩, .int .i64 1, .int .i64 2, .int .i64 3]] W fun e w' => e = .returned (.string ⟨#[109, 97, 112, 32, 109, 32, 49, 32, 50, 32, 51]⟩) ∧ Ext W w') :=
  hx fun W hW => by have h := print_Def_any ⟨⟨#[109]⟩, 1, 2, 3⟩ W (by constructor <;> first | exact ⟨by decide, by decide⟩ | decide) ⟨hG.ext hW, .inl (by simp [QuietN])⟩ (hN.ext hW) (hWd.ext hW) (hP.ext hW); rw [def11] at h; exact h
 have H5 : Hx (∀ W W', Ext w W → W' = ((W.alloc (.cells #[.string ⟨#[97]⟩] 9)).alloc (.cells #[.slice (some ⟨W.heap.size, 0, none⟩) 1 1, .int .i64 68, .bool false, .int .i64 0, .int .i64 0, .int .i64 0, .int .i64 0, .string ⟨#[]⟩, .string ⟨#[]⟩] 34)) → Calls Tryz.prog 13 #[.agg #[.slice none 0 0, .slice (some ⟨W.heap.size + 1, 0, none⟩) 1 1]] W' fun e w' => e = .returned (.string ⟨#[97, 58, 10, 101, 120, 105, 116, 10]⟩) ∧ Ext W' w') :=
  hx fun W W' hW hE => by
   have hW' : Ext w W' := by rw [hE]; exact hW.trans ((Ext.new _ _).trans (Ext.new _ _))
   have hl : (progT [] [s11B]).length ≤ 1000000 := by
    unfold progT stmtT
    simp only [List.flatMap_nil, List.flatMap_cons, List.append_nil, List.nil_append]
    rw [code11B]
    decide +kernel
   have ho : ∀ s ∈ [s11B], OpsQ s.ins.op W' := by
    intro s hs
    obtain rfl : s = s11B := by simpa using hs
    exact .inl (by decide)
   have h5 : ∀ s ∈ [s11B], formN s.ins.op ≠ 5 := by
    intro s hs
    obtain rfl : s = s11B := by simpa using hs
    decide +kernel
   have h := print_Program_any none (some ⟨W.heap.size + 1, 0, none⟩) 0 0 1 1 [] [s11B] W' rfl (by decide) rfl (by decide) (Sl.nil _) (isStmts11 (by rw [hE]; exact Ext.refl _)) (by decide) ⟨hG.ext hW', .inl (by simp [namesP, Stmt.names, s11B, QuietN])⟩ (hN.ext hW') ho (hWd.ext hW') (hP.ext hW') h5 hl
   rw [prog11] at h
   exact h
 clear hG hN hWd hP okA
 go_enter Tryz.func5, Tryz.ntmps5
 go_wp2_with (first
  | (go_at_call 12; refine (H1.out _ x1).mono ?_; rintro e w1 ⟨rfl, e1⟩; have x2 := x1.trans e1; clear H1 x1 e1)
  | (go_at_call 8; refine (H2.out _ x2).mono ?_; rintro e w2 ⟨rfl, e2⟩; have x3 := x2.trans e2; clear H2 x2 e2)
  | (go_at_call 6; refine (H3.out _ x3).mono ?_; rintro e w3 ⟨rfl, e3⟩; have x4 := x3.trans e3; clear H3 x3 e3)
  | (go_at_call 10; refine (H4.out _ x4).mono ?_; rintro e w4 ⟨rfl, e4⟩; have x5 := x4.trans e4; clear H4 x4 e4)
  | (go_at_call 13; refine (H5.out _ _ x5 rfl).mono ?_; rintro e w5 ⟨rfl, e5⟩))
 go_ret
 exact ⟨ret_bool (by decide), x5.trans (((Ext.new _ _).trans (Ext.new _ _)).trans e5)⟩
end Go.Proofs.YtocnmjpldpbioaaGreatDoor


set_option linter.unusedVariables false
set_option linter.unusedSimpArgs false
namespace Go.Proofs.YtocnmjpldpbioaaGreatDoor
open Go.RowKit Go.Lib

set_option maxRecDepth 40000 in
set_option maxHeartbeats 8000000 in
theorem printParts_any (x r o : Int) (w : World) (hx0 : I64 x) (hr : I64 r) (ho : I64 o) (hG : GlobP w) (hN : NoneV w) (hWd : WidN w) (hP : PowV w) :
  Calls Tryz.prog 3 #[.int .i64 x, .int .i64 r, .int .i64 o] w fun e w' => e = .returned (.bool true) ∧ Ext w w' := by
 have CA := hx (alive11_any w hG hN hWd hP)
 have C1 := hx fun (W : World) (hW : Ext w W) => print_Number_any x W hx0 (hP.ext hW)
 have C2 := hx fun (W : World) => ref01_Format_any x W hx0
 have C3 := hx fun (W : World) (hW : Ext w W) => print_Memory_any r o W hr ho (hWd.ext hW) (hP.ext hW)
 have C4 := hx fun (W : World) => ref11_Memory_any r o W hr ho
 clear hG hN hWd hP hx0 hr ho
 generalize numS x = S at *
 generalize memS r o = T at *
 go_enter Tryz.func3, Tryz.ntmps3
 go_wp2_with (first
  | (go_at_call 5; refine CA.out.mono ?_; rintro e w1 ⟨rfl, e1⟩; clear CA)
  | (go_at_call 6; refine (C1.out _ e1).mono ?_; rintro e w2 ⟨rfl, x2⟩; have e2 := e1.trans x2; clear C1 e1 x2)
  | (go_at_call 7; refine (C2.out _).mono ?_; rintro e w' ⟨rfl, rfl⟩; clear C2)
  | (go_at_call 8; refine (C3.out _ e2).mono ?_; rintro e w3 ⟨rfl, x3⟩; have e3 := e2.trans x3; clear C3 e2 x3)
  | (go_at_call 9; refine (C4.out _).mono ?_; rintro e w' ⟨rfl, rfl⟩; clear C4))
 go_ret
 exact ⟨ret_bool (by simp), e3⟩
end Go.Proofs.YtocnmjpldpbioaaGreatDoor


set_option linter.unusedVariables false
set_option linter.unnecessarySimpa false
set_option linter.unusedSimpArgs false
namespace Go.Proofs.YtocnmjpldpbioaaGreatDoor
open Go.RowKit Go.Lib Go.ChangeShapes

theorem plainH : (Rows.printPartsRow.laid.all fun x => x.2.handleName?.isNone) = true := by kernel_rfl
theorem own : ownKnob Tryz.prog.godebug = none := by kernel_rfl
theorem none_of_laid {W : World} (h : laidMet Tryz.prog Rows.printPartsRow.laid W) : NoneV W := by
 obtain ⟨g, t, cs, fuel, p, h1, h2, h3, h4⟩ := Lib.laidMet.reads (n := "slotcode/prog.none") (d := Rows.laid_slotcode_prog_none) h (by simp [Rows.printPartsRow])
 obtain rfl : g = 1 := by
  have : Tryz.prog.globalNamed "slotcode/prog.none" = some 1 := by kernel_rfl
  rw [this] at h1; exact (Option.some.inj h1).symm
 obtain rfl : t = 65 := by
  have : (Tryz.prog.globals[1]?).map (·.type) = some 65 := by kernel_rfl
  rw [this] at h2; exact (Option.some.inj h2).symm
 have e := Lib.ints_of_struct (k := .i64) (zs := [0, 0]) Tryz.underlying65 (by
  intro i f hf
  match i with
  | 0 => obtain rfl := Option.some.inj hf; exact ⟨by kernel_rfl, rfl, by kernel_rfl⟩
  | 1 => obtain rfl := Option.some.inj hf; exact ⟨by kernel_rfl, rfl, by kernel_rfl⟩
  | n + 2 => cases hf) (by kernel_rfl) h4
 have hk : cs = #[.int .i64 0, .int .i64 0] := by
  apply Array.ext'
  simpa using e
 subst hk
 exact ⟨World.var?_cell h1 h3 0, World.var?_cell h1 h3 1⟩
theorem props_of_laid {W : World} (h : laidMet Tryz.prog Rows.printPartsRow.laid W) : GlobP W := by
 have h6 := h.tail.tail.tail
 have e : (Rows.laid_unicode_properties : DataW Unit) = Lib.tabData .u8 Lib.propertiesTab := by kernel_rfl
 rw [e] at h6
 exact Lib.tabIs_of_head (n := 256) (g := 12) (t := 113) (e := 5) (by kernel_rfl) (by kernel_rfl) (by kernel_rfl) (by kernel_rfl) (by kernel_rfl) (by kernel_rfl) h6
theorem pow_of_laid {W : World} (h : laidMet Tryz.prog Rows.printPartsRow.laid W) : PowV W := by
 have h6 := h.tail.tail
 have e : (Rows.laid_internal_strconv_uint64pow10 : DataW Unit) = Lib.tabData .u64 Lib.pow10Tab := by kernel_rfl
 rw [e] at h6
 exact Lib.tabIs_of_head (n := 20) (g := 5) (t := 143) (e := 41) (by kernel_rfl) (by kernel_rfl) (by kernel_rfl) (by kernel_rfl) (by kernel_rfl) (by kernel_rfl) h6
theorem wid_of_laid {W : World} (h : laidMet Tryz.prog Rows.printPartsRow.laid W) : WidN W := by
 have h7 := h.tail.tail.tail.tail
 have e : (Rows.laid_slotcode_num_widths : DataW Unit) = Lib.tabData .i64 [8, 16, 32, 64] := by rfl
 rw [e] at h7
 have t : Lib.TabIs Tryz.prog W "slotcode/num.widths" .i64 [8, 16, 32, 64] := Lib.tabIs_of_head (n := 4) (g := 0) (t := 93) (e := 3) (by kernel_rfl) (by kernel_rfl) (by kernel_rfl) (by kernel_rfl) (by kernel_rfl) (by kernel_rfl) h7
 have hg : Tryz.prog.globalNamed "slotcode/num.widths" = some 0 := by kernel_rfl
 exact ⟨World.var?_cell hg t 0, World.var?_cell hg t 1, World.var?_cell hg t 2, World.var?_cell hg t 3⟩
end Go.Proofs.YtocnmjpldpbioaaGreatDoor


set_option linter.unusedVariables false
namespace Go.Proofs.YtocnmjpldpbioaaGreatDoor
set_option maxRecDepth 100000
theorem p_lay : laidOutB Tryz.pinned.checked.prog = true := by kernel_rfl
theorem p_mr : mapsRowed Tryz.pinned.checked.prog = true := by kernel_rfl
theorem p_pk : (Rows.printPartsRow.plainKeys == Tryz.pinned.checked.prog.plainKeys) = true := by kernel_rfl
theorem p_sh : Tryz.pinned.checked.prog.stopsHeard = true := by kernel_rfl
theorem p_me : Tryz.pinned.checked.prog.mayEnter = true := by kernel_rfl
theorem p_lf : (Rows.printPartsRow.lifted == Tryz.pinned.checked.prog.liftsFinal) = true := by kernel_rfl
theorem p_mk : (Tryz.pinned.checked.prog.make == some Rows.printPartsRow.make) = true := by kernel_rfl
end Go.Proofs.YtocnmjpldpbioaaGreatDoor
