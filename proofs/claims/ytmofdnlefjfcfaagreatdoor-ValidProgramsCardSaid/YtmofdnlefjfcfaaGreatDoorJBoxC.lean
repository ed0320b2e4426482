/- The layer box: check of the program and of the reference. -/
import Derived.Test.YtmofdnlefjfcfaaGreatDoorJCore
import Derived.BigQuiet
import Derived.Deep.QuietTactic
import Derived.Deep.RegionWith
import Derived.Deep.RegionLaw
set_option linter.unusedVariables false
set_option linter.unusedSimpArgs false
namespace Go.Proofs.YtmofdnlefjfcfaaGreatDoor
open Go.RowKit

def kindsOk : Int → List Sec → Bool
 | _, [] => true
 | last, s :: l => decide (last < s.kind ∧ s.kind ≤ 65535) && kindsOk s.kind l
def secErr (l : List Sec) : Int := if l.length > 16 ∨ secSize l > 1073741824 then 16 else if kindsOk 0 l then 0 else 4
theorem kindsOk_pos {last : Int} {l : List Sec} (h : kindsOk last l = true) (h0 : 0 ≤ last) : ∀ s ∈ l, 0 ≤ s.kind ∧ s.kind ≤ 65535 := by
 induction l generalizing last with
 | nil => intro s hs; cases hs
 | cons x l ih =>
  simp [kindsOk] at h
  intro s hs
  rcases List.mem_cons.1 hs with rfl | hs
  ·omega
  ·exact ih h.2 (by omega) s hs

set_option maxRecDepth 40000 in
set_option maxHeartbeats 800000 in
theorem box_check_any (v : Value) (l : List Sec) (w : World) (hl : l.length ≤ 1000) (hv : IsSecs w v l) :
  Calls Tryz.prog 63 #[v] w fun e w' => e = .returned (.int .i64 (secErr l)) ∧ Ext w w' := by
 obtain ⟨A, c, rfl, -, -, hv'⟩ := hv.form
 by_cases h16 : 16 < l.length
 ·have hd : Hx (secErr l = 16) := ⟨by simp [secErr]; intro h; omega⟩
  go_enter Tryz.func63, Tryz.ntmps63
  go_wp2
  go_ret
  exact ⟨ret_int hd.out.symm, Ext.refl _⟩
 ·by_cases hs : 1073741824 < secSize l
  ·have hd : Hx (secErr l = 16) := ⟨by simp [secErr]; intro h; omega⟩
   go_enter Tryz.func63, Tryz.ntmps63
   go_wp2_with (go_at_call 64; refine (box_Size_any _ l _ hl hv').mono ?_; rintro e w1 ⟨rfl, e1⟩)
   go_ret
   exact ⟨ret_int hd.out.symm, e1⟩
  ·have hd : Hx (secErr l = if kindsOk 0 l then 0 else 4) := ⟨by unfold secErr; rw [if_neg (by omega)]⟩
   go_enter Tryz.func63, Tryz.ntmps63
   go_wp2_with (go_at_call 64; refine (box_Size_any _ l _ hl hv').mono ?_; rintro e w1 ⟨rfl, e1⟩)
   go_loopw [3, 16] (fun n i wr => ∃ (pre suf : List Sec) (n' : Int), l = pre ++ suf ∧ i = .int .i64 (pre.length : Nat) ∧ n = .int .i64 n' ∧ kindsOk 0 l = kindsOk n' suf ∧ Ext w wr)
    (fun _ i _ => l.length - (RowKit.intOf i).toNat)
   case atStart => exact ⟨[], l, 0, rfl, rfl, rfl, rfl, e1⟩
   case round =>
    obtain ⟨pre, suf, n', hl', rfl, rfl, hkk, hb⟩ := hrel
    have HK := hx hkk; clear hkk
    cases suf with
    | cons x suf =>
     have hlt : pre.length < l.length := by rw [hl']; simp
     rw [hl'] at hv'
     obtain ⟨b, o, rfl, d1, v', d2, hv2⟩ := hv'.at
     obtain ⟨A', c', rfl, -, hxl, -⟩ := hv2.form
     replace d1 := hb.cell d1.1
     replace d2 := hb.cell d2
     have HL := hx hl'; clear hl'
     by_cases h1 : x.kind ≤ n'
     ·have hf : Hx (kindsOk 0 l = false) := ⟨by rw [HK.out]; simp [kindsOk]; intro h; omega⟩
      go_wp2
      go_ret
      exact ⟨ret_int (by rw [hd.out, hf.out]; rfl), hb.alloc _⟩
     ·by_cases h2 : 65535 < x.kind
      ·have hf : Hx (kindsOk 0 l = false) := ⟨by rw [HK.out]; simp [kindsOk]; intro h; omega⟩
       go_wp2
       go_ret
       exact ⟨ret_int (by rw [hd.out, hf.out]; rfl), hb.alloc _⟩
      ·go_wp2
       go_roundw
       case rel => exact ⟨pre ++ [x], suf, x.kind, by simp [HL.out], by simp, rfl, by rw [HK.out]; simp [kindsOk]; intro h; omega, hb.alloc _⟩
       case measure => simp [RowKit.intOf]; omega
    | nil =>
     obtain rfl : l = pre := by simpa using hl'
     clear hl'
     have hlt : ¬ l.length < l.length := by omega
     go_wp2
     go_ret
     exact ⟨ret_int (by rw [hd.out, HK.out]; rfl), hb⟩

end Go.Proofs.YtmofdnlefjfcfaaGreatDoor


set_option linter.unusedVariables false
set_option linter.unusedSimpArgs false
namespace Go.Proofs.YtmofdnlefjfcfaaGreatDoor
open Go.RowKit Go.Lib

/-- The bytes of a text. -/
def bytesOf (s : ByteArray) : List Int := s.data.toList.map fun b => (b.toNat : Int)
theorem bytesOf_length (s : ByteArray) : (bytesOf s).length = s.size := by simp [bytesOf]
theorem bytesOf_byt (s : ByteArray) : Byt (bytesOf s) := by
 intro x hx
 simp only [bytesOf, List.mem_map] at hx
 obtain ⟨b, _, rfl⟩ := hx
 have := b.toNat_lt
 omega
theorem strCells_eq (s : ByteArray) : strCells s = (bytesOf s).map (Value.int .u8) := by simp [strCells, bytesOf]

section
variable {P : Program} {ops : Array Oper} {rest : List Oper} {o : Oper} {a : Act} {Q : Exit → Act → World → Prop}
theorem RowB.setRow {w : World} {g : Nat} {L : List Int} (h : RowB w g L) (L' : List Int) : RowB (w.setRow g (L'.map (Value.int .u8)).toArray) g L' := by
 unfold RowB at *
 simp only [World.setRow, Array.getElem?_modify, h, if_true, Option.map_some]
theorem grown_setRow (w : World) (g : Nat) (cs : Array Value) : w.grownBy (w.setRow g cs) (some g) :=
 ⟨rfl, rfl, rfl, by simp [World.setRow], fun i _ hi => setRow_other w g i cs (fun e => hi (by rw [e]))⟩
/-- copy(dst, s), s a text. -/
theorem wp_copyStr {w : World} {dT sT : TypeId} (hu : P.underlying dT = some (.slice 5)) (hsz : (P.info? 5).map (·.size) = some 1) {g off dLen dCap : Nat} {L : List Int} (hR : RowB w g L) (s : ByteArray)
  (hfit : off + s.size ≤ L.length) (hn : s.size ≤ dLen) (hgd : o.guard = none) {d x : Operand} (ho : o.op = .call { callee := .builtin .copy, args := #[d, x], argTypes := #[dT, sT] })
  (hd : a.eval d = .slice (some ⟨g, off, none⟩) dLen dCap) (hs : a.eval x = .string s)
  (h : ∀ w', RowB w' g (splice L off (bytesOf s)) → w.grownBy w' (some g) → wpList P ops Q rest (a.put o.dst (.int .i64 s.size)) w') : wpList P ops Q (o :: rest) a w := by
 refine wpList_plain hgd fun K hK => ?_
 obtain ⟨i0, hi, hi1⟩ := Option.map_eq_some_iff.1 hsz
 have hf := run_firstCells_string (P := P) w 1 s
 have hst := run_storeCells_at P g off 5 (strCells s) 0 (L.map (Value.int .u8)).toArray w hR (by simp [strCells_length]; omega) (strCells_oneCell s)
 have hrun : (Builtin.copy_ #[dT, sT] o.type #[.slice (some ⟨g, off, none⟩) dLen dCap, .string s]).run P w = .ok (.int .i64 s.size) (w.setRow g ((splice L off (bytesOf s)).map (Value.int .u8)).toArray) := by
  simp only [Nat.add_zero] at hst
  have e : ((L.map (Value.int .u8)).toArray.toList.take off ++ strCells s ++ (L.map (Value.int .u8)).toArray.toList.drop (off + (strCells s).length)) = (splice L off (bytesOf s)).map (Value.int .u8) := by
   simp [splice, strCells_eq, List.map_take, List.map_drop]
  rw [e] at hst
  simp [Builtin.copy_, run_underlying hu, sizeOf, typeInfo, hi, hi1, Builtin.lenOf, Nat.min_eq_left hn, hf, hst, goInt]
 unfold Oper.wp
 simp [execOp, ho, resolve, invoke, builtin, hd, hs, hrun, Result.andThen]
 exact hK _ _ (h _ (hR.setRow _) (grown_setRow _ _ _))
theorem run_copyB {w : World} {dT sT ty : TypeId} (hu : P.underlying dT = some (.slice 5)) (hsz : (P.info? 5).map (·.size) = some 1) {g off dLen dCap : Nat} {L : List Int} (hR : RowB w g L) {y : Value} {ys : List Int} (hy : IsB w y ys)
  (hfit : off + ys.length ≤ L.length) (hn : ys.length ≤ dLen) {A : Option Addr} (hA : 0 < ys.length → A = some ⟨g, off, none⟩) :
  ∃ w', (Builtin.copy_ #[dT, sT] ty #[.slice A dLen dCap, y]).run P w = .ok (.int .i64 ys.length) w' ∧ RowB w' g (splice L off ys) ∧ w.grownBy w' (some g) := by
 obtain ⟨A', c, rfl, h1, h2, hnn, h4⟩ := hy
 by_cases h0 : ys.length = 0
 ·obtain rfl : ys = [] := List.eq_nil_of_length_eq_zero h0
  have hrun := run_copy_none (P := P) w dT sT ty 5 A A' dLen dCap 0 c hu hsz (by simp)
  exact ⟨w, by simpa [goInt] using hrun, by rw [splice_nil]; exact hR, World.grownBy.refl _ _⟩
 ·have hp : 0 < ys.length := by omega
  obtain ⟨b, o', hA', _⟩ := h4 0 _ (List.getElem?_eq_getElem hp)
  have hrun := run_copy_row (P := P) w dT sT ty 5 g off dLen dCap ⟨b, o', none⟩ ys.length c (L.map (Value.int .u8)).toArray 5 (ys.map (Value.int .u8)) hu hsz hR (by rw [List.length_map]; exact (Nat.min_eq_left hn).symm) (fun j v hv => by
   rw [List.getElem?_map, Option.map_eq_some_iff] at hv
   obtain ⟨z, hz, rfl⟩ := hv
   obtain ⟨b2, o2, hb2, hE⟩ := h4 j z hz
   rw [hA'] at hb2; cases hb2
   rw [add_plain]; rw [Nat.mul_one] at hE; exact hE.1) (by simpa using hfit) (by simp; intros; rfl)
  have e : (L.map (Value.int .u8)).toArray.toList.take off ++ ys.map (Value.int .u8) ++ (L.map (Value.int .u8)).toArray.toList.drop (off + (ys.map (Value.int .u8)).length) = (splice L off ys).map (Value.int .u8) := by
   simp [splice, List.map_take, List.map_drop]
  rw [e] at hrun
  subst hA'
  rw [hA hp]
  exact ⟨_, by simpa [goInt] using hrun, hR.setRow _, grown_setRow _ _ _⟩
theorem step_copyB {K : Act → World → Prop} {E : Prop} {w : World} {dT sT : TypeId} (hu : P.underlying dT = some (.slice 5)) (hsz : (P.info? 5).map (·.size) = some 1) {g off dLen dCap : Nat} {L : List Int} (hR : RowB w g L) {y : Value} {ys : List Int} (hy : IsB w y ys)
  (hfit : off + ys.length ≤ L.length) (hn : ys.length ≤ dLen) (hgd : o.guard = none) {d x : Operand} (ho : o.op = .call { callee := .builtin .copy, args := #[d, x], argTypes := #[dT, sT] })
  {A : Option Addr} (hd : a.eval d = .slice A dLen dCap) (hA : 0 < ys.length → A = some ⟨g, off, none⟩) (hs : a.eval x = y)
  (h : ∀ w', RowB w' g (splice L off ys) → w.grownBy w' (some g) → K (a.put o.dst (.int .i64 ys.length)) w') : if Region.wanted o (yielded ops a.tmps) = true then Oper.wp P o a w K Q else E := by
 have hw : Region.wanted o (yielded ops a.tmps) = true := by simp [Region.wanted, hgd]
 rw [if_pos hw]
 obtain ⟨w', hrun, hr, hg⟩ := run_copyB (P := P) (sT := sT) (ty := o.type) (dCap := dCap) hu hsz hR hy hfit hn hA
 unfold Oper.wp
 simp [execOp, ho, resolve, invoke, builtin, hd, hs, hrun, Result.andThen]
 exact h _ hr hg
end
theorem sizeB : (Tryz.prog.info? 5).map (·.size) = some 1 := by kernel_rfl

/-- A row under work: what is laid so far, room, data, room. -/
def st (R : List Int) (r1 : Nat) (D : List Int) (r2 : Nat) : List Int := R ++ (List.replicate r1 0 ++ (D ++ List.replicate r2 0))
theorem st_length (R : List Int) (r1 : Nat) (D : List Int) (r2 : Nat) : (st R r1 D r2).length = R.length + r1 + D.length + r2 := by simp [st]; omega
theorem st_row (R x : List Int) (r1 : Nat) (D : List Int) (r2 : Nat) : splice (st R (x.length + r1) D r2) R.length x = st (R ++ x) r1 D r2 := by
 unfold st
 rw [← List.replicate_append_replicate, List.append_assoc (List.replicate x.length 0), splice_mid _ _ _ _ (by simp)]
 simp
theorem st_data (R : List Int) (r1 : Nat) (D x : List Int) (r2 : Nat) : splice (st R r1 D (x.length + r2)) (R.length + r1 + D.length) x = st R r1 (D ++ x) r2 := by
 unfold st
 rw [← List.replicate_append_replicate]
 have e : ∀ Z : List Int, R ++ (List.replicate r1 0 ++ (D ++ Z)) = (R ++ List.replicate r1 0 ++ D) ++ Z := by intro Z; simp
 rw [e, show R.length + r1 + D.length = (R ++ List.replicate r1 0 ++ D).length by simp; omega, splice_mid _ _ _ _ (by simp)]
 simp
theorem st_pad (R : List Int) (r1 : Nat) (D : List Int) (p r2 : Nat) : st R r1 D (p + r2) = st R r1 (D ++ List.replicate p 0) r2 := by
 unfold st
 rw [← List.replicate_append_replicate]; simp
theorem le_zero (n : Nat) : le n 0 = List.replicate n 0 := by
 induction n with
 | zero => rfl
 | succ n ih => simp [le, ih, List.replicate_succ]
end Go.Proofs.YtmofdnlefjfcfaaGreatDoor


set_option linter.unusedVariables false
set_option linter.unusedSimpArgs false
namespace Go.Proofs.YtmofdnlefjfcfaaGreatDoor
open Go.RowKit Go.Lib

theorem rowB_made (w : World) (N : Nat) : RowB (w.alloc (.cells (madeCells #[.int .u8 0] N) 5)) w.heap.size (List.replicate N 0) := by
 have e : madeCells #[.int .u8 0] N = ((List.replicate N 0).map (Value.int .u8)).toArray := by
  apply Array.ext'
  rw [toList_madeCells_one]; simp
 unfold RowB
 rw [e]
 exact heap_alloc_new w _

theorem RowB.read {w : World} {g N : Nat} {L : List Int} (h : RowB w g L) (hb : Byt L) (hN : L.length = N) (hL : L.length ≤ 1000000000000) : IsB w (.slice (some ⟨g, 0, none⟩) N N) L := by
 subst hN
 refine ⟨_, L.length, rfl, ⟨Nat.le_refl _, by simp only [maxLen]; omega⟩, by omega, (fun h => by cases h), fun i x hx => ⟨g, 0, rfl, ?_, hb x (List.mem_of_getElem? hx)⟩⟩
 rw [Nat.mul_one, Nat.zero_add]; exact h.cell hx

theorem st_skip (R : List Int) (k r1 : Nat) (D : List Int) (r2 : Nat) : st R (k + r1) D r2 = st (R ++ List.replicate k 0) r1 D r2 := by
 unfold st
 rw [← List.replicate_append_replicate, List.append_assoc, List.append_assoc]
theorem st_part (R : List Int) (r1 r2 : Nat) : st R (r1 + r2) [] 0 = st R r1 [] r2 := by
 unfold st
 rw [← List.replicate_append_replicate]; simp
theorem row_set {w' : World} {g o n : Nat} {x : Int} {R D : List Int} {r1 r1' r2 : Nat} (h : RowB w' g (splice (st R r1 D r2) o (le n x))) (ho : o = R.length) (hr : r1 = n + r1') : RowB w' g (st (R ++ le n x) r1' D r2) := by
 subst ho hr
 have e := st_row R (le n x) r1' D r2
 rw [le_length] at e
 rwa [e] at h

theorem byt_append {a b : List Int} (ha : Byt a) (hb : Byt b) : Byt (a ++ b) := by
 intro x hx
 rcases List.mem_append.1 hx with h | h
 ·exact ha x h
 ·exact hb x h
theorem byt_zeros (n : Nat) : Byt (List.replicate n 0) := by
 intro x hx
 have := (List.mem_replicate.1 hx).2
 omega
theorem byt_pad8 {l : List Int} (h : Byt l) : Byt (pad8 l) := byt_append h (byt_zeros _)
theorem byt_rows (l : List Sec) : ∀ a : Int, Byt (rowsOf a l) := by
 induction l with
 | nil => intro a x hx; cases hx
 | cons s l ih => intro a; exact byt_append (le_byt _ _) (byt_append (le_byt _ _) (byt_append (le_byt _ _) (ih _)))
theorem boxOf_byt (l : List Sec) (h : secErr l = 0) (hd : ∀ s ∈ l, Byt s.data) : Byt (boxOf l) := by
 unfold boxOf headB
 refine byt_append (byt_pad8 (byt_append (byt_append ?_ (byt_append (le_byt _ _) (byt_append (le_byt _ _) (byt_append (le_byt _ _) (le_byt _ _))))) (byt_rows _ _))) ?_
 ·intro x hx; simp at hx; omega
 ·intro x hx
  obtain ⟨s, hs, hx⟩ := List.mem_flatMap.1 hx
  exact byt_pad8 (hd s hs) x hx
theorem secs_byt {w : World} {v : Value} {l : List Sec} (h : IsSecs w v l) : ∀ s ∈ l, Byt s.data := Sl.all h fun _ _ _ k => by obtain ⟨_, v, _, h⟩ := k; exact IsB.byt h
def wrOut (l : List Sec) : List Int := if secErr l = 0 then boxOf l else []
set_option maxRecDepth 100000 in
set_option maxHeartbeats 2000000 in
theorem box_Write_any (v : Value) (l : List Sec) (w : World) (hl : l.length ≤ 1000) (hv : IsSecs w v l) :
  Calls Tryz.prog 26 #[v] w fun e w' => ∃ v', e = .returned (.tuple #[v', .int .i64 (secErr l)]) ∧ IsB w' v' (wrOut l) ∧ Ext w w' := by
 obtain ⟨A, c, rfl, -, -, hv'⟩ := hv.form
 by_cases he : secErr l = 0
 ·obtain ⟨N, hN⟩ := Int.eq_ofNat_of_zero_le (secSize_ge l)
  have hle : l.length ≤ 16 ∧ secSize l ≤ 1073741824 ∧ kindsOk 0 l = true := by
   unfold secErr at he
   split at he
   ·omega
   ·rename_i h
    split at he
    ·rename_i h2; exact ⟨by omega, by omega, h2⟩
    ·omega
  obtain ⟨hl16, hS, hK⟩ := hle
  have hks := hx (kindsOk_pos hK (by omega))
  have hNb : N ≤ 1073741824 := by omega
  have hN16 : 16 + 12 * l.length ≤ N := by have := sum_nonneg l; have := up_bd (16 + 12 * l.length); unfold secSize at hN; omega
  have HN := hx hN
  have cS : ∀ W, IsSecs W (.slice A l.length c) l → Calls Tryz.prog 64 #[.slice A l.length c] W fun e w' => e = .returned (.int .i64 (N : Int)) ∧ Ext W w' := fun W hW =>
   (box_Size_any _ l W hl hW).mono fun e w' h => ⟨by rw [h.1, hN], h.2⟩
  have cC := (box_check_any _ l w hl hv').mono (R' := fun e w' => e = .returned (.int .i64 0) ∧ Ext w w') fun e w' h => ⟨by rw [h.1, he], h.2⟩
  have CS := hx cS
  have CC := hx cC
  have HE := hx he
  have hdb := hx (secs_byt hv)
  clear cS cC he hN hK hS
  have hmk := run_make_row' (P := Tryz.prog) 28 5 (.int .u8 0) 1 Tryz.underlying28 (by kernel_rfl) rfl .i64 .i64 N (by omega) (by omega)
  go_enter Tryz.func26, Tryz.ntmps26
  go_wp2_with fail
  refine CC.out.mono ?_
  rintro e w1 ⟨rfl, e1⟩
  go_wp2_with fail
  refine (CS.out _ (IsSecs.ext hv' e1)).mono ?_
  rintro e w2 ⟨rfl, e2⟩
  replace e2 := e1.trans e2
  clear e1
  have r2 := rowB_made w2 N
  go_wp2_with (refine wp_copyStr Tryz.underlying28 sizeB r2 ⟨#[83, 76, 67, 49]⟩ (by simp; show 4 ≤ N; omega) (by show 4 ≤ N; omega) (by rfl) (by rfl) (by rfl) (by rfl) ?_; intro w3 r3 g3)
  replace r3 : RowB w3 w2.heap.size (st [83, 76, 67, 49] (N - 4) [] 0) := by
   have h : List.replicate N (0 : Int) = st [] (4 + (N - 4)) [] 0 := by rw [show 4 + (N - 4) = N by omega]; simp [st]
   rw [h] at r3
   exact (st_row [] [83, 76, 67, 49] (N - 4) [] 0) ▸ r3
  have hgw : w.heap.size ≤ w2.heap.size := e2.size
  replace e2 : Ext w w3 := (e2.alloc _).grown g3 (fun k hk => by cases hk; exact e2.size)
  clear r2 g3 hmk CC
  generalize w2.heap.size = g at *
  have e3 := e2
  clear e2
  go_wp2_with fail
  refine (set_any g 4 2 2 1 _ _ (by omega) (by rw [st_length]; simp; omega) r3 (by rw [st_length]; simp; omega) (by omega) (by omega)).mono ?_
  rintro e w4 ⟨rfl, r4, g4⟩
  replace r4 := row_set (r1' := N - 6) r4 rfl (by omega)
  have e4 := e3.grown g4 (fun k hk => by cases hk; exact hgw)
  clear r3 g4 e3
  go_wp2_with fail
  refine (set_any g 6 2 2 l.length _ _ (by omega) (by rw [st_length]; simp [le_length]; omega) r4 (by rw [st_length]; simp [le_length]; omega) (by omega) (by omega)).mono ?_
  rintro e w5 ⟨rfl, r5, g5⟩
  replace r5 := row_set (r1' := N - 8) r5 (by simp [le_length]) (by omega)
  have e5 := e4.grown g5 (fun k hk => by cases hk; exact hgw)
  clear r4 g5 e4
  go_wp2_with fail
  refine (set_any g 8 4 4 N _ _ (by omega) (by rw [st_length]; simp [le_length]; omega) r5 (by rw [st_length]; simp [le_length]; omega) (by omega) (by omega)).mono ?_
  rintro e w6 ⟨rfl, r6, g6⟩
  replace r6 := row_set (r1' := N - 12) r6 (by simp [le_length]) (by omega)
  have e6 := e5.grown g6 (fun k hk => by cases hk; exact hgw)
  clear r5 g6 e5
  obtain ⟨r1, r2, hr12⟩ : ∃ r1 r2 : Nat, N - 12 = 4 + (r1 + r2) ∧ (16 : Int) + r1 = up (16 + 12 * l.length) ∧ (up (16 + 12 * l.length)) + r2 = N ∧ (r2 : Int) = (l.map fun s => up s.data.length).sum := by
   have h1 := sum_nonneg l; have h2 := up_bd (16 + 12 * l.length); have h3 := HN.out; unfold secSize at h3
   exact ⟨(up (16 + 12 * l.length)).toNat - 16, N - (up (16 + 12 * l.length)).toNat, by omega, by omega, by omega, by omega⟩
  obtain ⟨hr, hA0, hA1, hr2⟩ := hr12
  rw [hr, st_skip, st_part] at r6
  have r6' : RowB w6 g (st (headB l) r1 [] r2) := by
   have h : [83, 76, 67, 49] ++ le 2 1 ++ le 2 l.length ++ le 4 N ++ List.replicate 4 0 = headB l := by
    rw [headB, HN.out, le_zero 4]; simp only [List.append_assoc]
   rw [← h]; exact r6
  have hRb : (headB l).length = 16 := by simp [headB, le_length]
  generalize hR0e : headB l = R0 at *
  clear r6 hr
  have hub := up_bd (16 + 12 * l.length)
  obtain ⟨at0, hat0⟩ : ∃ at0 : Int, at0 = up (16 + 12 * l.length) := ⟨_, rfl⟩
  rw [← hat0] at hA0 hA1 hub
  have cU : ∀ W, Calls Tryz.prog 66 #[.int .i64 (16 + 12 * (l.length : Int))] W fun e w' => e = .returned (.int .i64 at0) ∧ W = w' := fun W => by
   rw [hat0]; exact box_up_any _ W (by omega) (by omega)
  have CU := hx cU
  have HAT := hx hat0
  have HR0 := hx hRb
  have hR0eq := hx hR0e
  have HA0 := hx hA0
  have HA1 := hx hA1
  have HR2 := hx hr2
  clear cU hat0 hRb hA0 hA1 hr2 hR0e
  go_wp2_with (first | (go_at_call 66; refine (CU.out _).mono ?_; rintro e w' ⟨rfl, rfl⟩))
  have hsq : Hx (16 + r1 + r2 = N) := ⟨by have := HA0.out; have := HA1.out; omega⟩
  have hr1 : Hx (16 + 12 * l.length ≤ 16 + r1) := ⟨by have := HA0.out; omega⟩
  clear hub
  go_loopw [6, 40] (fun t i wr => ∃ (pre suf : List Sec) (at' : Nat) (R D : List Int) (q1 q2 : Nat), l = pre ++ suf ∧ i = .int .i64 (pre.length : Nat) ∧ t = .int .i64 at' ∧ RowB wr g (st R q1 D q2) ∧ R.length = 16 + 12 * pre.length ∧ R.length + q1 = 16 + r1 ∧
    R.length + q1 + D.length = at' ∧ R ++ rowsOf at' suf = R0 ++ rowsOf at0 l ∧ D ++ suf.flatMap (fun s => pad8 s.data) = l.flatMap (fun s => pad8 s.data) ∧ at' + q2 = N ∧ (q2 : Int) = (suf.map fun s => up s.data.length).sum ∧ Ext w wr)
   (fun _ i _ => l.length - (RowKit.intOf i).toNat)
  case atStart => exact ⟨[], l, 16 + r1, R0, [], r1, r2, rfl, rfl, by have := HA0.out; rw [← this]; rfl, r6', by simp [HR0.out], by have := HR0.out; omega, by have := HR0.out; simp; omega, by have := HA0.out; congr 2, by simp, hsq.out, HR2.out, e6⟩
  case round =>
   clear e6 r6'
   obtain ⟨pre, suf, at', R, D, q1, q2, hl', rfl, rfl, hr, hRl, hq1, hat, hRe, hDe, hq2, hqs, he⟩ := hrel
   have H1 := hx hRl
   have H2 := hx hq1
   have H3 := hx hat
   have H4 := hx hRe
   have H5 := hx hDe
   have H6 := hx hq2
   have H7 := hx hqs
   cases suf with
   | cons x suf =>
    have hlt : pre.length < l.length := by rw [hl']; simp
    have hkx := hks.out x (by rw [hl']; simp)
    have hvx := hv'
    rw [hl'] at hvx
    obtain ⟨b, o, rfl, d1, v', d2, hv2⟩ := hvx.at
    have hv3 := IsB.ext hv2 he
    obtain ⟨A', c', rfl, -, hxl, -⟩ := hv2.form
    replace d1 := he.cell d1.1
    replace d2 := he.cell d2
    have HL := hx hl'; clear hl' hvx
    have hsz := he.size
    have hgl := hr.lt
    have hb1 : 16 + 12 * (pre.length + 1) ≤ 16 + r1 := by have := hr1.out; omega
    have hb2 : 16 + r1 ≤ at' := by omega
    have hux := up_bd x.data.length
    have hb3 : at' + x.data.length ≤ N := by rw [List.map_cons, List.sum_cons] at hqs; have := sum_nonneg suf; omega
    clear hRl hq1 hat hRe hDe hq2 hqs
    obtain ⟨k, hk⟩ : ∃ k, pre.length = k := ⟨_, rfl⟩
    rw [hk] at d1 d2 hlt hb1 ⊢
    have HK := hx hk; clear hk
    have hkN : 16 + 12 * (k + 1) ≤ N := by omega
    go_wp2_with fail
    rw [show 16 + 12 * (k + 1) - (16 + 12 * k) = 12 by omega]
    have hbx : ∀ j u, (wr.alloc (.cells #[.int .i64 x.kind, .slice A' x.data.length c'] 71)).cell? ⟨wr.heap.size, j, none⟩ = some u → ∀ w2 : World, (wr.alloc (.cells #[.int .i64 x.kind, .slice A' x.data.length c'] 71)).grownBy w2 (some g) → w2.cell? ⟨wr.heap.size, j, none⟩ = some u := by
     intro j u h w2 hg
     exact hg.cell h (by simp; omega)
    have hdc := hbx 0 (.int .i64 x.kind) (by simp)
    have rA := RowB.ext hr (Ext.new wr (.cells #[.int .i64 x.kind, .slice A' x.data.length c'] 71))
    have hS1 : Hx (16 + 12 * k + 4 ≤ (st R q1 D q2).length) := ⟨by rw [st_length]; have := H6.out; have := H3.out; have := H2.out; omega⟩
    have hS2 : Hx ((st R q1 D q2).length = N) := ⟨by rw [st_length]; have := H6.out; have := H3.out; omega⟩
    go_region_with (go_at_call 65; refine (set_any g (16 + 12 * k) 4 4 x.kind (st R q1 D q2) _ (by omega) hS1.out (by exact rA) (by have := hS2.out; omega) (by omega) (by omega)).mono ?_; rintro e w8 ⟨rfl, r8, g8⟩)
    replace r8 := row_set (r1' := q1 - 4) r8 (by have := H1.out; have := HK.out; omega) (by have := H2.out; have := H1.out; have := HK.out; omega)
    have e8 : Ext w w8 := ((he.alloc _).drew).grown g8 (fun k hk => by cases hk; exact hgw)
    have d80 : w8.cell? ⟨wr.heap.size, 0, none⟩ = some (.int .i64 x.kind) := hbx 0 (.int .i64 x.kind) (by simp) w8 ⟨g8.os, g8.tape, g8.output, g8.size, g8.block⟩
    have d81 : w8.cell? ⟨wr.heap.size, 1, none⟩ = some (.slice A' x.data.length c') := hbx 1 (.slice A' x.data.length c') (by simp) w8 ⟨g8.os, g8.tape, g8.output, g8.size, g8.block⟩
    have hBs : wr.heap.size < w8.heap.size := by have := g8.size; simp at this; omega
    clear g8 rA hr hbx hdc hS1 hS2 he d1 d2 hsz hv3
    generalize wr.heap.size = B at *
    go_wp2_with fail
    refine (set_any g (16 + 12 * k + 4) 4 4 at' _ _ (by omega) (by rw [st_length]; simp [le_length]; have := H6.out; have := H3.out; have := H2.out; have := H1.out; have := HK.out; omega) r8 (by rw [st_length]; simp [le_length]; have := H6.out; have := H3.out; have := H2.out; have := H1.out; have := HK.out; omega) (by omega) (by omega)).mono ?_
    rintro e w9 ⟨rfl, r9, g9⟩
    replace r9 := row_set (r1' := q1 - 8) r9 (by simp [le_length]; have := H1.out; have := HK.out; omega) (by have := H2.out; have := H1.out; have := HK.out; omega)
    have e9 := e8.grown g9 (fun k hk => by cases hk; exact hgw)
    have d90 := g9.cell d80 (by simp; omega)
    have d91 := g9.cell d81 (by simp; omega)
    have hBs9 : B < w9.heap.size := by have := g9.size; omega
    clear g9 r8 e8 d80 d81 hBs
    go_wp2_with fail
    have hS3 : Hx (16 + 12 * k + 8 + 4 ≤ (st (R ++ le 4 x.kind ++ le 4 (at' : Int)) (q1 - 8) D q2).length) := ⟨by rw [st_length]; simp [le_length]; have := H6.out; have := H3.out; have := H2.out; have := H1.out; have := HK.out; omega⟩
    have hS4 : Hx ((st (R ++ le 4 x.kind ++ le 4 (at' : Int)) (q1 - 8) D q2).length ≤ 2000000000) := ⟨by rw [st_length]; simp [le_length]; have := H6.out; have := H3.out; have := H2.out; have := H1.out; have := HK.out; omega⟩
    go_region_with (go_at_call 65; refine (set_any g (16 + 12 * k + 8) 4 4 x.data.length (st (R ++ le 4 x.kind ++ le 4 (at' : Int)) (q1 - 8) D q2) _ (by omega) hS3.out (by exact r9) (by have := hS4.out; omega) (by omega) (by omega)).mono ?_; rintro e w10 ⟨rfl, r10, g10⟩)
    replace r10 := row_set (r1' := q1 - 12) r10 (by simp [le_length]; have := H1.out; have := HK.out; omega) (by have := H2.out; have := H1.out; have := HK.out; omega)
    have e10 : Ext w w10 := (e9.drew).grown g10 (fun k hk => by cases hk; exact hgw)
    have d100 : w10.cell? ⟨B, 0, none⟩ = some (.int .i64 x.kind) := g10.cell (w := w9.drew) d90 (by simp; omega)
    have d101 : w10.cell? ⟨B, 1, none⟩ = some (.slice A' x.data.length c') := g10.cell (w := w9.drew) d91 (by simp; omega)
    have hBs10 : B < w10.heap.size := by have := g10.size; simp at this; omega
    clear g10 r9 e9 d90 d91 hBs9 hS3 hS4
    go_wp2_with fail
    have i1 : (0 : Int) ≤ (at' : Int) := by omega
    have i2 : (at' : Int) ≤ (N : Int) := by omega
    have hq : Hx (∃ p r : Nat, q2 = x.data.length + (p + r) ∧ (x.data.length : Int) + p = up x.data.length ∧ at' + (x.data.length + p) + r = N ∧ (r : Int) = (suf.map fun s => up s.data.length).sum ∧ p = (up x.data.length).toNat - x.data.length) := by
     have h1 := H7.out; have h2 := H6.out; have h3 := sum_nonneg suf
     rw [List.map_cons, List.sum_cons] at h1
     exact ⟨⟨(up x.data.length).toNat - x.data.length, q2 - (up x.data.length).toNat, by omega, by omega, by omega, by omega, rfl⟩⟩
    have hS5 : Hx (at' + x.data.length ≤ (st (R ++ le 4 x.kind ++ le 4 (at' : Int) ++ le 4 (x.data.length : Int)) (q1 - 12) D q2).length) := ⟨by
     rw [st_length]; simp [le_length]; have := H6.out; have := H3.out; have := H2.out; have := H1.out; have := HK.out; omega⟩
    have hA : 0 < x.data.length → (if N = at' then some (⟨g, 0, none⟩ : Addr) else some ⟨g, at', none⟩) = some ⟨g, at', none⟩ := fun hp => if_neg (by omega)
    have hA' := hx hA; clear hA
    have hn5 : x.data.length ≤ N - at' := by omega
    have r10' : RowB w10.drew g (st (R ++ le 4 x.kind ++ le 4 (at' : Int) ++ le 4 (x.data.length : Int)) (q1 - 12) D q2) := r10
    have hv10 : IsB w10.drew (.slice A' x.data.length c') x.data := IsB.ext hv2 e10.drew
    go_region_law (refine step_copyB (off := at') (dLen := N - at') (dCap := N - at') (y := .slice A' x.data.length c') (A := if N = at' then some (⟨g, 0, none⟩ : Addr) else some ⟨g, at', none⟩) Tryz.underlying28 sizeB r10' hv10 hS5.out hn5 (by rfl) (by rfl) (by rfl) hA'.out (by rfl) ?_; intro w11 r11 g11)
    have e11 : Ext w w11 := (e10.drew).grown g11 (fun k hk => by cases hk; exact hgw)
    have d111 : w11.cell? ⟨B, 1, none⟩ = some (.slice A' x.data.length c') := g11.cell (w := w10.drew) d101 (by simp; omega)
    clear g11 r10 r10' hv10 e10 d100 d101 hBs10 hS5 hA'
    have r11' : Hx (∃ (R' D' : List Int) (p r : Nat), RowB w11 g (st R' (q1 - 12) D' r) ∧ R' = R ++ le 4 x.kind ++ le 4 (at' : Int) ++ le 4 (x.data.length : Int) ∧ D' = D ++ pad8 x.data ∧ ((at' + (x.data.length + p) : Nat) : Int) = at' + up x.data.length ∧
      at' + (x.data.length + p) + r = N ∧ (r : Int) = (suf.map fun s => up s.data.length).sum ∧ p = (up x.data.length).toNat - x.data.length) := by
     obtain ⟨p, r, hp1, hp2, hp3, hp4, hp5⟩ := hq.out
     refine ⟨_, _, p, r, ?_, rfl, rfl, by omega, hp3, hp4, hp5⟩
     rw [hp1] at r11
     have e := st_data (R ++ le 4 x.kind ++ le 4 (at' : Int) ++ le 4 (x.data.length : Int)) (q1 - 12) D x.data (p + r)
     rw [show (R ++ le 4 x.kind ++ le 4 (at' : Int) ++ le 4 (x.data.length : Int)).length + (q1 - 12) + D.length = at' by simp [le_length]; have := H3.out; have := H2.out; have := H1.out; have := HK.out; omega] at e
     rw [e, st_pad] at r11
     have e2 : D ++ x.data ++ List.replicate p 0 = D ++ pad8 x.data := by rw [hp5, pad8, List.append_assoc]
     rw [e2] at r11
     exact r11
    clear r11 hq
    go_wp2_with (first | (go_at_call 66; refine (box_up_any _ _ (by omega) (by omega)).mono ?_; rintro e w' ⟨rfl, rfl⟩))
    go_roundw
    case rel =>
     obtain ⟨R', D', p, r, hR', hRe', hDe', hpu, hpN, hpr, hpp⟩ := r11'.out
     refine ⟨pre ++ [x], suf, at' + (x.data.length + p), R', D', q1 - 12, r, by simp [HL.out], by simp [HK.out], by rw [hpu], hR', by rw [hRe']; simp [le_length]; have := H1.out; omega, by rw [hRe']; simp [le_length]; have := H2.out; have := H1.out; have := HK.out; omega, ?_, ?_, by rw [hDe', ← H5.out]; simp, hpN, hpr, e11⟩
     ·rw [hRe', hDe']
      have h := pad8_length x.data
      simp [le_length]; have := H3.out; have := H2.out; have := H1.out; have := HK.out; omega
     ·rw [hRe', ← H4.out, hpu]; simp [rowsOf]
    case measure => simp [RowKit.intOf]; omega
   | nil =>
    obtain rfl : l = pre := by simpa using hl'
    clear hl'
    have hlt : ¬ l.length < l.length := by omega
    clear hRl hq1 hat hRe hDe hq2 hqs
    go_wp2
    go_ret2
    refine ⟨.slice (some ⟨g, 0, none⟩) N N, by rw [HE.out]; rfl, ?_, he⟩
    rw [wrOut, if_pos HE.out]
    have hfin : st R q1 D q2 = boxOf l := by
     have h4 := H4.out; have h5 := H5.out; have h7 := H7.out; have h1 := H1.out; have h2 := H2.out; have h3 := HA0.out; have h8 := HAT.out
     simp [rowsOf] at h4 h5 h7
     have hq : q2 = 0 := by omega
     have hR' : R0 = headB l := hR0eq.out.symm
     unfold boxOf st
     rw [hq, h5, h4, hR', ← h8]
     have e1 : pad8 (headB l ++ rowsOf at0 l) = (headB l ++ rowsOf at0 l) ++ List.replicate q1 0 := by
      unfold pad8
      rw [← hR', ← h4, h1]
      have hz : (up ((16 + 12 * l.length : Nat) : Int)).toNat - (16 + 12 * l.length) = q1 := by
       have e : ((16 + 12 * l.length : Nat) : Int) = 16 + 12 * (l.length : Int) := by omega
       rw [e, ← h8]; omega
      rw [hz]
     rw [e1]; simp
    rw [hfin] at hr
    have hbl : (boxOf l).length = N := by rw [← hfin, st_length]; have := H6.out; have := H3.out; omega
    exact hr.read (boxOf_byt l HE.out hdb.out) hbl (by rw [hbl]; omega)
 ·have hC := (box_check_any _ l w hl hv')
  have he' := hx he
  go_enter Tryz.func26, Tryz.ntmps26
  go_wp2_with (go_at_call 63; refine hC.mono ?_; rintro e w1 ⟨rfl, e1⟩)
  go_ret2
  exact ⟨_, rfl, by rw [wrOut, if_neg he'.out]; exact Sl.nil _, e1⟩
end Go.Proofs.YtmofdnlefjfcfaaGreatDoor


set_option linter.unusedVariables false
set_option linter.unusedSimpArgs false
namespace Go.Proofs.YtmofdnlefjfcfaaGreatDoor
open Go.RowKit Go.Lib

/-- A block of one cell. -/
def OneC (w : World) (g : Nat) (v : Value) (t : TypeId) : Prop := w.heap[g]? = some (.cells #[v] t (0, 0))
theorem OneC.cell {w : World} {g : Nat} {v : Value} {t : TypeId} (h : OneC w g v t) : w.cell? ⟨g, 0, none⟩ = some v := by simp [World.cell?, show w.heap[g]? = _ from h]
theorem OneC.frozen {w : World} {g : Nat} {v : Value} {t : TypeId} (h : OneC w g v t) : w.frozen? ⟨g, 0, none⟩ = false := by simp [World.frozen?, show w.heap[g]? = _ from h]
theorem OneC.set {w : World} {g : Nat} {v : Value} {t : TypeId} (h : OneC w g v t) (u : Value) : OneC (w.setCell ⟨g, 0, none⟩ u) g u t := by
 unfold OneC at *
 simp only [World.setCell, Array.getElem?_modify, h, if_true, Option.map_some]
 simp
theorem OneC.lt {w : World} {g : Nat} {v : Value} {t : TypeId} (h : OneC w g v t) : g < w.heap.size := (Array.getElem?_eq_some_iff.1 h).1
theorem OneC.keep {w w' : World} {g : Nat} {v : Value} {t : TypeId} {row : Option Nat} (h : OneC w g v t) (hg : w.grownBy w' row) (hne : some g ≠ row) : OneC w' g v t := (hg.block g h.lt hne).trans h
theorem OneC.ext {w w' : World} {g : Nat} {v : Value} {t : TypeId} (h : OneC w g v t) (hg : Ext w w') : OneC w' g v t := hg.obj h
theorem OneC.new (w : World) (v : Value) (t : TypeId) : OneC (w.alloc (.cells #[v] t)) w.heap.size v t := heap_alloc_new w _
theorem OneC.drew {w : World} {g : Nat} {v : Value} {t : TypeId} (h : OneC w g v t) : OneC w.drew g v t := h

theorem Own.lit0 {α : Type} {e : TypeId} {sz : Nat} {enc : α → List Value} (W : World) (base : Nat) (hb : base ≤ W.heap.size) : Own e sz enc (W.alloc (.cells #[] e)) base (.slice (some ⟨W.heap.size, 0, none⟩) 0 0) ([] : List α) := by
 have h := World.ownsRow_lit (base := base) (e := e) (size := sz) W #[] 0 hb (by simp [maxLen]) (by simp)
 simpa [Own] using h
theorem OwnB.read {w : World} {base : Nat} {v : Value} {l : List Int} (h : OwnB w base v l) (hb : Byt l) (hl : l.length ≤ 281474976710656) : IsB w v l :=
 Own.read encB_ok h hl fun x hx b o hc => ⟨by simpa using hc 0 (.int .u8 x) rfl, hb x hx⟩

set_option maxRecDepth 20000 in
set_option maxHeartbeats 400000 in
theorem cloneB_any (v : Value) (l : List Int) (w : World) (hv : IsB w v l) (hl : l.length ≤ 100000000000000) :
  Calls Tryz.prog 69 #[v] w fun e w' => ∃ v', e = .returned v' ∧ OwnB w' w.heap.size v' l ∧ Ext w w' := by
 have hv0 := hv
 obtain ⟨A, c, rfl, h1, h2, hn, h4⟩ := hv
 cases A with
 | none =>
  have hc := hn rfl
  have hl0 : l.length = 0 := by omega
  obtain rfl : l = [] := List.eq_nil_of_length_eq_zero hl0
  have he := eqlNil (P := Tryz.prog) Tryz.underlying28
  go_enter Tryz.func69, Tryz.ntmps69
  go_wp2
  go_ret
  exact ⟨_, rfl, Own.nil _ _ _ _ _, Ext.refl _⟩
 | some ad =>
  have he := eqlNil (P := Tryz.prog) Tryz.underlying28
  have ho := Own.lit0 (e := 5) (sz := 1) (enc := fun x : Int => [Value.int .u8 x]) w w.heap.size (Nat.le_refl _)
  have hs := Sl.src (IsB.ext hv0 (Ext.new w (.cells #[] 5)))
  go_enter Tryz.func69, Tryz.ntmps69
  go_wp2_with (at_builtin; refine wp_appS tyB encB_ok ho hs rfl rfl rfl rfl (by simp) (by simpa using Nat.le_trans hl (by decide)) (by simpa using Nat.le_trans hl (by decide)) ?_; intro v1 w1 o1 g1 a1)
  go_ret
  exact ⟨v1, rfl, by simpa using o1, (Ext.new w _).grown g1 (fun k hk => by simp [Value.ownBlock] at hk; omega)⟩

def inR (l : List Int) (a n : Int) : Bool := decide (a ≤ l.length ∧ n ≤ l.length - a)
def partOf (l : List Int) (a n : Int) : List Int := if inR l a n then (l.drop a.toNat).take n.toNat else []
def lval : List Int → Int
 | [] => 0
 | c :: l => c + 256 * lval l
def numOf (l : List Int) (a n : Int) : Int := lval (partOf l a n)

theorem inR_no {l : List Int} {a n : Int} (h : ¬ (a ≤ l.length ∧ n ≤ l.length - a)) : inR l a n = false ∧ partOf l a n = [] := by
 have : inR l a n = false := by simp only [inR, decide_eq_false_iff_not]; exact h
 exact ⟨this, by simp [partOf, this]⟩
theorem inR_yes {l : List Int} {i m : Nat} (h : i + m ≤ l.length) : inR l i m = true ∧ partOf l i m = (l.drop i).take m := by
 have : inR l i m = true := by simp [inR]; omega
 exact ⟨this, by simp [partOf, this]⟩
theorem IsB.part {w : World} {A : Option Addr} {c : Nat} {l : List Int} (h : IsB w (.slice A l.length c) l) (i n : Nat) (hi : i + n ≤ l.length) (A' : Option Addr)
  (hA : ∀ b o, A = some ⟨b, o, none⟩ → i < l.length → A' = some ⟨b, o + i, none⟩) (hn : A' = none → c - i = 0) : IsB w (.slice A' n (c - i)) ((l.drop i).take n) := by
 have h2 := Sl.part h i (i + n) (by omega) hi A' (fun b o hb hlt => by rw [Nat.mul_one]; exact hA b o hb hlt) hn
 rw [Nat.add_sub_cancel_left] at h2
 exact h2

set_option maxRecDepth 20000 in
set_option maxHeartbeats 400000 in
theorem part_any (a n : Int) (g0 g1 : Nat) (vb : Value) (l : List Int) (ok : Bool) (w : World) (ha0 : 0 ≤ a) (ha1 : a ≤ 1099511627776) (hn0 : 0 ≤ n) (hn1 : n ≤ 1099511627776)
  (hv : IsB w vb l) (h0 : OneC w g0 vb 28) (h1 : OneC w g1 (.bool ok) 4) :
  Calls Tryz.prog 67 #[.int .i64 a, .int .i64 n, .pointer (some ⟨g0, 0, none⟩), .pointer (some ⟨g1, 0, none⟩)] w fun e w' =>
   ∃ v', e = .returned v' ∧ (IsB w' v' (partOf l a n) ∧ ∀ W, IsB W vb l → IsB W v' (partOf l a n)) ∧ OneC w' g1 (.bool (ok && inR l a n)) 4 ∧ w.grownBy w' (some g1) := by
 obtain ⟨A, c, rfl, hc, hl, hv'⟩ := hv.form
 have c0 := h0.cell
 have c1 := h1.cell
 have f1 := h1.frozen
 by_cases b1 : (l.length : Int) < a
 ·have hI : Hx (inR l a n = false ∧ partOf l a n = []) := ⟨inR_no (by omega)⟩
  have x1 := hx h1
  clear h1 h0
  go_enter Tryz.func67, Tryz.ntmps67
  go_wp2
  go_ret
  exact ⟨_, rfl, by rw [hI.out.2]; exact ⟨Sl.nil _, fun W _ => Sl.nil _⟩, by rw [hI.out.1, Bool.and_false]; exact x1.out.set _, grown_setCell _ _ _ _⟩
 ·by_cases b2 : (l.length : Int) - a < n
  ·have hI : Hx (inR l a n = false ∧ partOf l a n = []) := ⟨inR_no (by omega)⟩
   have x1 := hx h1
   clear h1 h0
   go_enter Tryz.func67, Tryz.ntmps67
   go_wp2
   go_ret
   exact ⟨_, rfl, by rw [hI.out.2]; exact ⟨Sl.nil _, fun W _ => Sl.nil _⟩, by rw [hI.out.1, Bool.and_false]; exact x1.out.set _, grown_setCell _ _ _ _⟩
  ·obtain ⟨i, rfl⟩ := Int.eq_ofNat_of_zero_le ha0
   obtain ⟨m, rfl⟩ := Int.eq_ofNat_of_zero_le hn0
   have hI : Hx (inR l i m = true ∧ partOf l i m = (l.drop i).take m) := ⟨inR_yes (by omega)⟩
   have x1 := hx h1
   clear h1 h0
   have hb : i + m ≤ l.length := by omega
   go_enter Tryz.func67, Tryz.ntmps67
   go_wp2
   all_goals go_ret
   ·exact ⟨_, rfl, by
     have e : c = i := by assumption
     have hm0 : m = 0 := by omega
     subst hm0
     rw [hI.out.2, List.take_zero]
     exact ⟨Sl.empty (fun _ => rfl) (by simp), fun W _ => Sl.empty (fun _ => rfl) (by simp)⟩, by rw [hI.out.1, Bool.and_true]; exact x1.out, World.grownBy.refl _ _⟩
   ·refine ⟨_, rfl, ?_, by rw [hI.out.1, Bool.and_true]; exact x1.out, World.grownBy.refl _ _⟩
    rw [hI.out.2]
    have hall : ∀ W, IsB W (.slice A l.length c) l → IsB W (.slice (A.map fun x => x.add i) m (c - i)) ((l.drop i).take m) := fun W hW => by
     refine IsB.part hW i m hb _ (fun b o hA _ => by subst hA; simp [add_plain]) (fun h => ?_)
     obtain ⟨_, _, e1, _, _, e2, _⟩ := hW
     cases e1
     have := e2 (by cases A <;> simp_all)
     omega
    exact ⟨hall w hv', hall⟩

theorem lval_nonneg {l : List Int} (h : Byt l) : 0 ≤ lval l ∧ lval l < 256 ^ l.length := by
 induction l with
 | nil => simp [lval]
 | cons c l ih =>
  have h1 := h c (by simp)
  have h2 := ih (fun x hx => h x (by simp [hx]))
  simp only [lval, List.length_cons, Int.pow_succ]
  omega
theorem lval_append (a b : List Int) : lval (a ++ b) = lval a + 256 ^ a.length * lval b := by
 induction a with
 | nil => simp [lval]
 | cons c a ih => simp only [List.cons_append, lval, ih, List.length_cons, Int.pow_succ]; rw [Int.mul_add, ← Int.mul_assoc, Int.mul_comm 256 (256 ^ a.length)]; omega
theorem or_disj (x y k : Nat) (hx : x < 2 ^ k) : x ||| (y * 2 ^ k) = x + y * 2 ^ k := by
 rw [Nat.mul_comm y, Nat.or_comm, ← Nat.two_pow_add_eq_or_of_lt hx, Nat.add_comm]
theorem bits_or_i64 (x y : Nat) (k : Nat) (hx : x < 2 ^ k) (hs : x + y * 2 ^ k < 9223372036854775808) : bits BinOp.or IntKind.i64 (x : Int) ((y * 2 ^ k : Nat) : Int) = ((x + y * 2 ^ k : Nat) : Int) := by
 show IntKind.i64.wrap ((BitVec.ofInt 64 (x : Int) ||| BitVec.ofInt 64 ((y * 2 ^ k : Nat) : Int)).toNat : Int) = _
 rw [BitVec.ofInt_natCast, BitVec.ofInt_natCast, BitVec.toNat_or, BitVec.toNat_ofNat, BitVec.toNat_ofNat, Nat.mod_eq_of_lt (by omega), Nat.mod_eq_of_lt (by omega), or_disj x y k hx, IntKind.wrap_i64]
 omega
theorem or_step (p y k : Nat) (hp : (p : Int) < 256 ^ k) (hy : (y : Int) < 256) (hk : k < 7) : bits BinOp.or IntKind.i64 (p : Int) (wrap64 ((y : Int) * 2 ^ (8 * k))) = (p : Int) + 256 ^ k * (y : Int) := by
 have e1 : (256 : Int) ^ k = ((2 ^ (8 * k) : Nat) : Int) := by rw [Int.natCast_pow, Int.pow_mul]; rfl
 have hk2 : 2 ^ (8 * k) ≤ 2 ^ 48 := Nat.pow_le_pow_right (by decide) (by omega)
 have hy2 : y * 2 ^ (8 * k) ≤ 255 * 2 ^ 48 := Nat.mul_le_mul (by omega) hk2
 have e2 : ((y : Int) * 2 ^ (8 * k)) = ((y * 2 ^ (8 * k) : Nat) : Int) := by push_cast; rfl
 have hp2 : p < 2 ^ (8 * k) := by rw [e1] at hp; omega
 have e3 : wrap64 ((y * 2 ^ (8 * k) : Nat) : Int) = ((y * 2 ^ (8 * k) : Nat) : Int) := by
  generalize y * 2 ^ (8 * k) = z at *
  unfold wrap64; omega
 rw [e2, e3, bits_or_i64 p y (8 * k) hp2 (by omega), e1, Int.mul_comm]
 push_cast; rfl
set_option maxRecDepth 20000 in
set_option maxHeartbeats 400000 in
theorem boxnum_any (a n : Int) (g0 g1 g2 : Nat) (vb : Value) (l : List Int) (ok : Bool) (w : World) (ha0 : 0 ≤ a) (ha1 : a ≤ 1099511627776) (hn0 : 0 ≤ n) (hn1 : n ≤ 4)
  (hv : IsB w vb l) (h0 : OneC w g0 vb 28) (h1 : OneC w g1 (.bool ok) 4) (h2 : OneC w g2 (.func (.func 67) #[] #[.pointer (some ⟨g0, 0, none⟩), .pointer (some ⟨g1, 0, none⟩)]) 116) :
  Calls Tryz.prog 68 #[.int .i64 a, .int .i64 n, .pointer (some ⟨g2, 0, none⟩)] w fun e w' =>
   e = .returned (.int .i64 (numOf l a n)) ∧ OneC w' g1 (.bool (ok && inR l a n)) 4 ∧ w.grownBy w' (some g1) := by
 have c2 := h2.cell
 have hp := hx (part_any a n g0 g1 vb l ok w ha0 ha1 hn0 (by omega) hv h0 h1)
 have hbyt := hv.byt
 clear h0 h1 h2
 go_enter Tryz.func68, Tryz.ntmps68
 go_wp2_with (go_at_call 67; refine hp.out.mono ?_; rintro e w1 ⟨v1, rfl, ⟨hv1, -⟩, hok1, hg1⟩; obtain ⟨A1, c1, rfl, hc1, hl1, hv1'⟩ := hv1.form)
 obtain ⟨L, hL⟩ : ∃ L, L = partOf l a n := ⟨_, rfl⟩
 have hLn : L.length ≤ 4 := by rw [hL]; unfold partOf; split; simp; omega; simp
 have hLb : Byt L := by
  rw [hL]; unfold partOf; split
  ·exact fun x hx => hbyt x (List.drop_subset _ _ (List.take_subset _ _ hx))
  ·intro x hx; cases hx
 have HL := hx hL
 rw [← hL] at hv1' hc1 hl1 ⊢
 clear hL hp hv1 c2 hv
 go_loop [6, 14] (fun x i => ∃ (pre suf : List Int), L = pre ++ suf ∧ i = .int .i64 (pre.length : Nat) ∧ x = .int .i64 (lval pre))
  (fun _ i => L.length - (RowKit.intOf i).toNat)
 case atStart => exact ⟨[], L, rfl, rfl, rfl⟩
 case round =>
  obtain ⟨pre, suf, hl', rfl, rfl⟩ := hrel
  cases suf with
  | cons x suf =>
   have hlt : pre.length < L.length := by rw [hl']; simp
   have hvx := hv1'
   rw [hl'] at hvx
   obtain ⟨b, o, rfl, d1, hx0, hx1⟩ := hvx.at
   rw [Nat.mul_one] at d1
   have hlp := lval_nonneg (l := pre) (fun y hy => hLb y (by rw [hl']; simp [hy]))
   obtain ⟨p, hp⟩ := Int.eq_ofNat_of_zero_le hlp.1
   obtain ⟨y, rfl⟩ := Int.eq_ofNat_of_zero_le hx0
   have HL2 := hx hl'; clear hl' hvx
   obtain ⟨k, hk⟩ : ∃ k, pre.length = k := ⟨_, rfl⟩
   rw [hp, hk] at hlp
   rw [hk] at d1 hlt ⊢
   rw [hp]
   have HK := hx hk
   have HP := hx hp
   have HB := hx hlp
   clear hk hp hlp
   have hk4 : k < 4 := by omega
   go_wp2
   go_round
   case rel => exact ⟨pre ++ [(y : Int)], suf, by simp [HL2.out], by simp [HK.out], by
    rw [or_step p y k HB.out.2 hx1 (by omega), lval_append, HP.out, HK.out]; simp [lval]⟩
   case measure => simp [RowKit.intOf]; omega
  | nil =>
   obtain rfl : L = pre := by simpa using hl'
   clear hl'
   have hlt : ¬ L.length < L.length := by omega
   go_wp2
   go_ret
   exact ⟨ret_int (by rw [numOf, HL.out]), hok1, hg1⟩
end Go.Proofs.YtmofdnlefjfcfaaGreatDoor
