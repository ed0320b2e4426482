/- A list of instructions that the call has made: a store of one, of one distance. -/
import Derived.Test.YtmofdnlefjfcfaaGreatDoorJRChk
import Derived.Laws.OwnMore
import Derived.Test.YtmofdnlefjfcfaaGreatDoorJInsE
import Derived.Test.YtmofdnlefjfcfaaGreatDoorJOpsC
import Derived.Test.YtmofdnlefjfcfaaGreatDoorJSlot
set_option linter.unusedVariables false
set_option linter.unusedSimpArgs false
namespace Go.Proofs.YtmofdnlefjfcfaaGreatDoor
open Go.RowKit Go.Lib

theorem flat_set6 : ∀ (l : List Ins) (k : Nat) (x : Ins), k < l.length → ((((((l.flatMap Ins.enc).set (k * 6) (.int .i64 x.op)).set (k * 6 + 1) (.bool x.reg)).set (k * 6 + 2) (.int .i64 x.dst)).set (k * 6 + 3) (.int .i64 x.src)).set (k * 6 + 4) (.int .i64 x.off)).set (k * 6 + 5) (.int .i64 x.imm) = (l.set k x).flatMap Ins.enc := by
 intro l
 induction l with
 | nil => intro k x h; simp at h
 | cons y t ih =>
  intro k x h
  rcases k with _ | k
  ·simp [Ins.enc]
  ·have h6 : ∀ j, (k + 1) * 6 + j = (y.enc).length + (k * 6 + j) := fun j => by simp [Ins.enc]; omega
   have h60 : (k + 1) * 6 = (y.enc).length + k * 6 := by simp [Ins.enc]; omega
   rw [List.flatMap_cons, List.set_cons_succ, List.flatMap_cons, ← ih k x (by simpa using h), h60]
   have e : ∀ (a b : List Value) (j : Nat) (u : Value), (a ++ b).set (a.length + j) u = a ++ b.set j u := fun a b j u => by
    rw [List.set_append_right _ _ (by omega), Nat.add_sub_cancel_left]
   rw [e, Nat.add_assoc, e, Nat.add_assoc, e, Nat.add_assoc, e, Nat.add_assoc, e, Nat.add_assoc, e]
theorem flat_set4 (l : List Ins) (k : Nat) (x : Ins) (o : Int) (hx : l[k]? = some x) : (l.flatMap Ins.enc).set (k * 6 + 4) (.int .i64 o) = (l.set k { x with off := o }).flatMap Ins.enc := by
 have hk := (List.getElem?_eq_some_iff.1 hx).1
 rw [← flat_set6 l k { x with off := o } hk]
 have hg : ∀ j, j < 6 → (l.flatMap Ins.enc)[k * 6 + j]? = x.enc[j]? := fun j hj => flat_get encN_ok l k j hj hx
 apply List.ext_getElem?
 intro i
 have hlen : (l.flatMap Ins.enc).length = l.length * 6 := flat_length encN_ok l
 simp only [List.getElem?_set, List.length_set]
 by_cases h5 : k * 6 + 5 = i
 ·subst h5; rw [if_pos rfl, if_neg (by omega), if_pos (by omega)]; exact hg 5 (by decide)
 ·rw [if_neg h5]
  by_cases h4 : k * 6 + 4 = i
  ·subst h4; rw [if_pos rfl, if_pos rfl]
  ·rw [if_neg h4, if_neg h4]
   by_cases h3 : k * 6 + 3 = i
   ·subst h3; rw [if_pos rfl, if_pos (by omega)]; exact hg 3 (by decide)
   ·rw [if_neg h3]
    by_cases h2 : k * 6 + 2 = i
    ·subst h2; rw [if_pos rfl, if_pos (by omega)]; exact hg 2 (by decide)
    ·rw [if_neg h2]
     by_cases h1 : k * 6 + 1 = i
     ·subst h1; rw [if_pos rfl, if_pos (by omega)]; exact hg 1 (by decide)
     ·rw [if_neg h1]
      by_cases h0 : k * 6 = i
      ·subst h0; rw [if_pos rfl, if_pos (by omega)]; exact hg 0 (by decide)
      ·rw [if_neg h0]
def put6 (W : World) (g k : Nat) (x : Ins) : World :=
 (((((W.setCell ⟨g, k * 6, none⟩ (.int .i64 x.op)).setCell ⟨g, k * 6 + 1, none⟩ (.bool x.reg)).setCell ⟨g, k * 6 + 2, none⟩ (.int .i64 x.dst)).setCell ⟨g, k * 6 + 3, none⟩ (.int .i64 x.src)).setCell ⟨g, k * 6 + 4, none⟩ (.int .i64 x.off)).setCell ⟨g, k * 6 + 5, none⟩ (.int .i64 x.imm)
theorem OwnN.put {w : World} {base g cap n : Nat} {l : List Ins} (h : OwnN w base (.slice (some ⟨g, 0, none⟩) n cap) l) (k : Nat) (x : Ins) (hk : k < l.length) (hn : n = l.length) :
  OwnN (put6 w g k x) base (.slice (some ⟨g, 0, none⟩) n cap) (l.set k x) ∧ w.grownBy (put6 w g k x) (some g) := by
 subst hn
 obtain ⟨s1, g1⟩ := World.ownsRow.stored (h : w.ownsRow _ _ _ _ _ _) (k * 6) (.int .i64 x.op)
 obtain ⟨s2, g2⟩ := World.ownsRow.stored s1 (k * 6 + 1) (.bool x.reg)
 obtain ⟨s3, g3⟩ := World.ownsRow.stored s2 (k * 6 + 2) (.int .i64 x.dst)
 obtain ⟨s4, g4⟩ := World.ownsRow.stored s3 (k * 6 + 3) (.int .i64 x.src)
 obtain ⟨s5, g5⟩ := World.ownsRow.stored s4 (k * 6 + 4) (.int .i64 x.off)
 obtain ⟨s6, g6⟩ := World.ownsRow.stored s5 (k * 6 + 5) (.int .i64 x.imm)
 rw [flat_set6 l k x hk] at s6
 refine ⟨?_, ((((g1.trans g2).trans g3).trans g4).trans g5).trans g6⟩
 show World.ownsRow _ _ _ _ _ _ _
 rw [List.length_set]
 exact s6
theorem OwnN.putOff {w : World} {base g cap n : Nat} {l : List Ins} (h : OwnN w base (.slice (some ⟨g, 0, none⟩) n cap) l) (k : Nat) (x : Ins) (o : Int) (hx : l[k]? = some x) (hn : n = l.length) :
  OwnN (w.setCell ⟨g, k * 6 + 4, none⟩ (.int .i64 o)) base (.slice (some ⟨g, 0, none⟩) n cap) (l.set k { x with off := o }) ∧ w.grownBy (w.setCell ⟨g, k * 6 + 4, none⟩ (.int .i64 o)) (some g) := by
 subst hn
 obtain ⟨s1, g1⟩ := World.ownsRow.stored (h : w.ownsRow _ _ _ _ _ _) (k * 6 + 4) (.int .i64 o)
 rw [flat_set4 l k x o hx] at s1
 refine ⟨?_, g1⟩
 show World.ownsRow _ _ _ _ _ _ _
 rw [List.length_set]
 exact s1
theorem Own.frz {α : Type} {e : TypeId} {sz : Nat} {enc : α → List Value} {w : World} {base g n cap : Nat} {l : List α} (h : Own e sz enc w base (.slice (some ⟨g, 0, none⟩) n cap) l) (j : Nat) : w.frozen? ⟨g, j, none⟩ = false := by
 rcases h.2 with ⟨h', _⟩ | ⟨g', cap', cur, h', hb, hg, _⟩
 ·simp at h'
 ·injection h' with h' _ _
  injection h' with h'
  injection h' with h' _ _
  subst h'
  simp [World.frozen?, hg]
theorem OwnN.at {w : World} {base g n cap : Nat} {l : List Ins} (h : OwnN w base (.slice (some ⟨g, 0, none⟩) n cap) l) (hl : l.length ≤ 1000000) {k : Nat} {x : Ins} (hx : l[k]? = some x) : CIns w g (k * 6) x := by
 have hs : Sl 6 CIns w (.slice (some ⟨g, 0, none⟩) n cap) l := Own.read encN_ok h (by omega) fun x hx b o hh => ⟨by simpa using hh 0 _ rfl, hh 1 _ rfl, hh 2 _ rfl, hh 3 _ rfl, hh 4 _ rfl, hh 5 _ rfl⟩
 obtain ⟨b, o, e, hE⟩ := hs.get hx
 injection e with e
 injection e with e1 e2 _
 subst e1 e2
 rwa [Nat.zero_add] at hE
theorem made6 (n : Nat) : (madeCells #[.int .i64 0, .bool false, .int .i64 0, .int .i64 0, .int .i64 0, .int .i64 0] (n * 6)).toList = (List.replicate n insZ).flatMap Ins.enc := by
 apply List.ext_getElem?
 intro i
 by_cases hi : i < n * 6
 ·have hk : i / 6 < n := by omega
  have h1 := flat_get encN_ok (List.replicate n insZ) (i / 6) (i % 6) (by omega) (x := insZ) (by simp [hk])
  rw [show i / 6 * 6 + i % 6 = i by omega] at h1
  rw [h1]
  have h2 : (madeCells #[.int .i64 0, .bool false, .int .i64 0, .int .i64 0, .int .i64 0, .int .i64 0] (n * 6)).toList[i]? = some ((#[Value.int .i64 0, .bool false, .int .i64 0, .int .i64 0, .int .i64 0, .int .i64 0] : Array Value)[i % 6]!) := by
   simp [madeCells, hi]
  rw [h2]
  have : i % 6 < 6 := by omega
  generalize i % 6 = r at *
  match r, this with
  | 0, _ => rfl
  | 1, _ => rfl
  | 2, _ => rfl
  | 3, _ => rfl
  | 4, _ => rfl
  | 5, _ => rfl
 ·have h1 : ((List.replicate n insZ).flatMap Ins.enc).length = n * 6 := by rw [flat_length encN_ok, List.length_replicate]
  rw [List.getElem?_eq_none (by simp [madeCells]; omega), List.getElem?_eq_none (by rw [h1]; omega)]
end Go.Proofs.YtmofdnlefjfcfaaGreatDoor


set_option linter.unusedVariables false
set_option linter.unusedSimpArgs false
namespace Go.Proofs.YtmofdnlefjfcfaaGreatDoor
open Go.RowKit Go.Lib

/-- The distance of a jump to its label. -/
def disI (L : List Stmt) (i : Nat) : Int := slotsT ((codeL L).take (labX L (L.getD i default).target).toNat) - slotsT ((codeL L).take (i + 1))
/-- A statement's instruction with its distance. -/
def resX (L : List Stmt) (i : Nat) : Ins := if neS (L.getD i default).target then { (L.getD i default).ins with off := disI L i } else (L.getD i default).ins
def resL (L : List Stmt) : List Ins := (List.range L.length).map (resX L)
def szBad (L : List Stmt) (i : Nat) : Bool := decide (65535 < slotsT ((codeL L).take (i + 1)))
def farBad (L : List Stmt) (i : Nat) : Bool := neS (L.getD i default).target && (decide (disI L i < -32768) || decide (disI L i > 32767))
def fstB (p : Nat → Bool) (n : Nat) : Option Int := (List.range n).findSome? fun i => if p i then some (i : Int) else none
theorem fstB_hit {p : Nat → Bool} {n k : Nat} (hk : k < n) (hn : ∀ j, j < k → p j = false) (h : p k = true) : fstB p n = some (k : Int) := by
 unfold fstB
 rw [range_first (fun i => if p i then some (i : Int) else none) n k _ hk (fun j hj => if_neg (by rw [hn j hj]; decide)) (if_pos h)]
theorem fstB_none {p : Nat → Bool} {n : Nat} (hn : ∀ j, j < n → p j = false) : fstB p n = none := by
 unfold fstB
 rw [List.findSome?_eq_none_iff]
 intro x hx
 exact if_neg (by rw [hn x (by simpa using hx)]; decide)
/-- The index and the error of Resolve. -/
def resE (M : List Def) (L : List Stmt) : Int × Int :=
 if (pchk M L).2 = 0 then (match fstB (szBad L) L.length with | some i => (i, 16) | none => (match fstB (farBad L) L.length with | some i => (i, 13) | none => (0, 0))) else pchk M L
def resO (M : List Def) (L : List Stmt) : List Ins := if (resE M L).2 = 0 then resL L else []
theorem resE_chk {M : List Def} {L : List Stmt} (h : (pchk M L).2 ≠ 0) : resE M L = pchk M L := if_neg h
theorem resE_size {M : List Def} {L : List Stmt} {i : Int} (h : (pchk M L).2 = 0) (h2 : fstB (szBad L) L.length = some i) : resE M L = (i, 16) := by unfold resE; rw [if_pos h, h2]
theorem resE_far {M : List Def} {L : List Stmt} {i : Int} (h : (pchk M L).2 = 0) (h2 : fstB (szBad L) L.length = none) (h3 : fstB (farBad L) L.length = some i) : resE M L = (i, 13) := by unfold resE; rw [if_pos h, h2, h3]
theorem resE_ok {M : List Def} {L : List Stmt} (h : (pchk M L).2 = 0) (h2 : fstB (szBad L) L.length = none) (h3 : fstB (farBad L) L.length = none) : resE M L = (0, 0) := by unfold resE; rw [if_pos h, h2, h3]
theorem firstP_all : ∀ (l : List (Int × Int)), (firstP l).2 = 0 → ∀ r ∈ l, r.2 = 0 := by
 intro l
 induction l with
 | nil => intro _ r hr; cases hr
 | cons x l ih =>
  intro h r hr
  rw [firstP] at h
  split at h
  ·rename_i h0
   rcases List.mem_cons.1 hr with rfl | hr
   ·exact h0
   ·exact ih h r hr
  ·rename_i h0; exact absurd h h0
theorem findS_zero {chk : Nat → Stmt → Int} {l : List Stmt} (h : (findS chk l).2 = 0) : ∀ j, j < l.length → chk j (l.getD j default) = 0 := by
 intro j hj
 unfold findS at h
 split at h
 ·rename_i r hr
  obtain ⟨i, _, hi⟩ := List.exists_of_findSome?_eq_some hr
  split at hi
  ·cases hi
  ·rename_i h0
   injection hi with hi
   subst hi
   exact absurd h h0
 ·rename_i hr
  rw [List.findSome?_eq_none_iff] at hr
  have := hr j (by simpa using hj)
  split at this
  ·assumption
  ·cases this
/-- What a correct program keeps. -/
theorem pchk_all {M : List Def} {L : List Stmt} (h : (pchk M L).2 = 0) : ∀ r ∈ prRs M L, r.2 = 0 := by
 rw [pchk, firstF_fst] at h
 exact firstP_all _ h
theorem pchk_und {M : List Def} {L : List Stmt} (h : (pchk M L).2 = 0) : ∀ j, j < L.length → undB L (emS :: namesL M) (L.getD j default) = false := by
 intro j hj
 have h1 := findS_zero (pchk_all h (findS (undE L (emS :: M.map (·.name))) L) (by simp [prRs])) j hj
 cases hu : undB L (emS :: namesL M) (L.getD j default) with
 | false => rfl
 | true =>
  unfold undE at h1
  have hu' : undB L (emS :: M.map (·.name)) (L.getD j default) = true := hu
  rw [if_pos hu'] at h1
  cases h1
theorem pchk_stmt {M : List Def} {L : List Stmt} (h : (pchk M L).2 = 0) : ∀ j, j < L.length → stmtE (L.getD j default) = 0 :=
 findS_zero (pchk_all h (findS (fun _ s => stmtE s) L) (by simp [prRs]))
theorem labI_bd : ∀ (L : List Stmt) (k : Nat) (p : ByteArray → Option Int) (s : ByteArray) (n : Int), (k : Int) + L.length ≤ n → (∀ i, p s = some i → 0 ≤ i ∧ i < n) → ∀ i, labI k L p s = some i → 0 ≤ i ∧ i < n := by
 intro L
 induction L with
 | nil => intro k p s n _ h i hi; exact h i hi
 | cons x l ih =>
  intro k p s n hn h i hi
  rw [List.length_cons] at hn
  refine ih (k + 1) _ s n (by omega) (fun j hj => ?_) i hi
  split at hj
  ·injection hj with hj; omega
  ·exact h j hj
/-- A jump's label has a statement. -/
theorem lab_in {M : List Def} {L : List Stmt} (h : (pchk M L).2 = 0) {j : Nat} (hj : j < L.length) (hne : neS (L.getD j default).target = true) : 0 ≤ labX L (L.getD j default).target ∧ labX L (L.getD j default).target < L.length := by
 have hu := pchk_und h j hj
 unfold undB at hu
 rw [hne, Bool.true_and, Bool.or_eq_false_iff] at hu
 cases hl : labAt L (L.getD j default).target with
 | none => rw [hl] at hu; exact absurd hu.1 (by decide)
 | some i =>
  unfold labX
  rw [hl]
  exact labI_bd L 0 (fun _ => none) _ L.length (by omega) (fun i h => by cases h) i hl
end Go.Proofs.YtmofdnlefjfcfaaGreatDoor


set_option linter.unusedVariables false
set_option linter.unusedSimpArgs false
namespace Go.Proofs.YtmofdnlefjfcfaaGreatDoor
open Go.RowKit

theorem put_wraps (y : Int) (h0 : 0 ≤ y) (h1 : y < 18446744073709551616) : Int.tmod y 256 = y % 256 ∧ Int.tdiv y 256 = y / 256 ∧ IntKind.u64.wrap (y / 256) = y / 256 ∧ 0 ≤ y / 256 ∧ y / 256 < 18446744073709551616 ∧ IntKind.u8.wrap (y % 256) = y % 256 := by
 refine ⟨Int.tmod_eq_emod_of_nonneg h0, Int.tdiv_eq_ediv_of_nonneg h0, wrapU _ (by omega) (by omega), by omega, by omega, ?_⟩
 simp [IntKind.wrap, IntKind.signed, IntKind.bits]
set_option maxRecDepth 20000 in
set_option maxHeartbeats 1000000 in
theorem refPut_any (v : Value) (l : List Int) (base n : Nat) (x : Int) (w : World) (hx0 : 0 ≤ x) (hx1 : x < 18446744073709551616) (hn : n ≤ 8) (ho : AppB w base v l) (hB : base ≤ w.heap.size) (hL : l.length ≤ 100000000) :
  Calls Tryz.prog 88 #[v, .int .u64 x, .int .i64 n] w fun e w' => ∃ v' l', e = .returned v' ∧ Hx (l' = l ++ le n x) ∧ Hx (l'.length = l.length + n) ∧ AppB w' base v' l' ∧ (n ≠ 0 → OwnB w' base v' l') ∧ Grew w w' v v' := by
 go_enter Tryz.func88, Tryz.ntmps88
 go_wp2
 go_loopw [0, 1, 7] (fun s y i wr => ∃ (k : Nat) (y' : Int) (l' : List Int), k ≤ n ∧ i = .int .i64 k ∧ y = .int .u64 y' ∧ 0 ≤ y' ∧ y' < 18446744073709551616 ∧ AppB wr base s l' ∧ (k ≠ 0 → OwnB wr base s l') ∧ l' ++ le (n - k) y' = l ++ le n x ∧ l'.length = l.length + k ∧ Grew w wr v s)
  (fun _ _ i _ => n - (RowKit.intOf i).toNat)
 case atStart => exact ⟨0, x, l, by omega, rfl, rfl, hx0, hx1, ho, fun h => absurd rfl h, rfl, rfl, Grew.refl _ _⟩
 case round =>
  obtain ⟨k, y', l', hk, rfl, rfl, hy0, hy1, ho', hok, hle, hl', hG⟩ := hrel
  have HE := hx hle; clear hle
  have HLn := hx hl'; clear hl'
  have hsz := hG.size
  have hl8 : (l'.length + 1) * 1 ≤ 140737488355328 := by have := HLn.out; omega
  have hbs : base ≤ _ := Nat.le_trans hB hsz
  by_cases hlt : k < n
  ·obtain ⟨w1, w2, w3, w4, w5, w6⟩ := put_wraps y' hy0 hy1
   have W4 := hx w4
   have W5 := hx w5
   have HL8 := hx hl8
   have HBS := hx hbs
   clear w4 w5 hsz hl8 hbs hy0 hy1 hx0 hx1
   go_wp2_with (first | (at_builtin; refine wp_appF tyB encB_ok ho' (y' % 256) rfl rfl rfl rfl rfl HBS.out (by decide) HL8.out ?_; intro g cap w1 ho1 hg1 hat1 hbg1))
   have hG1 := hG.trans (Grew.mk1 (n := l'.length + 1) (cap := cap) hg1 hat1)
   clear ho' hG hg1 hok
   go_wp2
   go_roundw
   case rel => exact ⟨k + 1, y' / 256, l' ++ [y' % 256], hlt, by simp, rfl, W4.out, W5.out, .inl ho1, fun _ => ho1, by
    have := HE.out; rw [show n - k = (n - (k + 1)) + 1 by omega, le] at this; simpa using this, by simp [HLn.out, Nat.add_assoc], hG1⟩
   case measure => simp [RowKit.intOf]; omega
  ·obtain rfl : k = n := by omega
   obtain ⟨A, c, rfl⟩ := ho'.slice
   clear hl8 hbs hsz hy0 hy1 hx0 hx1
   go_wp2
   go_ret
   have h : l' = l ++ le k x := by have := HE.out; simpa [le] using this
   exact ⟨_, l', rfl, ⟨h⟩, ⟨by rw [h]; simp [le_length]⟩, ho', hok, hG⟩
end Go.Proofs.YtmofdnlefjfcfaaGreatDoor


set_option linter.unusedVariables false
set_option linter.unusedSimpArgs false
namespace Go.Proofs.YtmofdnlefjfcfaaGreatDoor
open Go.RowKit

/-- An instruction of one slot whose numbers need no care. -/
structure EncOne (x : Ins) : Prop where
 ok : x.Ok
 slots : slotsN x.op = 1
 dst : 0 ≤ x.dst ∧ x.dst ≤ 10
 src : 0 ≤ x.src ∧ x.src ≤ 10
 off : 0 ≤ x.off ∧ x.off ≤ 1000
 imm : 0 ≤ x.imm ∧ x.imm ≤ 1000
def encR1 (x : Ins) : List Int := [(codeN x.op x.reg).1, (16 * ((fixN x.op).1 + x.src) + x.dst) % 256] ++ le 2 ((fixN x.op).2.1 + x.off) ++ le 4 ((fixN x.op).2.2 + x.imm)
set_option maxRecDepth 40000 in
set_option maxHeartbeats 4000000 in
theorem refEnc_one (x : Ins) (w : World) (h : EncOne x) :
  Calls Tryz.prog 48 #[x.v] w fun e w' => ∃ v', e = .returned v' ∧ OwnB w' w.heap.size v' (encR1 x) ∧ Ext w w' := by
 have e0 := Ext.new w (.cells #[.int .i64 x.op, .bool x.reg, .int .i64 x.dst, .int .i64 x.src, .int .i64 x.off, .int .i64 x.imm] 53)
 have r0 := RowV.new w [.int .i64 x.op, .bool x.reg, .int .i64 x.dst, .int .i64 x.src, .int .i64 x.off, .int .i64 x.imm] 53
 have HC := hx fun W => refCode_any x.op x.reg W h.ok.op
 have HF := hx fun W => refFixed_any x.op W h.ok.op
 have hSL := fun W => ref04Slots_any x.op W h.ok.op
 rw [h.slots] at hSL
 have HSL := hx hSL
 have hf := fixN_bd x.op
 obtain ⟨-, -, hd, hs, ho, hi⟩ := h
 have hen : encR1 x = [(codeN x.op x.reg).1, (16 * ((fixN x.op).1 + x.src) + x.dst) % 256] ++ le 2 ((fixN x.op).2.1 + x.off) ++ le 4 ((fixN x.op).2.2 + x.imm) := rfl
 rw [hen]
 unfold Ins.v
 obtain ⟨op, reg, n1, n2, n3, n4⟩ := x
 dsimp only at *
 generalize (codeN op reg).1 = CD at *
 generalize (codeN op reg).2 = CB at *
 generalize (fixN op).1 = f1 at *
 generalize (fixN op).2.1 = f2 at *
 generalize (fixN op).2.2 = f3 at *
 have a1 : wrap64 (f1 + n2) = f1 + n2 := wrapI _ (by omega) (by omega)
 have a2 : wrap64 (16 * (f1 + n2)) = 16 * (f1 + n2) := wrapI _ (by omega) (by omega)
 have a3 : wrap64 (16 * (f1 + n2) + n1) = 16 * (f1 + n2) + n1 := wrapI _ (by omega) (by omega)
 have a4 : wrap64 (f2 + n3) = f2 + n3 := wrapI _ (by omega) (by omega)
 have a5 : IntKind.u64.wrap (f2 + n3) = f2 + n3 := wrapU _ (by omega) (by omega)
 have a6 : IntKind.u64.wrap f3 = f3 := wrapU _ (by omega) (by omega)
 have a7 : IntKind.u64.wrap n4 = n4 := wrapU _ (by omega) (by omega)
 have a8 : IntKind.u64.wrap (f3 + n4) = f3 + n4 := wrapU _ (by omega) (by omega)
 have b1 := hx (show 0 ≤ f2 + n3 ∧ f2 + n3 < 100000 by omega)
 have b2 := hx (show 0 ≤ f3 + n4 ∧ f3 + n4 < 100000 by omega)
 have E0 := hx e0
 have R0 := hx r0
 clear hen hSL hf hd hs ho hi e0 r0
 go_enter Tryz.func48, Tryz.ntmps48
 go_wp2_with fail
 refine (HC.out _).mono ?_
 rintro e w1 ⟨rfl, e1⟩
 have r1 := R0.out.ext e1
 have k0 := r1.cell (i := 0) rfl
 go_wp2_with fail
 refine (HF.out _).mono ?_
 rintro e w2 ⟨rfl, e2⟩
 clear k0
 have r2 := r1.ext e2
 have k0 := r2.cell (i := 0) rfl
 have k2 := r2.cell (i := 2) rfl
 have k3 := r2.cell (i := 3) rfl
 have k4 := r2.cell (i := 4) rfl
 have k5 := r2.cell (i := 5) rfl
 have E2 := hx (E0.out.trans (e1.trans e2))
 clear r1 e1 e2
 go_upto_region 4 with fail
 generalize hV : (16 * (f1 + n2) + n1) % 256 = V at *
 have HV := hx hV
 clear hV
 have hs2 : w.heap.size + 1 ≤ w2.heap.size := by have := r2.lt; omega
 obtain ⟨W3, hW3⟩ : ∃ W3, W3 = w2.alloc (.cells #[.int .u8 CD, .int .u8 V] 5) := ⟨_, rfl⟩
 have r3 := r2.ext (Ext.new w2 (.cells #[.int .u8 CD, .int .u8 V] 5))
 have e3 := E2.out.trans (Ext.new w2 (.cells #[.int .u8 CD, .int .u8 V] 5))
 have hs3 : W3.heap.size = w2.heap.size + 1 := by rw [hW3]; simp
 have o3 : AppB W3 (w.heap.size + 1) (.slice (some ⟨w2.heap.size, 0, none⟩) 2 2) [CD, V] := .inr ⟨_, rfl, (fun h => by cases h), (fun b hb j u hu => by
  cases hb
  have h := World.news_of_block (w := W3) (B := w2.heap.size) (cs := ([CD, V].map (Value.int .u8)).toArray) (t := 5) (fr := (0, 0)) (by rw [hW3]; exact heap_alloc_new w2 _) j u (by simpa using hu)
  exact h), fun k hk => by simp [Value.ownBlock] at hk; omega⟩
 rw [← hW3] at r3 e3 ⊢
 clear hW3 k0 k2 k3 k4 k5 r2
 have k4 := r3.cell (i := 4) rfl
 have B1 := b1.out
 go_wp2_with fail
 refine (refPut_any _ _ (w.heap.size + 1) 2 (f2 + n3) _ B1.1 (by omega) (by omega) o3 (by omega) (by simp)).mono ?_
 rintro e w4 ⟨v4, l4, rfl, hl4, hn4, -, own4, g4⟩
 replace own4 := own4 (by decide)
 have r4 := r3.keep g4.1 (by simp [Value.ownBlock]; omega)
 have e4 := e3.grown g4.1 (fun k hk => by simp [Value.ownBlock] at hk; omega)
 have hs4 := g4.size
 clear k4 o3 g4 r3 e3
 have k5 := r4.cell (i := 5) rfl
 have B2 := b2.out
 obtain ⟨A4, c4, rfl⟩ := own4.slice
 go_wp2_with fail
 refine (refPut_any _ _ (w.heap.size + 1) 4 (f3 + n4) _ B2.1 (by omega) (by omega) (.inl own4) (by omega) (by have := hn4.out; simp at this; omega)).mono ?_
 rintro e w5 ⟨v5, l5, rfl, hl5, hn5, -, own5, g5⟩
 replace own5 := own5 (by decide)
 have r5 := r4.keep g5.1 (fun e => by have := own4.base_le _ e.symm; omega)
 have e5 := e4.grown g5.1 (fun k hk => by have := own4.base_le k hk; omega)
 clear k5 own4 g5 r4 e4 B1 B2
 have k0 := r5.cell (i := 0) rfl
 obtain ⟨A5, c5, rfl⟩ := own5.slice
 go_wp2_with fail
 refine (HSL.out _).mono ?_
 rintro e w6 ⟨rfl, rfl⟩
 go_wp2
 go_ret
 have hlA : [CD, V] ++ le 2 (f2 + n3) ++ le 4 (f3 + n4) = l5 := by rw [hl5.out, hl4.out]
 have hlB : [CD, (16 * (f1 + n2) + n1) % 256] ++ le 2 (f2 + n3) ++ le 4 (f3 + n4) = l5 := by rw [HV.out]; exact hlA
 refine ⟨.slice A5 l5.length c5, rfl, ?_, e5⟩
 have hlC : (CD :: (16 * (f1 + n2) + n1) % 256 :: (le 2 (f2 + n3) ++ le 4 (f3 + n4))) = l5 := by rw [← hlB]; simp
 first | rw [hlC] | rw [hlA] | rw [hlB]
 exact ownsRow_base own5 (by omega)
end Go.Proofs.YtmofdnlefjfcfaaGreatDoor


set_option linter.unusedVariables false
set_option linter.unusedSimpArgs false
namespace Go.Proofs.YtmofdnlefjfcfaaGreatDoor
open Go.RowKit

theorem le_mod : ∀ (n m : Nat) (x : Int), n ≤ m → le n (x % 256 ^ m) = le n x := by
 intro n
 induction n with
 | zero => intro m x _; rfl
 | succ n ih =>
  intro m x h
  obtain ⟨k, rfl⟩ : ∃ k, m = k + 1 := ⟨m - 1, by omega⟩
  have h1 : x % 256 ^ (k + 1) % 256 = x % 256 := by
   rw [Int.pow_succ, Int.mul_comm]
   exact Int.emod_emod_of_dvd _ (Int.dvd_mul_right _ _)
  have h2 : x % 256 ^ (k + 1) / 256 = x / 256 % 256 ^ k := by
   have hp : (0 : Int) < 256 ^ k := Int.pow_pos (by decide)
   rw [Int.pow_succ, Int.mul_comm, Int.emod_def x, Int.emod_def (x / 256), Int.ediv_ediv_of_nonneg (by decide : (0 : Int) ≤ 256), Int.sub_eq_add_neg, show -(256 * 256 ^ k * (x / (256 * 256 ^ k))) = 256 * (-(256 ^ k * (x / (256 * 256 ^ k)))) by rw [Int.mul_neg, Int.mul_assoc], Int.add_mul_ediv_left _ _ (by decide : (256 : Int) ≠ 0), Int.sub_eq_add_neg]
  show x % 256 ^ (k + 1) % 256 :: le n (x % 256 ^ (k + 1) / 256) = x % 256 :: le n (x / 256)
  rw [h1, h2, ih k _ (by omega)]
theorem le_u64 (n : Nat) (x : Int) (h : n ≤ 8) : le n (x % 18446744073709551616) = le n x := le_mod n 8 x h
theorem wrapM (x : Int) : IntKind.u64.wrap x = x % 18446744073709551616 := by simp [IntKind.wrap, IntKind.signed, IntKind.bits]
/-- The bounds of a correct instruction's numbers. -/
structure EncL (x : Ins) (n : Int) : Prop where
 ok : x.Ok
 slots : slotsN x.op = n
 dst : 0 ≤ x.dst ∧ x.dst ≤ 10
 src : 0 ≤ x.src ∧ x.src ≤ 10
 off : -40000 ≤ x.off ∧ x.off ≤ 40000
def encL2 (x : Ins) : List Int := (encR1 x ++ le 4 0) ++ le 4 (x.imm / 4294967296)
set_option maxRecDepth 40000 in
set_option maxHeartbeats 4000000 in
theorem refEnc_L1 (x : Ins) (w : World) (h : EncL x 1) :
  Calls Tryz.prog 48 #[x.v] w fun e w' => ∃ v', e = .returned v' ∧ OwnB w' w.heap.size v' (encR1 x) ∧ Ext w w' := by
 have e0 := Ext.new w (.cells #[.int .i64 x.op, .bool x.reg, .int .i64 x.dst, .int .i64 x.src, .int .i64 x.off, .int .i64 x.imm] 53)
 have r0 := RowV.new w [.int .i64 x.op, .bool x.reg, .int .i64 x.dst, .int .i64 x.src, .int .i64 x.off, .int .i64 x.imm] 53
 have HC := hx fun W => refCode_any x.op x.reg W h.ok.op
 have HF := hx fun W => refFixed_any x.op W h.ok.op
 have hSL := fun W => ref04Slots_any x.op W h.ok.op
 rw [h.slots] at hSL
 have HSL := hx hSL
 have hf := fixN_bd x.op
 have hI : I64 x.imm := h.ok.imm
 obtain ⟨-, -, hd, hs, ho⟩ := h
 have hen : encR1 x = [(codeN x.op x.reg).1, (16 * ((fixN x.op).1 + x.src) + x.dst) % 256] ++ le 2 ((fixN x.op).2.1 + x.off) ++ le 4 ((fixN x.op).2.2 + x.imm) := rfl
 rw [hen]
 unfold Ins.v
 obtain ⟨op, reg, n1, n2, n3, n4⟩ := x
 dsimp only at *
 generalize (codeN op reg).1 = CD at *
 generalize (codeN op reg).2 = CB at *
 generalize (fixN op).1 = f1 at *
 generalize (fixN op).2.1 = f2 at *
 generalize (fixN op).2.2 = f3 at *
 have a1 : wrap64 (f1 + n2) = f1 + n2 := wrapI _ (by omega) (by omega)
 have a2 : wrap64 (16 * (f1 + n2)) = 16 * (f1 + n2) := wrapI _ (by omega) (by omega)
 have a3 : wrap64 (16 * (f1 + n2) + n1) = 16 * (f1 + n2) + n1 := wrapI _ (by omega) (by omega)
 have a4 : wrap64 (f2 + n3) = f2 + n3 := wrapI _ (by omega) (by omega)
 have hI0 := hI.1
 have hI1 := hI.2
 obtain ⟨y2, hy2⟩ : ∃ y2, y2 = (f2 + n3) % 18446744073709551616 := ⟨_, rfl⟩
 obtain ⟨y7, hy7⟩ : ∃ y7, y7 = n4 % 18446744073709551616 := ⟨_, rfl⟩
 obtain ⟨y4, hy4⟩ : ∃ y4, y4 = (f3 + y7) % 18446744073709551616 := ⟨_, rfl⟩
 have HL2 := hx (show le 2 y2 = le 2 (f2 + n3) by rw [hy2]; exact le_u64 2 _ (by omega))
 have HL4 := hx (show le 4 y4 = le 4 (f3 + n4) by rw [hy4, show (f3 + y7) % 18446744073709551616 = (f3 + n4) % 18446744073709551616 by rw [hy7]; omega]; exact le_u64 4 _ (by omega))
 have a5 : IntKind.u64.wrap (f2 + n3) = y2 := by rw [wrapM, hy2]
 have a6 : IntKind.u64.wrap f3 = f3 := wrapU _ (by omega) (by omega)
 have a7 : IntKind.u64.wrap n4 = y7 := by rw [wrapM, hy7]
 have a8 : IntKind.u64.wrap (f3 + y7) = y4 := by rw [wrapM, hy4]
 have b1 := hx (show 0 ≤ y2 ∧ y2 < 18446744073709551616 by omega)
 have b2 := hx (show 0 ≤ y4 ∧ y4 < 18446744073709551616 by omega)
 clear hy2 hy7 hy4 hI hI0 hI1
 have E0 := hx e0
 have R0 := hx r0
 clear hen hSL hf hd hs ho e0 r0
 go_enter Tryz.func48, Tryz.ntmps48
 go_wp2_with fail
 refine (HC.out _).mono ?_
 rintro e w1 ⟨rfl, e1⟩
 have r1 := R0.out.ext e1
 have k0 := r1.cell (i := 0) rfl
 go_wp2_with fail
 refine (HF.out _).mono ?_
 rintro e w2 ⟨rfl, e2⟩
 clear k0
 have r2 := r1.ext e2
 have k0 := r2.cell (i := 0) rfl
 have k2 := r2.cell (i := 2) rfl
 have k3 := r2.cell (i := 3) rfl
 have k4 := r2.cell (i := 4) rfl
 have k5 := r2.cell (i := 5) rfl
 have E2 := hx (E0.out.trans (e1.trans e2))
 clear r1 e1 e2
 go_upto_region 4 with fail
 generalize hV : (16 * (f1 + n2) + n1) % 256 = V at *
 have HV := hx hV
 clear hV
 have hs2 : w.heap.size + 1 ≤ w2.heap.size := by have := r2.lt; omega
 obtain ⟨W3, hW3⟩ : ∃ W3, W3 = w2.alloc (.cells #[.int .u8 CD, .int .u8 V] 5) := ⟨_, rfl⟩
 have r3 := r2.ext (Ext.new w2 (.cells #[.int .u8 CD, .int .u8 V] 5))
 have e3 := E2.out.trans (Ext.new w2 (.cells #[.int .u8 CD, .int .u8 V] 5))
 have hs3 : W3.heap.size = w2.heap.size + 1 := by rw [hW3]; simp
 have o3 : AppB W3 (w.heap.size + 1) (.slice (some ⟨w2.heap.size, 0, none⟩) 2 2) [CD, V] := .inr ⟨_, rfl, (fun h => by cases h), (fun b hb j u hu => by
  cases hb
  have h := World.news_of_block (w := W3) (B := w2.heap.size) (cs := ([CD, V].map (Value.int .u8)).toArray) (t := 5) (fr := (0, 0)) (by rw [hW3]; exact heap_alloc_new w2 _) j u (by simpa using hu)
  exact h), fun k hk => by simp [Value.ownBlock] at hk; omega⟩
 rw [← hW3] at r3 e3 ⊢
 clear hW3 k0 k2 k3 k4 k5 r2
 have k4 := r3.cell (i := 4) rfl
 have B1 := b1.out
 go_wp2_with fail
 refine (refPut_any _ _ (w.heap.size + 1) 2 y2 _ B1.1 B1.2 (by omega) o3 (by omega) (by simp)).mono ?_
 rintro e w4 ⟨v4, l4, rfl, hl4, hn4, -, own4, g4⟩
 replace own4 := own4 (by decide)
 have r4 := r3.keep g4.1 (by simp [Value.ownBlock]; omega)
 have e4 := e3.grown g4.1 (fun k hk => by simp [Value.ownBlock] at hk; omega)
 have hs4 := g4.size
 clear k4 o3 g4 r3 e3
 have k5 := r4.cell (i := 5) rfl
 have B2 := b2.out
 obtain ⟨A4, c4, rfl⟩ := own4.slice
 go_wp2_with fail
 refine (refPut_any _ _ (w.heap.size + 1) 4 y4 _ B2.1 B2.2 (by omega) (.inl own4) (by omega) (by have := hn4.out; simp at this; omega)).mono ?_
 rintro e w5 ⟨v5, l5, rfl, hl5, hn5, -, own5, g5⟩
 replace own5 := own5 (by decide)
 have r5 := r4.keep g5.1 (fun e => by have := own4.base_le _ e.symm; omega)
 have e5 := e4.grown g5.1 (fun k hk => by have := own4.base_le k hk; omega)
 clear k5 own4 g5 r4 e4 B1 B2
 have k0 := r5.cell (i := 0) rfl
 obtain ⟨A5, c5, rfl⟩ := own5.slice
 go_wp2_with fail
 refine (HSL.out _).mono ?_
 rintro e w6 ⟨rfl, rfl⟩
 go_wp2
 go_ret
 have hlA : [CD, V] ++ le 2 (f2 + n3) ++ le 4 (f3 + n4) = l5 := by rw [hl5.out, hl4.out, HL2.out, HL4.out]
 have hlB : [CD, (16 * (f1 + n2) + n1) % 256] ++ le 2 (f2 + n3) ++ le 4 (f3 + n4) = l5 := by rw [HV.out]; exact hlA
 refine ⟨.slice A5 l5.length c5, rfl, ?_, e5⟩
 have hlC : (CD :: (16 * (f1 + n2) + n1) % 256 :: (le 2 (f2 + n3) ++ le 4 (f3 + n4))) = l5 := by rw [← hlB]; simp
 first | rw [hlC] | rw [hlA] | rw [hlB]
 exact ownsRow_base own5 (by omega)
set_option maxRecDepth 40000 in
set_option maxHeartbeats 4000000 in
theorem refEnc_L2 (x : Ins) (w : World) (h : EncL x 2) :
  Calls Tryz.prog 48 #[x.v] w fun e w' => ∃ v', e = .returned v' ∧ OwnB w' w.heap.size v' (encL2 x) ∧ Ext w w' := by
 have e0 := Ext.new w (.cells #[.int .i64 x.op, .bool x.reg, .int .i64 x.dst, .int .i64 x.src, .int .i64 x.off, .int .i64 x.imm] 53)
 have r0 := RowV.new w [.int .i64 x.op, .bool x.reg, .int .i64 x.dst, .int .i64 x.src, .int .i64 x.off, .int .i64 x.imm] 53
 have HC := hx fun W => refCode_any x.op x.reg W h.ok.op
 have HF := hx fun W => refFixed_any x.op W h.ok.op
 have hSL := fun W => ref04Slots_any x.op W h.ok.op
 rw [h.slots] at hSL
 have HSL := hx hSL
 have hf := fixN_bd x.op
 have hI : I64 x.imm := h.ok.imm
 obtain ⟨-, -, hd, hs, ho⟩ := h
 have hen : encL2 x = ((([(codeN x.op x.reg).1, (16 * ((fixN x.op).1 + x.src) + x.dst) % 256] ++ le 2 ((fixN x.op).2.1 + x.off)) ++ le 4 ((fixN x.op).2.2 + x.imm)) ++ le 4 0) ++ le 4 (x.imm / 4294967296) := rfl
 rw [hen]
 unfold Ins.v
 obtain ⟨op, reg, n1, n2, n3, n4⟩ := x
 dsimp only at *
 generalize (codeN op reg).1 = CD at *
 generalize (codeN op reg).2 = CB at *
 generalize (fixN op).1 = f1 at *
 generalize (fixN op).2.1 = f2 at *
 generalize (fixN op).2.2 = f3 at *
 have a1 : wrap64 (f1 + n2) = f1 + n2 := wrapI _ (by omega) (by omega)
 have a2 : wrap64 (16 * (f1 + n2)) = 16 * (f1 + n2) := wrapI _ (by omega) (by omega)
 have a3 : wrap64 (16 * (f1 + n2) + n1) = 16 * (f1 + n2) + n1 := wrapI _ (by omega) (by omega)
 have a4 : wrap64 (f2 + n3) = f2 + n3 := wrapI _ (by omega) (by omega)
 have hI0 := hI.1
 have hI1 := hI.2
 obtain ⟨y2, hy2⟩ : ∃ y2, y2 = (f2 + n3) % 18446744073709551616 := ⟨_, rfl⟩
 obtain ⟨y7, hy7⟩ : ∃ y7, y7 = n4 % 18446744073709551616 := ⟨_, rfl⟩
 obtain ⟨y4, hy4⟩ : ∃ y4, y4 = (f3 + y7) % 18446744073709551616 := ⟨_, rfl⟩
 have HL2 := hx (show le 2 y2 = le 2 (f2 + n3) by rw [hy2]; exact le_u64 2 _ (by omega))
 have HL4 := hx (show le 4 y4 = le 4 (f3 + n4) by rw [hy4, show (f3 + y7) % 18446744073709551616 = (f3 + n4) % 18446744073709551616 by rw [hy7]; omega]; exact le_u64 4 _ (by omega))
 have a5 : IntKind.u64.wrap (f2 + n3) = y2 := by rw [wrapM, hy2]
 have a6 : IntKind.u64.wrap f3 = f3 := wrapU _ (by omega) (by omega)
 have a7 : IntKind.u64.wrap n4 = y7 := by rw [wrapM, hy7]
 have a8 : IntKind.u64.wrap (f3 + y7) = y4 := by rw [wrapM, hy4]
 have b1 := hx (show 0 ≤ y2 ∧ y2 < 18446744073709551616 by omega)
 have b2 := hx (show 0 ≤ y4 ∧ y4 < 18446744073709551616 by omega)
 obtain ⟨yq, hyq⟩ : ∃ yq, yq = y7 / 4294967296 := ⟨_, rfl⟩
 have a9 : Int.tdiv y7 4294967296 = yq := by rw [Int.tdiv_eq_ediv_of_nonneg (by omega), hyq]
 have a10 : IntKind.u64.wrap 0 = 0 := wrapU _ (by omega) (by omega)
 have a11 : IntKind.u64.wrap yq = yq := wrapU _ (by omega) (by omega)
 have b3 := hx (show 0 ≤ yq ∧ yq < 18446744073709551616 by omega)
 have HL9 := hx (show le 4 yq = le 4 (n4 / 4294967296) by rw [← le_mod 4 4 yq (by omega), ← le_mod 4 4 (n4 / 4294967296) (by omega), hyq, hy7]; congr 1; show _ % 4294967296 = _ % 4294967296; omega)
 clear hyq
 clear hy2 hy7 hy4 hI hI0 hI1
 have E0 := hx e0
 have R0 := hx r0
 clear hen hSL hf hd hs ho e0 r0
 go_enter Tryz.func48, Tryz.ntmps48
 go_wp2_with fail
 refine (HC.out _).mono ?_
 rintro e w1 ⟨rfl, e1⟩
 have r1 := R0.out.ext e1
 have k0 := r1.cell (i := 0) rfl
 go_wp2_with fail
 refine (HF.out _).mono ?_
 rintro e w2 ⟨rfl, e2⟩
 clear k0
 have r2 := r1.ext e2
 have k0 := r2.cell (i := 0) rfl
 have k2 := r2.cell (i := 2) rfl
 have k3 := r2.cell (i := 3) rfl
 have k4 := r2.cell (i := 4) rfl
 have k5 := r2.cell (i := 5) rfl
 have E2 := hx (E0.out.trans (e1.trans e2))
 clear r1 e1 e2
 go_upto_region 4 with fail
 generalize hV : (16 * (f1 + n2) + n1) % 256 = V at *
 have HV := hx hV
 clear hV
 have hs2 : w.heap.size + 1 ≤ w2.heap.size := by have := r2.lt; omega
 obtain ⟨W3, hW3⟩ : ∃ W3, W3 = w2.alloc (.cells #[.int .u8 CD, .int .u8 V] 5) := ⟨_, rfl⟩
 have r3 := r2.ext (Ext.new w2 (.cells #[.int .u8 CD, .int .u8 V] 5))
 have e3 := E2.out.trans (Ext.new w2 (.cells #[.int .u8 CD, .int .u8 V] 5))
 have hs3 : W3.heap.size = w2.heap.size + 1 := by rw [hW3]; simp
 have o3 : AppB W3 (w.heap.size + 1) (.slice (some ⟨w2.heap.size, 0, none⟩) 2 2) [CD, V] := .inr ⟨_, rfl, (fun h => by cases h), (fun b hb j u hu => by
  cases hb
  have h := World.news_of_block (w := W3) (B := w2.heap.size) (cs := ([CD, V].map (Value.int .u8)).toArray) (t := 5) (fr := (0, 0)) (by rw [hW3]; exact heap_alloc_new w2 _) j u (by simpa using hu)
  exact h), fun k hk => by simp [Value.ownBlock] at hk; omega⟩
 rw [← hW3] at r3 e3 ⊢
 clear hW3 k0 k2 k3 k4 k5 r2
 have k4 := r3.cell (i := 4) rfl
 have B1 := b1.out
 go_wp2_with fail
 refine (refPut_any _ _ (w.heap.size + 1) 2 y2 _ B1.1 B1.2 (by omega) o3 (by omega) (by simp)).mono ?_
 rintro e w4 ⟨v4, l4, rfl, hl4, hn4, -, own4, g4⟩
 replace own4 := own4 (by decide)
 have r4 := r3.keep g4.1 (by simp [Value.ownBlock]; omega)
 have e4 := e3.grown g4.1 (fun k hk => by simp [Value.ownBlock] at hk; omega)
 have hs4 := g4.size
 clear k4 o3 g4 r3 e3
 have k5 := r4.cell (i := 5) rfl
 have B2 := b2.out
 obtain ⟨A4, c4, rfl⟩ := own4.slice
 go_wp2_with fail
 refine (refPut_any _ _ (w.heap.size + 1) 4 y4 _ B2.1 B2.2 (by omega) (.inl own4) (by omega) (by have := hn4.out; simp at this; omega)).mono ?_
 rintro e w5 ⟨v5, l5, rfl, hl5, hn5, -, own5, g5⟩
 replace own5 := own5 (by decide)
 have r5 := r4.keep g5.1 (fun e => by have := own4.base_le _ e.symm; omega)
 have e5 := e4.grown g5.1 (fun k hk => by have := own4.base_le k hk; omega)
 clear k5 own4 g5 r4 e4 B1 B2
 have k0 := r5.cell (i := 0) rfl
 have k5 := r5.cell (i := 5) rfl
 obtain ⟨A5, c5, rfl⟩ := own5.slice
 have hll5 : l5.length = 8 := by have h1 := hn5.out; have h2 := hn4.out; simp at h2; omega
 have HL5 := hx hll5
 clear hll5
 go_wp2_with fail
 refine (HSL.out _).mono ?_
 rintro e w6 ⟨rfl, rfl⟩
 go_wp2_with fail
 refine (refPut_any _ _ (w.heap.size + 1) 4 0 _ (by omega) (by omega) (by omega) (.inl own5) (by have := r5.lt; omega) (by rw [HL5.out]; omega)).mono ?_
 rintro e w7 ⟨v7, l7, rfl, hl7, hn7, -, own7, g7⟩
 replace own7 := own7 (by decide)
 have r7 := r5.keep g7.1 (fun e => by have := own5.base_le _ e.symm; omega)
 have e7 := e5.grown g7.1 (fun k hk => by have := own5.base_le k hk; omega)
 clear k0 k5
 have k5 := r7.cell (i := 5) rfl
 obtain ⟨A7, c7, rfl⟩ := own7.slice
 go_wp2_with fail
 refine (refPut_any _ _ (w.heap.size + 1) 4 yq _ b3.out.1 b3.out.2 (by omega) (.inl own7) (by have := r7.lt; omega) (by rw [hn7.out, HL5.out]; omega)).mono ?_
 rintro e w8 ⟨v8, l8, rfl, hl8, hn8, -, own8, g8⟩
 replace own8 := own8 (by decide)
 have e8 := e7.grown g8.1 (fun k hk => by have := own7.base_le k hk; omega)
 obtain ⟨A8, c8, rfl⟩ := own8.slice
 clear k5
 go_wp2
 go_ret
 have hlA : ((([CD, V] ++ le 2 (f2 + n3)) ++ le 4 (f3 + n4)) ++ le 4 0) ++ le 4 (n4 / 4294967296) = l8 := by rw [hl8.out, hl7.out, hl5.out, hl4.out, HL2.out, HL4.out, HL9.out]
 have hlB : ((([CD, (16 * (f1 + n2) + n1) % 256] ++ le 2 (f2 + n3)) ++ le 4 (f3 + n4)) ++ le 4 0) ++ le 4 (n4 / 4294967296) = l8 := by rw [HV.out]; exact hlA
 refine ⟨.slice A8 l8.length c8, rfl, ?_, e8⟩
 first | rw [hlB] | rw [hlA] | (simp only [List.append_assoc, List.cons_append, List.nil_append] at hlB ⊢; rw [hlB])
 exact ownsRow_base own8 (by omega)
def encX9 (x : Ins) : List Int := if slotsN x.op = 2 then encL2 x else encR1 x
theorem encX9_length (x : Ins) : (encX9 x).length = if slotsN x.op = 2 then 16 else 8 := by
 unfold encX9
 split
 ·simp [encL2, encR1, le_length]
 ·simp [encR1, le_length]
theorem encs9_length (l : List Ins) : (l.flatMap encX9).length ≤ 16 * l.length := by
 induction l with
 | nil => exact Nat.le_refl _
 | cons x l ih => rw [List.flatMap_cons, List.length_append, List.length_cons]; have := encX9_length x; split at this <;> omega
structure EncK (x : Ins) : Prop where
 ok : x.Ok
 slots : slotsN x.op = 1 ∨ slotsN x.op = 2
 dst : 0 ≤ x.dst ∧ x.dst ≤ 10
 src : 0 ≤ x.src ∧ x.src ≤ 10
 off : -40000 ≤ x.off ∧ x.off ≤ 40000
theorem refEnc_L (x : Ins) (w : World) (h : EncK x) :
  Calls Tryz.prog 48 #[x.v] w fun e w' => ∃ v', e = .returned v' ∧ OwnB w' w.heap.size v' (encX9 x) ∧ Ext w w' := by
 unfold encX9
 rcases h.slots with h1 | h1
 ·rw [if_neg (by omega)]
  exact refEnc_L1 x w ⟨h.ok, h1, h.dst, h.src, h.off⟩
 ·rw [if_pos h1]
  exact refEnc_L2 x w ⟨h.ok, h1, h.dst, h.src, h.off⟩
end Go.Proofs.YtmofdnlefjfcfaaGreatDoor


set_option linter.unusedVariables false
set_option linter.unusedSimpArgs false
namespace Go.Proofs.YtmofdnlefjfcfaaGreatDoor
open Go.RowKit

/-- The parts of an instruction's correctness. -/
structure InsOk (x : Ins) : Prop where
 form : formN x.op ≠ -1
 reg : regBad x = false
 field : fieldBad x = false
 dst : regOk x.dst = true
 src : regOk x.src = true
 off : fits16 x.off = true
 imm : immOk x = true
theorem insE_zero {x : Ins} (h : insE x = 0) : InsOk x := by
 unfold insE at h
 split at h
 ·omega
 split at h
 ·omega
 split at h
 ·omega
 split at h
 ·omega
 split at h
 ·omega
 rename_i h1 h2 h3 h4 h5
 simp only [Bool.not_eq_true', Bool.not_eq_true, Bool.and_eq_false_iff, not_or, Bool.not_eq_false, Bool.and_eq_true] at h2 h3 h4 h5
 exact ⟨h1, h2, h3, h4.1, h4.2, h5.1, h5.2⟩
theorem insE_of {x : Ins} (h : InsOk x) : insE x = 0 := by
 unfold insE
 rw [if_neg h.form, h.reg, h.field, h.dst, h.src, h.off, h.imm]
 rfl
theorem fits16_bd {n : Int} (h : fits16 n = true) : -32768 ≤ n ∧ n ≤ 32767 := by unfold fits16 at h; exact of_decide_eq_true h
theorem regOk_bd {n : Int} (h : regOk n = true) : 0 ≤ n ∧ n ≤ 10 := by unfold regOk at h; exact of_decide_eq_true h
theorem slotsN_of {n : Int} (h : formN n ≠ -1) : slotsN n = 1 ∨ slotsN n = 2 := by
 unfold slotsN
 rw [if_neg h]
 split
 ·exact .inr rfl
 ·exact .inl rfl
theorem encK_of {x : Ins} (hx : x.Ok) (h : InsOk x) : EncK x := by
 have h1 := fits16_bd h.off
 exact ⟨hx, slotsN_of h.form, regOk_bd h.dst, regOk_bd h.src, by omega, by omega⟩
set_option maxRecDepth 100000 in
theorem fix_uses (n : Int) (reg : Bool) : ((fixN n).1 = 0 ∨ usesSrc n reg = false) ∧ ((fixN n).2.1 = 0 ∨ usesOff n = false) ∧ ((fixN n).2.2 = 0 ∨ usesImm n reg = false) := by
 by_cases h : 0 ≤ n ∧ n < 86
 ·obtain ⟨k, rfl⟩ := Int.eq_ofNat_of_zero_le h.1
  have h1 : ∀ k : Fin 86, ∀ reg : Bool, ((fixN (k.val : Nat)).1 = 0 ∨ usesSrc (k.val : Nat) reg = false) ∧ ((fixN (k.val : Nat)).2.1 = 0 ∨ usesOff (k.val : Nat) = false) ∧ ((fixN (k.val : Nat)).2.2 = 0 ∨ usesImm (k.val : Nat) reg = false) := by decide +kernel
  exact h1 ⟨k, by omega⟩ reg
 ·have hr : rowOf n = noneRow := if_neg h
  unfold fixN
  rw [hr]
  exact ⟨.inl rfl, .inl rfl, .inl rfl⟩
theorem fBad_zero {u : Bool} {n : Int} (h : fBad u n = false) (hu : u = false) : n = 0 := by
 subst hu
 unfold fBad at h
 simpa using h
/-- Of each pair of numbers that are joined in an encoding one is zero. -/
theorem fix_zero {x : Ins} (h : InsOk x) : ((fixN x.op).1 = 0 ∨ x.src = 0) ∧ ((fixN x.op).2.1 = 0 ∨ x.off = 0) ∧ ((fixN x.op).2.2 = 0 ∨ x.imm = 0) := by
 have hf := h.field
 unfold fieldBad at hf
 simp only [Bool.or_eq_false_iff] at hf
 obtain ⟨⟨⟨-, h2⟩, h3⟩, h4⟩ := hf
 obtain ⟨f1, f2, f3⟩ := fix_uses x.op x.reg
 exact ⟨f1.imp id (fBad_zero h2), f2.imp id (fBad_zero h3), f3.imp id (fBad_zero h4)⟩
theorem bits_or_zero {a b : Int} (ha : I64 a) (hb : I64 b) (h : b = 0 ∨ a = 0) : bits BinOp.or IntKind.i64 a b = b + a := by
 have hw : ∀ z : Int, I64 z → IntKind.i64.wrap ((BitVec.ofInt 64 z).toNat : Int) = z := by
  intro z hz
  obtain ⟨h1, h2⟩ := hz
  rw [BitVec.toNat_ofInt, IntKind.wrap_i64]
  omega
 show IntKind.i64.wrap ((BitVec.ofInt 64 a ||| BitVec.ofInt 64 b).toNat : Int) = _
 rcases h with rfl | rfl
 ·rw [show BitVec.ofInt 64 0 = 0#64 from rfl, BitVec.or_zero, hw a ha, Int.zero_add]
 ·rw [show BitVec.ofInt 64 0 = 0#64 from rfl, BitVec.zero_or, hw b hb, Int.add_zero]
theorem bits_or_16 {s d : Int} (hs : 0 ≤ s ∧ s ≤ 100) (hd : 0 ≤ d ∧ d ≤ 10) : bits BinOp.or IntKind.i64 (16 * s) d = 16 * s + d := by
 obtain ⟨y, rfl⟩ := Int.eq_ofNat_of_zero_le hs.1
 obtain ⟨x, rfl⟩ := Int.eq_ofNat_of_zero_le hd.1
 have h := or_disj x y 4 (by omega)
 show IntKind.i64.wrap ((BitVec.ofInt 64 (16 * (y : Int)) ||| BitVec.ofInt 64 (x : Int)).toNat : Int) = _
 rw [show (16 * (y : Int)) = ((y * 2 ^ 4 : Nat) : Int) by push_cast; omega, BitVec.ofInt_natCast, BitVec.ofInt_natCast, BitVec.toNat_or, BitVec.toNat_ofNat, BitVec.toNat_ofNat, Nat.mod_eq_of_lt (by omega), Nat.mod_eq_of_lt (by omega), Nat.or_comm, h, IntKind.wrap_i64]
 omega
end Go.Proofs.YtmofdnlefjfcfaaGreatDoor


set_option linter.unusedVariables false
set_option linter.unusedSimpArgs false
namespace Go.Proofs.YtmofdnlefjfcfaaGreatDoor
open Go.RowKit Go.Lib

theorem stmtE_zero {s : Stmt} (h : stmtE s = 0) : lblBad s.labels = false ∧ insE s.ins = 0 ∧ tailB (jumpsX s.ins) (formN s.ins.op == 11) s.ins.off s.ins.imm s.target s.map = 0 := by
 cases h1 : lblBad s.labels with
 | true => unfold stmtE at h; rw [if_pos h1] at h; omega
 | false =>
  by_cases h2 : insE s.ins = 0
  ·exact ⟨rfl, h2, by rw [← stmtE_tail h1 h2]; exact h⟩
  ·exact absurd ((stmtE_ins h1 h2).symm.trans h) h2
structure TailOk (J R : Bool) (off imm : Int) (t m : ByteArray) : Prop where
 off : J = true → off = 0
 imm : R = true → imm = 0
 tgt : J = false → neS t = false
 map : R = false → neS m = false
 tid : J = true → idB t = true
 mid : R = true → idB m = true
theorem tailB_zero {J R : Bool} {off imm : Int} {t m : ByteArray} (h : tailB J R off imm t m = 0) : TailOk J R off imm t m := by
 unfold tailB at h
 split at h
 ·omega
 split at h
 ·omega
 rename_i h1 h2
 simp only [Bool.or_eq_true, not_or, Bool.not_eq_true, Bool.and_eq_true, not_and] at h1 h2
 obtain ⟨⟨⟨h1, h3⟩, h4⟩, h5⟩ := h1
 refine ⟨fun e => ?_, fun e => ?_, fun e => ?_, fun e => ?_, fun e => ?_, fun e => ?_⟩
 ·subst e; simpa using h1
 ·subst e; simpa using h3
 ·subst e; simpa using h4
 ·subst e; simpa using h5
 ·subst e; simpa using h2.1
 ·subst e; simpa using h2.2
theorem jumps_off {x : Ins} (h : jumpsX x = true) : usesOff x.op = true := by
 unfold jumpsX at h
 have h := of_decide_eq_true h
 unfold usesOff
 rcases h with h | h <;> rw [h] <;> decide
theorem fstB_all {p : Nat → Bool} {n : Nat} (h : fstB p n = none) : ∀ j, j < n → p j = false := by
 intro j hj
 unfold fstB at h
 rw [List.findSome?_eq_none_iff] at h
 have := h j (by simpa using hj)
 cases hp : p j with
 | false => rfl
 | true => rw [hp] at this; simp at this
/-- What a result without an error says. -/
theorem resE_parts {M : List Def} {L : List Stmt} (h : (resE M L).2 = 0) : (pchk M L).2 = 0 ∧ (∀ j, j < L.length → szBad L j = false) ∧ (∀ j, j < L.length → farBad L j = false) := by
 by_cases h1 : (pchk M L).2 = 0
 ·cases h2 : fstB (szBad L) L.length with
  | some i => rw [resE_size h1 h2] at h; exact absurd (show (16 : Int) = 0 from h) (by decide)
  | none =>
   cases h3 : fstB (farBad L) L.length with
   | some i => rw [resE_far h1 h2 h3] at h; exact absurd (show (13 : Int) = 0 from h) (by decide)
   | none => exact ⟨h1, fstB_all h2, fstB_all h3⟩
 ·rw [resE_chk h1] at h; exact absurd h h1
theorem resX_op (L : List Stmt) (k : Nat) : (resX L k).op = (L.getD k default).ins.op ∧ (resX L k).reg = (L.getD k default).ins.reg ∧ (resX L k).dst = (L.getD k default).ins.dst ∧ (resX L k).src = (L.getD k default).ins.src ∧ (resX L k).imm = (L.getD k default).ins.imm := by
 unfold resX
 split <;> exact ⟨rfl, rfl, rfl, rfl, rfl⟩
theorem resX_insE {M : List Def} {L : List Stmt} (h : (resE M L).2 = 0) {k : Nat} (hk : k < L.length) : insE (resX L k) = 0 := by
 obtain ⟨h1, -, h3⟩ := resE_parts h
 obtain ⟨-, hi, ht⟩ := stmtE_zero (pchk_stmt h1 k hk)
 have hf := h3 k hk
 unfold resX
 unfold farBad at hf
 cases hn : neS (L.getD k default).target with
 | false => rw [if_neg (by decide)]; exact hi
 | true =>
  rw [if_pos rfl]
  rw [hn, Bool.true_and, Bool.or_eq_false_iff] at hf
  have hb1 := of_decide_eq_false hf.1
  have hb2 := of_decide_eq_false hf.2
  have hT := tailB_zero ht
  have hJ : jumpsX (L.getD k default).ins = true := by
   cases hj : jumpsX (L.getD k default).ins with
   | true => rfl
   | false => rw [hT.tgt hj] at hn; cases hn
  have ho := insE_zero hi
  have hu := jumps_off hJ
  have hfd := ho.field
  unfold fieldBad at hfd
  simp only [Bool.or_eq_false_iff] at hfd
  exact insE_of ⟨ho.form, ho.reg, by
   unfold fieldBad
   simp only [Bool.or_eq_false_iff]
   exact ⟨⟨⟨hfd.1.1.1, hfd.1.1.2⟩, by unfold fBad; rw [hu]; rfl⟩, hfd.2⟩, ho.dst, ho.src, (show fits16 (disI L k) = true by unfold fits16; exact decide_eq_true (by omega)), ho.imm⟩
theorem resL_insE {M : List Def} {L : List Stmt} (h : (resE M L).2 = 0) : ∀ x ∈ resL L, insE x = 0 := by
 intro x hx
 obtain ⟨k, hk, rfl⟩ := List.mem_map.1 hx
 exact resX_insE h (by simpa using hk)
/-- The object of a program. -/
def asmO (M : List Def) (L : List Stmt) : Ob := if (resE M L).2 = 0 then ⟨M, (resL L).flatMap encX9, refsOf M L L.length⟩ else ⟨[], [], []⟩
end Go.Proofs.YtmofdnlefjfcfaaGreatDoor
