/- The layer strtab: Build, and that of its reference. -/
import Derived.Test.YtmofdnlefjfcfaaGreatDoorJEq
import Derived.Test.YtmofdnlefjfcfaaGreatDoorJShelf
import Derived.Shelf.Bytes.SlSmallAll
import Derived.Laws.RangeAny
set_option linter.unusedVariables false
set_option linter.unusedSimpArgs false
namespace Go.Proofs.YtmofdnlefjfcfaaGreatDoor
open Go.RowKit Go.Lib

/-- A text that may stand in a table. -/
structure GoodT (s : ByteArray) : Prop where
  ne : s.size ≠ 0
  nul : (0 : Int) ∉ bytesOf s
def tlen (l : List ByteArray) : Nat := (l.map fun s => s.size + 1).sum
def tab (l : List ByteArray) : List Int := l.flatMap fun s => bytesOf s ++ [0]
def tabOf (l : List ByteArray) : List Int := 0 :: tab l
def offsOf : Nat → List ByteArray → List Int
  | _, [] => []
  | a, s :: l => (a : Int) :: offsOf (a + s.size + 1) l
theorem tab_length (l : List ByteArray) : (tab l).length = tlen l := by
  induction l with
  | nil => rfl
  | cons s l ih => simp only [tab, tlen, List.flatMap_cons, List.map_cons, List.sum_cons, List.length_append, bytesOf_length] at *; simp [ih]
theorem tabOf_length (l : List ByteArray) : (tabOf l).length = tlen l + 1 := by simp [tabOf, tab_length]
theorem tlen_le {l : List ByteArray} {B : Nat} (h : ∀ s ∈ l, s.size ≤ B) : tlen l ≤ l.length * (B + 1) := by
  induction l with
  | nil => simp [tlen]
  | cons s l ih =>
    have := ih fun s hs => h s (by simp [hs])
    have := h s (by simp)
    simp only [tlen, List.map_cons, List.sum_cons, List.length_cons, Nat.add_mul] at *
    omega
theorem tlen_append (a b : List ByteArray) : tlen (a ++ b) = tlen a + tlen b := by simp [tlen]
theorem tab_append (a b : List ByteArray) : tab (a ++ b) = tab a ++ tab b := by simp [tab]
theorem offsOf_length (a : Nat) (l : List ByteArray) : (offsOf a l).length = l.length := by
  induction l generalizing a with
  | nil => rfl
  | cons s l ih => simp [offsOf, ih]
theorem offsOf_snoc (a : Nat) (l : List ByteArray) (s : ByteArray) : offsOf a (l ++ [s]) = offsOf a l ++ [((a + tlen l : Nat) : Int)] := by
  induction l generalizing a with
  | nil => simp [offsOf, tlen]
  | cons t l ih => simp only [List.cons_append, offsOf, ih, tlen, List.map_cons, List.sum_cons]; simp; omega
theorem tab_byt (l : List ByteArray) : Byt (tab l) := by
  intro x hx
  obtain ⟨s, _, hx⟩ := List.mem_flatMap.1 hx
  rcases List.mem_append.1 hx with h | h
  · exact bytesOf_byt s x h
  · simp at h; omega
theorem tabOf_byt (l : List ByteArray) : Byt (tabOf l) := by
  intro x hx
  rcases List.mem_cons.1 hx with rfl | h
  · omega
  · exact tab_byt l x h
theorem offsOf_bd (a : Nat) (l : List ByteArray) : ∀ x ∈ offsOf a l, 0 ≤ x ∧ x ≤ a + tlen l := by
  induction l generalizing a with
  | nil => intro x hx; cases hx
  | cons t l ih =>
    intro x hx
    simp only [offsOf, List.mem_cons] at hx
    have : tlen (t :: l) = t.size + 1 + tlen l := by simp [tlen]
    rcases hx with rfl | hx
    · omega
    · have := ih _ x hx; omega
theorem indexByte_none (l : List UInt8) (h : (0 : UInt8) ∉ l) : Lib.indexByte l 0 = -1 := by
  induction l with
  | nil => rfl
  | cons b l ih =>
    have h1 : b ≠ 0 := fun e => h (by simp [e])
    have h2 := ih fun e => h (by simp [e])
    unfold Lib.indexByte
    rw [h2]
    simp [h1]
theorem GoodT.index {s : ByteArray} (h : GoodT s) : Lib.indexByte s.data.toList (0 : Int).toNat.toUInt8 = -1 := by
  refine indexByte_none _ fun hm => h.nul ?_
  simp only [bytesOf, List.mem_map]
  exact ⟨0, hm, rfl⟩

theorem toList_ne {x : ByteArray} (h : x.size ≠ 0) : x.toList.isEmpty = false := by
  rw [Go.ByteArray.toList_eq]
  cases e : x.data.toList with
  | nil => exact absurd (by show x.data.size = 0; rw [← Array.length_toList, e]; rfl) h
  | cons a l => rfl
theorem name_world {P : Program} {c : Code} {Q : Exit → Act → World → Prop} {a : Act} {W : World} (h : ∀ W', W' = W → Code.wp P c Q a W') : Code.wp P c Q a W := h W rfl
/-- A block of numbers, whole. -/
def RowI (w : World) (g : Nat) (l : List Int) : Prop := w.heap[g]? = some (.cells (l.map (Value.int .i64)).toArray 3 (0, 0))
theorem RowI.cell {w : World} {g : Nat} {l : List Int} (h : RowI w g l) {i : Nat} {y : Int} (hy : l[i]? = some y) : w.cell? ⟨g, i, none⟩ = some (.int .i64 y) := by
  simp [World.cell?, show w.heap[g]? = _ from h, hy]
theorem RowI.frozen {w : World} {g : Nat} {l : List Int} (h : RowI w g l) (i : Nat) : w.frozen? ⟨g, i, none⟩ = false := by
  simp [World.frozen?, show w.heap[g]? = _ from h]
theorem RowI.set {w : World} {g : Nat} {l : List Int} (h : RowI w g l) (i : Nat) (y : Int) : RowI (w.setCell ⟨g, i, none⟩ (.int .i64 y)) g (l.set i y) := by
  unfold RowI at *
  simp only [World.setCell, Array.getElem?_modify, h, if_true, Option.map_some]
  simp [List.map_set]
theorem RowI.lt {w : World} {g : Nat} {l : List Int} (h : RowI w g l) : g < w.heap.size := (Array.getElem?_eq_some_iff.1 h).1
theorem RowI.keep {w w' : World} {g : Nat} {l : List Int} {row : Option Nat} (h : RowI w g l) (hg : w.grownBy w' row) (hne : some g ≠ row) : RowI w' g l :=
  (hg.block g h.lt hne).trans h
theorem RowI.ext {w w' : World} {g : Nat} {l : List Int} (h : RowI w g l) (hg : Ext w w') : RowI w' g l := hg.obj h
theorem rowI_made (w : World) (N : Nat) : RowI (w.alloc (.cells (madeCells #[.int .i64 0] N) 3)) w.heap.size (List.replicate N 0) := by
  have e : madeCells #[.int .i64 0] N = ((List.replicate N 0).map (Value.int .i64)).toArray := by
    apply Array.ext'
    rw [toList_madeCells_one]; simp
  unfold RowI
  rw [e]
  exact heap_alloc_new w _
theorem RowI.read {w : World} {g N : Nat} {L : List Int} (h : RowI w g L) (hb : ∀ x ∈ L, I64 x) (hN : L.length = N) (hL : L.length ≤ 1000000000000) : IsInts w (.slice (some ⟨g, 0, none⟩) N N) L := by
  subst hN
  refine ⟨_, L.length, rfl, ⟨Nat.le_refl _, by simp only [maxLen]; omega⟩, by omega, (fun h => by cases h), fun i x hx => ⟨g, 0, rfl, ?_, hb x (List.mem_of_getElem? hx)⟩⟩
  rw [Nat.mul_one, Nat.zero_add]; exact h.cell hx
theorem RowB.ne {w : World} {g g' : Nat} {l l' : List Int} (h : RowB w g l) (h' : RowI w g' l') : g ≠ g' := by
  intro e
  subst e
  unfold RowB RowI at *
  rw [h] at h'
  injection h' with h'
  injection h' with _ ht
  exact absurd ht (by decide)

set_option maxRecDepth 20000 in
set_option maxHeartbeats 1000000 in
theorem strtab_Build_any (v : Value) (l : List ByteArray) (w : World) (hl : l.length ≤ 1000) (hg : ∀ s ∈ l, GoodT s) (hs : ∀ s ∈ l, s.size ≤ 1000) (hv : IsStrs w v l) :
    Calls Tryz.prog 25 #[v] w fun e w' => ∃ t o, e = .returned (.tuple #[t, o, .int .i64 0]) ∧ IsB w' t (tabOf l) ∧ IsInts w' o (offsOf 1 l) ∧ Ext w w' := by
  obtain ⟨A, c, rfl, -, -, hv'⟩ := hv.form
  have hT : tlen l ≤ 1001000 := Nat.le_trans (tlen_le hs) (by omega)
  have HG := hx hg
  have HS := hx hs
  clear hg hs
  go_enter Tryz.func25, Tryz.ntmps25
  go_wp2
  go_loopw [5, 15] (fun s i wr => ∃ (pre suf : List ByteArray), l = pre ++ suf ∧ i = .int .i64 (pre.length : Nat) ∧ s = .int .i64 ((tlen pre + 1 : Nat)) ∧ w = wr) (fun _ i _ => l.length - (RowKit.intOf i).toNat)
  case atStart => exact ⟨[], l, rfl, rfl, rfl, rfl⟩
  case round =>
    obtain ⟨pre, suf, hl', rfl, rfl, rfl⟩ := hrel
    have hb : tlen pre + tlen suf ≤ 1001000 := by rw [← tlen_append, ← hl']; exact hT
    cases suf with
    | cons x suf =>
      have hlt : pre.length < l.length := by rw [hl']; simp
      have hgx := HG.out x (by rw [hl']; simp)
      have hsx := HS.out x (by rw [hl']; simp)
      have hvx := hv'
      rw [hl'] at hvx
      obtain ⟨b, o, rfl, d1⟩ := hvx.at
      obtain ⟨d1, d2⟩ := d1
      rw [Nat.mul_one] at d1
      have HL := hx hl'; clear hl' hvx
      have hne := hgx.ne
      have hix := hgx.index
      have hnx := toList_ne hne
      simp only [show ((0 : Int).toNat.toUInt8) = (0 : UInt8) from rfl] at hix
      go_wp2_with (first | (go_at_call 62; refine (Tryz.strings_IndexByte _ _ _).mono ?_; rintro e w' ⟨rfl, rfl⟩))
      go_roundw
      case rel => exact ⟨pre ++ [x], suf, by simp [HL.out], by simp, by rw [tlen_append]; simp [tlen]; omega, trivial⟩
      case measure => simp [RowKit.intOf]; omega
    | nil =>
      obtain rfl : l = pre := by simpa using hl'
      clear hl'
      have hlt : ¬ l.length < l.length := by omega
      obtain ⟨N, hN⟩ : ∃ N : Nat, N = tlen l + 1 := ⟨_, rfl⟩
      rw [← hN]
      have HN := hx hN
      have hNb : N ≤ 1001001 := by omega
      clear hN hT hb
      have hmk := run_make_row' (P := Tryz.prog) 28 5 (.int .u8 0) 1 Tryz.underlying28 (by kernel_rfl) rfl .i64 .i64 N (by omega) (by omega)
      have hmi := run_make_row' (P := Tryz.prog) 66 3 (.int .i64 0) 8 Tryz.underlying66 (by kernel_rfl) rfl .i64 .i64 l.length (by omega) (by omega)
      go_wp2
      go_region
      all_goals go_wp2
      all_goals refine name_world ?_
      all_goals (intro w2 hw2; clear hmk hmi)
      all_goals first
        | (obtain ⟨gb, hgb⟩ : ∃ g, g = w.heap.size := ⟨_, rfl⟩
           obtain ⟨gi, hgi⟩ : ∃ g, g = w.heap.size + 1 := ⟨_, rfl⟩
           have rb : RowB w2 gb (List.replicate N 0) := by rw [hw2, hgb]; exact (rowB_made w N).ext (Ext.drew (Ext.new _ _))
           have ri : RowI w2 gi (List.replicate l.length 0) := by rw [hw2, hgi]; exact RowI.ext (by have h := rowI_made (w.alloc (.cells (madeCells #[.int .u8 0] N) 5)) l.length; simpa using h) (Ext.drew (Ext.refl _))
           rw [← hgi, ← hgb])
        | (obtain ⟨gi, hgi⟩ : ∃ g, g = w.heap.size := ⟨_, rfl⟩
           obtain ⟨gb, hgb⟩ : ∃ g, g = w.heap.size + 1 := ⟨_, rfl⟩
           have ri : RowI w2 gi (List.replicate l.length 0) := by rw [hw2, hgi]; exact (rowI_made w l.length).ext (Ext.drew (Ext.new _ _))
           have rb : RowB w2 gb (List.replicate N 0) := by rw [hw2, hgb]; exact RowB.ext (by have h := rowB_made (w.alloc (.cells (madeCells #[.int .i64 0] l.length) 3)) N; simpa using h) (Ext.drew (Ext.refl _))
           rw [← hgb, ← hgi])
      all_goals
        have hgbb : w.heap.size ≤ gb := by omega
        have hgii : w.heap.size ≤ gi := by omega
        have hex : Ext w w2 := by rw [hw2]; exact (((Ext.refl w).alloc _).alloc _).drew
        have hgn := rb.ne ri
        clear hw2 hgb hgi
        go_loopw [10, 39] (fun a i wr => ∃ (pre suf : List ByteArray) (a' q : Nat), l = pre ++ suf ∧ i = .int .i64 (pre.length : Nat) ∧ a = .int .i64 a' ∧ a' = tlen pre + 1 ∧ a' + q = N ∧ RowB wr gb (tabOf pre ++ List.replicate q 0) ∧ RowI wr gi (offsOf 1 pre ++ List.replicate suf.length 0) ∧ Ext w wr) (fun _ i _ => l.length - (RowKit.intOf i).toNat)
        case atStart =>
          have := HN.out
          exact ⟨[], l, 1, tlen l, rfl, rfl, rfl, rfl, by omega, by rw [HN.out, Nat.add_comm, ← List.replicate_append_replicate] at rb; exact rb, ri, hex⟩
        case round =>
          clear rb ri hex
          obtain ⟨pre, suf, a', q, hl', rfl, rfl, ha, hq, rb, ri, hex⟩ := hrel
          have HA := hx ha; clear ha
          have HQ := hx hq; clear hq
          cases suf with
          | cons x suf =>
            have hlt : pre.length < l.length := by rw [hl']; simp
            have hsx := HS.out x (by rw [hl']; simp)
            have hsuf : Hx (q = x.size + (1 + tlen suf)) := ⟨by have h1 := HA.out; have h2 := HQ.out; have h3 := HN.out; rw [hl', tlen_append] at h3; simp [tlen] at *; omega⟩
            have haq : a' < N := by have := HQ.out; have := hsuf.out; omega
            have haq2 : a' + x.size ≤ N := by have := HQ.out; have := hsuf.out; omega
            have hvx := hv'
            rw [hl'] at hvx
            obtain ⟨b, o, rfl, d1⟩ := hvx.at
            obtain ⟨d1, d2⟩ := EStr.ext d1 hex
            rw [Nat.mul_one] at d1
            have HL := hx hl'; clear hl' hvx
            have c1 : wr.cell? ⟨gi, pre.length, none⟩ = some (.int .i64 0) := ri.cell (by rw [List.getElem?_append_right (by rw [offsOf_length]; exact Nat.le_refl _)]; simp [offsOf_length])
            have c2 := ri.frozen pre.length
            have rb1 : RowB (wr.setCell ⟨gi, pre.length, none⟩ (.int .i64 (a' : Int))) gb (tabOf pre ++ List.replicate q 0) := rb.keep (grown_setCell _ _ _ _) (by intro e; injection e with e; exact hgn e)
            have ri1 := ri.set pre.length (a' : Int)
            have hex1 : Ext w (wr.setCell ⟨gi, pre.length, none⟩ (.int .i64 (a' : Int))) := hex.setCell _ hgii
            have hne : ¬ N = a' := by omega
            have hlen : Hx ((tabOf pre ++ List.replicate q 0).length = N) := ⟨by have := HA.out; have := HQ.out; simp [tabOf_length]; omega⟩
            have hfit : a' + x.size ≤ (tabOf pre ++ List.replicate q (0 : Int)).length := by rw [hlen.out]; exact haq2
            clear rb ri
            go_wp2_with (refine wp_copyStr (off := a') (dLen := N - a') (dCap := N - a') Tryz.underlying28 sizeB rb1 x hfit (by omega) (by rfl) (by rfl) (by rfl) (by rfl) ?_; intro w3 r3 g3)
            have ri3 := ri1.keep g3 (by intro e; injection e with e; exact hgn e.symm)
            have hex3 := hex1.grown g3 (fun k hk => by injection hk with hk; omega)
            clear rb1 ri1 g3 hex hex1
            go_roundw
            case rel =>
              refine ⟨pre ++ [x], suf, a' + (x.size + 1), tlen suf, by simp [HL.out], by simp, by simp, by rw [tlen_append]; have := HA.out; simp [tlen] at *; omega, by have := HQ.out; have := hsuf.out; omega, ?_, ?_, hex3⟩
              · have e : a' = (tabOf pre).length := by rw [tabOf_length]; exact HA.out
                rw [hsuf.out, e, ← bytesOf_length x, ← List.replicate_append_replicate] at r3
                have e2 := splice_mid (tabOf pre) (List.replicate (bytesOf x).length 0) (bytesOf x) (List.replicate (1 + tlen suf) 0) (by simp)
                rw [e2] at r3
                have e3 : tabOf (pre ++ [x]) ++ List.replicate (tlen suf) 0 = tabOf pre ++ (bytesOf x ++ List.replicate (1 + tlen suf) 0) := by
                  rw [← List.replicate_append_replicate]; simp [tabOf, tab_append, tab]
                rw [e3]; exact r3
              · rw [offsOf_snoc]
                have e3 : offsOf 1 pre ++ [((1 + tlen pre : Nat) : Int)] ++ List.replicate suf.length 0 = (offsOf 1 pre ++ List.replicate (x :: suf).length 0).set pre.length (a' : Int) := by
                  rw [List.set_append_right _ _ (by rw [offsOf_length]; exact Nat.le_refl _), offsOf_length, Nat.sub_self, HA.out]
                  simp [List.replicate_succ]; omega
                rw [e3]; exact ri3
            case measure => simp [RowKit.intOf]; omega
          | nil =>
            obtain rfl : l = pre := by simpa using hl'
            clear hl'
            have hlt : ¬ l.length < l.length := by omega
            go_wp2
            go_ret3
            refine ⟨_, _, rfl, ?_, ?_, hex⟩
            · have hq0 : q = 0 := by have := HA.out; have := HQ.out; have := HN.out; omega
              rw [hq0] at rb
              simp only [List.replicate_zero, List.append_nil] at rb
              exact rb.read (tabOf_byt l) (by rw [tabOf_length, HN.out]) (by rw [tabOf_length]; have := HN.out; omega)
            · simp only [List.length_nil, List.replicate_zero, List.append_nil] at ri
              exact ri.read (fun z hz => by have := offsOf_bd 1 l z hz; have := HN.out; constructor <;> omega) (offsOf_length _ _) (by rw [offsOf_length]; omega)
end Go.Proofs.YtmofdnlefjfcfaaGreatDoor


set_option linter.unusedVariables false
set_option linter.unusedSimpArgs false
namespace Go.Proofs.YtmofdnlefjfcfaaGreatDoor
open Go.RowKit Go.Lib

theorem OwnI.read {w : World} {base : Nat} {v : Value} {l : List Int} (h : OwnI w base v l) (hb : ∀ x ∈ l, I64 x) (hl : l.length ≤ 281474976710656) : IsInts w v l :=
 Own.read encI_ok h hl fun x hx b o hc => ⟨by simpa using hc 0 (.int .i64 x) rfl, hb x hx⟩
theorem OwnS.read {w : World} {base : Nat} {v : Value} {l : List ByteArray} (h : OwnS w base v l) (hb : ∀ x ∈ l, x.size ≤ 140737488355328) (hl : l.length ≤ 281474976710656) : IsStrs w v l :=
 Own.read encS_ok h hl fun x hx b o hc => ⟨by simpa using hc 0 (.string x) rfl, hb x hx⟩

end Go.Proofs.YtmofdnlefjfcfaaGreatDoor


set_option linter.unusedVariables false
set_option linter.unusedSimpArgs false
namespace Go.Proofs.YtmofdnlefjfcfaaGreatDoor
open Go.RowKit Go.Lib

theorem conv_str {w W : World} {v : Value} {xs : List Int} (h : IsB w v xs) (he : Ext w W) : (convert 28 9 v).run Tryz.prog W = .ok (.string (strOfNums xs)) W := by
 obtain ⟨A, c, rfl, h1, h2, hnn, h4⟩ := IsB.ext h he
 by_cases h0 : xs.length = 0
 ·obtain rfl : xs = [] := List.eq_nil_of_length_eq_zero h0
  have := run_convert_bytes_zero (P := Tryz.prog) W 28 5 Tryz.underlying28 Tryz.underlying5 A c 9 Tryz.underlying9
  exact this
 ·have hp : 0 < xs.length := by omega
  obtain ⟨b, o, rfl, _⟩ := h4 0 _ (List.getElem?_eq_getElem hp)
  refine run_convert_bytes_arg (P := Tryz.prog) W 28 5 Tryz.underlying28 Tryz.underlying5 b o xs.length c xs rfl (fun i hi => ?_) 9 Tryz.underlying9
  obtain ⟨b2, o2, hb2, hE⟩ := h4 i _ (List.getElem?_eq_getElem hi)
  cases hb2
  rw [Nat.mul_one] at hE
  rw [hE.1]; simp [hi]

/-- What stands up to the first byte 0; nothing where there is none. -/
def nulAt : List Int → Option (List Int)
 | [] => none
 | x :: l => if x = 0 then some [] else (nulAt l).map (x :: ·)
theorem nulAt_take {l t : List Int} (h : nulAt l = some t) : t = l.take t.length ∧ t.length < l.length := by
 induction l generalizing t with
 | nil => cases h
 | cons x l ih =>
  unfold nulAt at h
  split at h
  ·cases h; simp
  ·obtain ⟨u, hu, rfl⟩ := Option.map_eq_some_iff.1 h
   have := ih hu
   refine ⟨by simp only [List.length_cons, List.take_succ_cons]; rw [← this.1], by simp; exact this.2⟩
def nulIx (l : List Int) : Int := match nulAt l with | none => -1 | some t => t.length
theorem nulIx_eq (l : List Int) (hb : Byt l) : Lib.indexByte (Lib.bytesOf l) (0 : Int).toNat.toUInt8 = nulIx l := by
 unfold nulIx
 induction l with
 | nil => rfl
 | cons x l ih =>
  have hx := hb x (by simp)
  have ih := ih fun y hy => hb y (by simp [hy])
  have hz : ((0 : Int).toNat.toUInt8) = 0 := rfl
  rw [hz] at ih ⊢
  have e : Lib.bytesOf (x :: l) = UInt8.ofNat x.toNat :: Lib.bytesOf l := rfl
  rw [e, Lib.indexByte, ih, show nulAt (x :: l) = if x = 0 then some [] else (nulAt l).map (x :: ·) from rfl]
  by_cases h0 : x = 0
  ·subst h0; rfl
  ·have h1 : UInt8.ofNat x.toNat ≠ 0 := by
    intro h
    have := congrArg UInt8.toNat h
    simp at this
    omega
   have h2 : (UInt8.ofNat x.toNat == 0) = false := beq_eq_false_iff_ne.2 h1
   rw [h2, if_neg h0]
   cases hn : nulAt l with
   | none => simp
   | some t =>
    have h3 : ((t.length : Int) == -1) = false := beq_eq_false_iff_ne.2 (by omega)
    simp [h3]
def getT (b : List Int) (off : Int) : Option (List Int) := if 0 ≤ off ∧ off < b.length then nulAt (b.drop off.toNat) else none
def getS (b : List Int) (off : Int) : ByteArray := match getT b off with | none => ⟨#[]⟩ | some t => strOfNums t
def getE (b : List Int) (off : Int) : Int := match getT b off with | none => 4 | some _ => 0
/-- bytes.Cut at the byte 0. -/
theorem cut0_any {w : World} {b o n c g d : Nat} {xs : List Int} (h : IsB w (.slice (some ⟨b, o, none⟩) n c) xs) (hn : xs.length ≤ 1000000000) (hg : w.cell? ⟨g, 0, none⟩ = some (.int .u8 0)) :
  Calls Tryz.prog 122 #[.slice (some ⟨b, o, none⟩) n c, .slice (some ⟨g, 0, none⟩) 1 d] w fun e w' => e = .returned (Lib.cutV (some ⟨b, o, none⟩) n c 1 (nulIx xs)) ∧ Ext w w' := by
 obtain ⟨hl, hnc, hn2⟩ := h.len_eq
 subst hl
 have hbt := h.byt
 have hidx := Tryz.bytes_Index_one b o xs.length c g 0 d xs 0 w rfl (fun i hi => by
  obtain ⟨b2, o2, hb2, hE⟩ := h.get (List.getElem?_eq_getElem hi)
  cases hb2
  rw [Nat.mul_one] at hE
  rw [hE.1]; simp [hi]) hg
 rw [nulIx_eq xs hbt] at hidx
 have hi0 : -1 ≤ nulIx xs := by unfold nulIx; split <;> omega
 have hi1 : 0 ≤ nulIx xs → nulIx xs + (1 : Nat) ≤ xs.length := by
  unfold nulIx
  split
  ·omega
  ·rename_i t ht; have := (nulAt_take ht).2; omega
 refine (Tryz.bytes_Cut_of (some ⟨b, o, none⟩) (some ⟨g, 0, none⟩) xs.length c 1 d (nulIx xs) w hnc hi0 hi1 (by omega) (hidx.mono fun e w' h => ⟨h.1, 0, by rw [h.2]; rfl⟩)).mono ?_
 rintro e w' ⟨rfl, q, rfl⟩
 exact ⟨rfl, (Ext.refl w).drewN q⟩

set_option maxRecDepth 20000 in
set_option maxHeartbeats 1000000 in
theorem strtab_Get_any (v : Value) (l : List Int) (off : Int) (w : World) (hv : IsB w v l) (hl : l.length ≤ 1000000000) (h0 : -9223372036854775808 ≤ off) (h1 : off ≤ 9223372036854775807) :
  Calls Tryz.prog 102 #[v, .int .i64 off] w fun e w' => e = .returned (.tuple #[.string (getS l off), .int .i64 (getE l off)]) ∧ Ext w w' := by
 have hv0 := hv
 obtain ⟨A, c, rfl, hc, -, hv'⟩ := hv.form
 by_cases hin : 0 ≤ off ∧ off < l.length
 ·obtain ⟨n, rfl⟩ := Int.eq_ofNat_of_zero_le hin.1
  have hn : n < l.length := by omega
  obtain ⟨b, o, rfl, -⟩ := hv'.get (List.getElem?_eq_getElem hn)
  have hpart := Sl.part hv' n l.length (by omega) (by omega) (some ⟨b, o + n, none⟩) (fun b' o' h _ => by cases h; rw [Nat.mul_one]) (fun h => by cases h)
  have hne : ¬ c = n := by omega
  have hd : (l.drop n).take (l.length - n) = l.drop n := List.take_of_length_le (by simp)
  rw [hd] at hpart
  have hcut := cut0_any (w := w.alloc (.cells #[.int .u8 0] 5)) (g := w.heap.size) (d := 1) (hpart.ext fun _ _ _ k => EByte.ext k (Ext.new _ _)) (by simp; omega) (by simp)
  have hgt : getT l n = nulAt (l.drop n) := by unfold getT; rw [if_pos hin]; rfl
  cases hN : nulAt (l.drop n) with
  | none =>
   have hs : getS l n = ⟨#[]⟩ := by simp only [getS, hgt, hN]
   have he : getE l n = 4 := by simp only [getE, hgt, hN]
   rw [hs, he]
   have hix : nulIx (l.drop n) = -1 := by unfold nulIx; rw [hN]
   rw [hix] at hcut
   have hcv : Lib.cutV (some ⟨b, o + n, none⟩) (l.length - n) (c - n) 1 (-1) = .tuple #[.slice (some ⟨b, o + n, none⟩) (l.length - n) (c - n), .slice none 0 0, .bool false] := rfl
   rw [hcv] at hcut
   go_enter Tryz.func102, Tryz.ntmps102
   go_wp2_with (first | (go_at_call 122; refine hcut.mono ?_; rintro e w1 ⟨rfl, e1⟩))
   go_ret2
   exact ⟨rfl, (Ext.new _ _).trans e1⟩
  | some t =>
   have hs : getS l n = strOfNums t := by simp only [getS, hgt, hN]
   have he : getE l n = 0 := by simp only [getE, hgt, hN]
   rw [hs, he]
   have hix : nulIx (l.drop n) = t.length := by unfold nulIx; rw [hN]
   rw [hix] at hcut
   obtain ⟨R, hcv⟩ : ∃ R, Lib.cutV (some ⟨b, o + n, none⟩) (l.length - n) (c - n) 1 t.length = .tuple #[.slice (some ⟨b, o + n, none⟩) t.length (c - n), R, .bool true] := ⟨_, by unfold Lib.cutV; rw [if_pos (by omega), Int.toNat_natCast]⟩
   rw [hcv] at hcut
   have ht := nulAt_take hN
   have hlt := ht.2
   have hP := Sl.part hpart 0 t.length (by omega) (by simp at hlt; omega) (some ⟨b, o + n, none⟩) (fun b' o' h _ => by cases h; rfl) (fun h => by cases h)
   simp only [List.drop_zero, Nat.sub_zero, ← ht.1] at hP
   have hcs : ∀ W, Ext w W → (convert 28 9 (.slice (some ⟨b, o + n, none⟩) t.length (c - n))).run Tryz.prog W = .ok (.string (strOfNums t)) W := fun W hW => conv_str hP hW
   have Hcs := hx hcs
   clear hcs hN ht hlt hP hl hpart hv' hd hgt hs he hix hcv
   go_enter Tryz.func102, Tryz.ntmps102
   go_wp2_with (first | (go_at_call 122; refine hcut.mono ?_; rintro e w1 ⟨rfl, e1⟩; replace e1 := (Ext.new _ _).trans e1; have hc1 := Hcs.out _ e1))
   go_ret2
   exact ⟨rfl, e1⟩
 ·have hs : getS l off = ⟨#[]⟩ := by simp [getS, getT, hin]
  have he : getE l off = 4 := by simp [getE, getT, hin]
  rw [hs, he]
  go_enter Tryz.func102, Tryz.ntmps102
  by_cases hneg : off < 0
  ·go_wp2
   go_ret2
   exact ⟨rfl, Ext.refl _⟩
  ·have hge : (l.length : Int) ≤ off := by omega
   go_wp2
   go_ret2
   exact ⟨rfl, Ext.refl _⟩
end Go.Proofs.YtmofdnlefjfcfaaGreatDoor


set_option linter.unusedVariables false
set_option linter.unusedSimpArgs false
namespace Go.Proofs.YtmofdnlefjfcfaaGreatDoor
open Go.RowKit Go.Lib

end Go.Proofs.YtmofdnlefjfcfaaGreatDoor


set_option linter.unusedVariables false
set_option linter.unusedSimpArgs false
namespace Go.Proofs.YtmofdnlefjfcfaaGreatDoor
open Go.RowKit Go.Lib

def splitA : List Int → List Int → Option (List (List Int))
 | cur, [] => if cur = [] then some [] else none
 | cur, x :: l => if x = 0 then (if cur = [] then none else (splitA [] l).map (cur :: ·)) else splitA (cur ++ [x]) l
theorem splitA_some {l t : List Int} (h : nulAt l = some t) (cur : List Int) : splitA cur l = if cur ++ t = [] then none else (splitA [] (l.drop (t.length + 1))).map ((cur ++ t) :: ·) := by
 induction l generalizing t cur with
 | nil => cases h
 | cons x l ih =>
  unfold nulAt at h
  split at h
  ·rename_i hx
   cases h
   rw [splitA, if_pos hx]; simp
  ·rename_i hx
   obtain ⟨u, hu, rfl⟩ := Option.map_eq_some_iff.1 h
   rw [splitA, if_neg hx, ih hu]
   simp
/-- The texts of a table behind its first byte. -/
def splitT (l : List Int) : Option (List (List Int)) := splitA [] l
theorem splitT_some {l t : List Int} (h : nulAt l = some t) (ht : t ≠ []) : splitT l = (splitT (l.drop (t.length + 1))).map (t :: ·) := by unfold splitT; rw [splitA_some h, if_neg (by simpa using ht)]; rfl
def parT (b : List Int) : Option (List ByteArray) := match b with | [] => none | x :: l => if x = 0 then (splitT l).map (·.map strOfNums) else none
def parL (b : List Int) : List ByteArray := match parT b with | none => [] | some l => l
def parB (b : List Int) : Bool := (parT b).isSome
theorem getT_in {b : List Int} {k : Nat} (hk : k < b.length) : getT b k = nulAt (b.drop k) := by
 unfold getT; rw [if_pos ⟨by omega, by omega⟩]; rfl
theorem toList_nums {t : List Int} (h : t ≠ []) : (strOfNums t).toList.isEmpty = false := toList_ne (by rw [strOfNums_size]; exact fun e => h (List.eq_nil_of_length_eq_zero e))

end Go.Proofs.YtmofdnlefjfcfaaGreatDoor


set_option linter.unusedVariables false
set_option linter.unusedSimpArgs false
namespace Go.Proofs.YtmofdnlefjfcfaaGreatDoor
open Go.RowKit Go.Lib

/-- What the package variables hold, so far as the walks ask. -/
structure Glob (w : World) : Prop where
 props : Lib.TabIs Tryz.prog w "unicode.properties" .u8 Lib.propertiesTab
 esyn : ∃ tp p, w.var? Tryz.prog "strconv.ErrSyntax" = some #[.iface tp p]
 eran : ∃ tp p, w.var? Tryz.prog "strconv.ErrRange" = some #[.iface tp p]
theorem var_ext {P : Program} {w w' : World} {n : String} {cs : Array Value} (h : w.var? P n = some cs) (he : Ext w w') : w'.var? P n = some cs := by
 unfold World.var? at *
 cases hg : P.globalNamed n with
 | none => rw [hg] at h; exact h
 | some g =>
  rw [hg] at h
  simp only [Option.bind_some] at h ⊢
  cases ho : w.heap[g]? with
  | none => rw [ho] at h; cases h
  | some o => rw [he.obj ho]; rw [ho] at h; exact h
theorem Glob.ext {w w' : World} (h : Glob w) (he : Ext w w') : Glob w' := by
 obtain ⟨tp, p, h1⟩ := h.esyn
 obtain ⟨tp', p', h2⟩ := h.eran
 exact ⟨var_ext h.props he, ⟨tp, p, var_ext h1 he⟩, ⟨tp', p', var_ext h2 he⟩⟩

/-- A word character. -/
def inW (c : Int) : Bool := decide (c = 95 ∨ c = 46 ∨ (48 ≤ c ∧ c ≤ 57) ∨ (65 ≤ c ∧ c ≤ 90) ∨ (97 ≤ c ∧ c ≤ 122))
theorem inW_low {c : Nat} (h : c ≤ 127) (h1 : c ≠ 95) (h2 : c ≠ 46) : inW c = (Lib.isLetterL c || Lib.isDigitL c) := by
 unfold inW Lib.isLetterL Lib.isDigitL Lib.isUpperL Lib.isLowerL
 simp only [← Bool.decide_or, decide_eq_decide]
 omega
set_option maxRecDepth 20000 in
set_option maxHeartbeats 1000000 in
theorem inWord_any (c : Nat) (w : World) (hc : c ≤ 2147483647) (hG : Glob w) :
  Calls Tryz.prog 178 #[.int .i32 c] w fun e w' => e = .returned (.bool (inW c)) ∧ w' = w := by
 by_cases h1 : c = 95
 ·subst h1
  go_enter Tryz.func178, Tryz.ntmps178
  go_wp2
  go_ret
  exact ⟨rfl, rfl⟩
 by_cases h2 : c = 46
 ·subst h2
  go_enter Tryz.func178, Tryz.ntmps178
  go_wp2
  go_ret
  exact ⟨rfl, rfl⟩
 by_cases h3 : c ≤ 127
 ·have hw := inW_low h3 h1 h2
  have hL := Tryz.unicode_IsLetter c w (by omega) hG.props
  have hD := Tryz.unicode_IsDigit (c : Int) w (by omega)
  have e1 : ((c : Int) == 95) = false := beq_eq_false_iff_ne.2 (by omega)
  have e2 : ((c : Int) == 46) = false := beq_eq_false_iff_ne.2 (by omega)
  have HW := hx hw
  clear hw hG
  generalize inW (c : Int) = B at *
  cases hl : Lib.isLetterL (c : Int) with
  | true =>
   rw [hl] at hL HW
   go_enter Tryz.func178, Tryz.ntmps178
   go_wp2_with (first | (go_at_call 182; refine hL.mono ?_; rintro e w' ⟨rfl, rfl⟩) | (go_at_call 174; refine hD.mono ?_; rintro e w' ⟨rfl, rfl⟩))
   go_ret
   exact ⟨ret_bool (by rw [HW.out]; simp), rfl⟩
  | false =>
   rw [hl] at hL HW
   go_enter Tryz.func178, Tryz.ntmps178
   go_wp2_with (first | (go_at_call 182; refine hL.mono ?_; rintro e w' ⟨rfl, rfl⟩) | (go_at_call 174; refine hD.mono ?_; rintro e w' ⟨rfl, rfl⟩))
   go_ret
   exact ⟨ret_bool (by rw [HW.out]; simp), rfl⟩
 ·have e1 : ((c : Int) == 95) = false := beq_eq_false_iff_ne.2 (by omega)
  have e2 : ((c : Int) == 46) = false := beq_eq_false_iff_ne.2 (by omega)
  have hw : inW c = false := by unfold inW; simp; omega
  rw [hw]
  go_enter Tryz.func178, Tryz.ntmps178
  go_wp2
  go_ret
  exact ⟨rfl, rfl⟩
end Go.Proofs.YtmofdnlefjfcfaaGreatDoor
