/- Equality of lists of bytes and of numbers; numbers of some bytes. -/
import Derived.Test.YtmofdnlefjfcfaaGreatDoorJBoxC
import Derived.BigQuiet
import Derived.Deep.RegionWith
import Derived.Deep.RegionHeld3
import Derived.Laws.EntriesVeiled
set_option linter.unusedVariables false
set_option linter.unusedSimpArgs false
namespace Go.Proofs.YtmofdnlefjfcfaaGreatDoor
open Go.RowKit Go.Lib

theorem eq_split {α : Type} {a b pre suf1 suf2 : List α} (h1 : a = pre ++ suf1) (h2 : b = pre ++ suf2) (hl : a.length = b.length) : suf1.length = suf2.length := by
 subst h1 h2; simpa using hl

set_option maxRecDepth 20000 in
set_option maxHeartbeats 800000 in
theorem equalB_any (va vb : Value) (a b : List Int) (w : World) (ha : IsB w va a) (hb : IsB w vb b) :
  Calls Tryz.prog 36 #[va, vb] w fun e w' => e = .returned (.bool (decide (a = b))) ∧ Ext w w' := by
 obtain ⟨A, c, rfl, hc, hl, ha'⟩ := ha.form
 obtain ⟨B, d, rfl, hd, hm, hb'⟩ := hb.form
 by_cases hln : a.length = b.length
 ·have hb1 : ((a.length : Int) != (b.length : Int)) = false := by simp; omega
  have HLN := hx hln
  have hlb : b.length ≤ a.length := by omega
  clear hln
  go_enter Tryz.func36, Tryz.ntmps36
  go_wp2
  go_loopw [13] (fun i wr => ∃ (pre s1 s2 : List Int), a = pre ++ s1 ∧ b = pre ++ s2 ∧ i = .int .i64 (pre.length : Nat) ∧ Ext w wr) (fun i _ => a.length - (RowKit.intOf i).toNat)
  case atStart => exact ⟨[], a, b, rfl, rfl, rfl, Ext.refl _⟩
  case round =>
   obtain ⟨pre, s1, s2, h1, h2, rfl, he⟩ := hrel
   have hs := eq_split h1 h2 HLN.out
   cases s1 with
   | cons x s1 =>
    cases s2 with
    | nil => simp at hs
    | cons y s2 =>
     have hlt : pre.length < a.length := by rw [h1]; simp
     have hlt2 : pre.length < b.length := by rw [h2]; simp
     have hvx := ha'
     rw [h1] at hvx
     obtain ⟨bb, o, rfl, d1⟩ := hvx.at
     have hvy := hb'
     rw [h2] at hvy
     obtain ⟨bc, q, rfl, d2⟩ := hvy.at
     replace d1 := he.cell d1.1
     replace d2 := he.cell d2.1
     rw [Nat.mul_one] at d1 d2
     have H1 := hx h1
     have H2 := hx h2
     clear h1 h2 hs hvx hvy
     have i0 : (0 : Int) ≤ (pre.length : Int) := by omega
     have i1 : (pre.length : Int) < (a.length : Int) := by omega
     have i2 : (pre.length : Int) < (b.length : Int) := by omega
     by_cases hxy : x = y
     ·subst hxy
      go_wp2
      go_quiet (fail)
      go_wp2
      go_roundw
      case rel => exact ⟨pre ++ [x], s1, s2, by simp [H1.out], by simp [H2.out], by simp, he.drewN _⟩
      case measure => simp [RowKit.intOf]; omega
     ·have b2 : (x != y) = true := by simpa using hxy
      have hne : Hx (decide (a = b) = false) := ⟨by simp [H1.out, H2.out, hxy]⟩
      have hxy' := hx hxy
      clear hxy
      go_wp2
      go_quiet (fail)
      go_wp2
      go_ret
      exact ⟨ret_bool hne.out.symm, he.drewN _⟩
   | nil =>
    obtain rfl : a = pre := by simpa using h1
    obtain rfl : s2 = [] := by simpa using hs.symm
    have heq : Hx (decide (a = b) = true) := ⟨by simp [h2]⟩
    clear h1 h2
    have hlt : ¬ a.length < a.length := by omega
    go_wp2
    go_ret
    exact ⟨ret_bool heq.out.symm, he⟩
 ·have hb1 : ((a.length : Int) != (b.length : Int)) = true := by simp; omega
  have hne : Hx (decide (a = b) = false) := ⟨by simp; intro e; exact hln (by rw [e])⟩
  go_enter Tryz.func36, Tryz.ntmps36
  go_wp2
  go_ret
  exact ⟨ret_bool hne.out.symm, Ext.refl _⟩

set_option maxRecDepth 20000 in
set_option maxHeartbeats 800000 in
theorem sameB_any (va vb : Value) (a b : List Int) (w : World) (ha : IsB w va a) (hb : IsB w vb b) :
  Calls Tryz.prog 38 #[va, vb] w fun e w' => e = .returned (.bool (decide (a = b))) ∧ Ext w w' := by
 obtain ⟨A, c, rfl, hc, hl, ha'⟩ := ha.form
 obtain ⟨B, d, rfl, hd, hm, hb'⟩ := hb.form
 by_cases hln : a.length = b.length
 ·have hb1 : ((a.length : Int) != (b.length : Int)) = false := by simp; omega
  have HLN := hx hln
  have hlb : b.length ≤ a.length := by omega
  clear hln
  go_enter Tryz.func38, Tryz.ntmps38
  go_wp2
  go_loopw [5] (fun i wr => ∃ (pre s1 s2 : List Int), a = pre ++ s1 ∧ b = pre ++ s2 ∧ i = .int .i64 (pre.length : Nat) ∧ Ext w wr) (fun i _ => a.length - (RowKit.intOf i).toNat)
  case atStart => exact ⟨[], a, b, rfl, rfl, rfl, Ext.refl _⟩
  case round =>
   obtain ⟨pre, s1, s2, h1, h2, rfl, he⟩ := hrel
   have hs := eq_split h1 h2 HLN.out
   cases s1 with
   | cons x s1 =>
    cases s2 with
    | nil => simp at hs
    | cons y s2 =>
     have hlt : pre.length < a.length := by rw [h1]; simp
     have hlt2 : pre.length < b.length := by rw [h2]; simp
     have hvx := ha'
     rw [h1] at hvx
     obtain ⟨bb, o, rfl, d1⟩ := hvx.at
     have hvy := hb'
     rw [h2] at hvy
     obtain ⟨bc, q, rfl, d2⟩ := hvy.at
     replace d1 := he.cell d1.1
     replace d2 := he.cell d2.1
     rw [Nat.mul_one] at d1 d2
     have H1 := hx h1
     have H2 := hx h2
     clear h1 h2 hs hvx hvy
     have i0 : (0 : Int) ≤ (pre.length : Int) := by omega
     have i1 : (pre.length : Int) < (a.length : Int) := by omega
     have i2 : (pre.length : Int) < (b.length : Int) := by omega
     by_cases hxy : x = y
     ·subst hxy
      go_wp2
      go_quiet (fail)
      go_wp2
      go_roundw
      case rel => exact ⟨pre ++ [x], s1, s2, by simp [H1.out], by simp [H2.out], by simp, he.drewN _⟩
      case measure => simp [RowKit.intOf]; omega
     ·have b2 : (x != y) = true := by simpa using hxy
      have hne : Hx (decide (a = b) = false) := ⟨by simp [H1.out, H2.out, hxy]⟩
      have hxy' := hx hxy
      clear hxy
      go_wp2
      go_quiet (fail)
      go_wp2
      go_ret
      exact ⟨ret_bool hne.out.symm, he.drewN _⟩
   | nil =>
    obtain rfl : a = pre := by simpa using h1
    obtain rfl : s2 = [] := by simpa using hs.symm
    have heq : Hx (decide (a = b) = true) := ⟨by simp [h2]⟩
    clear h1 h2
    have hlt : ¬ a.length < a.length := by omega
    go_wp2
    go_ret
    exact ⟨ret_bool heq.out.symm, he⟩
 ·have hb1 : ((a.length : Int) != (b.length : Int)) = true := by simp; omega
  have hne : Hx (decide (a = b) = false) := ⟨by simp; intro e; exact hln (by rw [e])⟩
  go_enter Tryz.func38, Tryz.ntmps38
  go_wp2
  go_ret
  exact ⟨ret_bool hne.out.symm, Ext.refl _⟩

end Go.Proofs.YtmofdnlefjfcfaaGreatDoor


set_option linter.unusedVariables false
set_option linter.unusedSimpArgs false
namespace Go.Proofs.YtmofdnlefjfcfaaGreatDoor
open Go.RowKit Go.Lib

def secAt (b : List Int) (i : Nat) : Sec := ⟨numOf b (16 + 12 * i) 4, partOf b (numOf b (20 + 12 * i) 4) (numOf b (24 + 12 * i) 4)⟩
def secTab (b : List Int) (n : Nat) : List Sec := (List.range n).map (secAt b)
def secIn (b : List Int) (i : Nat) : Bool := inR b (20 + 12 * i) 4 && inR b (24 + 12 * i) 4 && inR b (numOf b (20 + 12 * i) 4) (numOf b (24 + 12 * i) 4) && inR b (16 + 12 * i) 4
def secsIn (b : List Int) (n : Nat) : Bool := (List.range n).all (secIn b)
def rdN (b : List Int) : Nat := (numOf b 6 2).toNat
def rdOk (b : List Int) : Prop := inR b 6 2 = true ∧ rdN b ≤ 16 ∧ secsIn b (rdN b) = true ∧ secErr (secTab b (rdN b)) = 0 ∧ boxOf (secTab b (rdN b)) = b
instance (b : List Int) : Decidable (rdOk b) := inferInstanceAs (Decidable (_ ∧ _))
def rdOut (b : List Int) : List Sec := if rdOk b then secTab b (rdN b) else []
def rdErr (b : List Int) : Int := if rdOk b then 0 else 19

theorem secTab_succ (b : List Int) (n : Nat) : secTab b (n + 1) = secTab b n ++ [secAt b n] := by simp [secTab, List.range_succ]
theorem secTab_length (b : List Int) (n : Nat) : (secTab b n).length = n := by simp [secTab]
theorem secsIn_succ (b : List Int) (n : Nat) : secsIn b (n + 1) = (secsIn b n && secIn b n) := by simp [secsIn, List.range_succ]
theorem sum_flat (l : List Sec) : ((l.flatMap fun s => pad8 s.data).length : Int) = (l.map fun s => up s.data.length).sum := by
  induction l with
  | nil => rfl
  | cons s l ih => have := pad8_length s.data; simp at *; omega
theorem rowsOf_length (l : List Sec) : ∀ a : Int, (rowsOf a l).length = 12 * l.length := by
  induction l with
  | nil => intro a; rfl
  | cons s l ih => intro a; simp [rowsOf, le_length, ih]; omega
theorem boxOf_length (l : List Sec) : ((boxOf l).length : Int) = secSize l := by
  have h1 := sum_flat l
  have h2 := pad8_length (headB l ++ rowsOf (up (16 + 12 * l.length)) l)
  have h3 : (headB l ++ rowsOf (up (16 + 12 * l.length)) l).length = 16 + 12 * l.length := by simp [headB, le_length, rowsOf_length]; omega
  rw [h3] at h2
  unfold boxOf secSize
  rw [List.length_append]
  have e : ((16 + 12 * l.length : Nat) : Int) = 16 + 12 * (l.length : Int) := by omega
  rw [e] at h2
  omega
theorem boxOf_ge (l : List Sec) : 16 + 12 * l.length ≤ (boxOf l).length := by
  have h := boxOf_length l; have h1 := sum_nonneg l; have h2 := up_bd (16 + 12 * l.length); unfold secSize at h; omega
theorem lval_le (n : Nat) : ∀ x : Int, 0 ≤ x → x < 256 ^ n → lval (le n x) = x := by
  induction n with
  | zero => intro x h0 h1; simp at h1; simp [le, lval]; omega
  | succ n ih =>
    intro x h0 h1
    simp only [le, lval]
    rw [ih (x / 256) (by omega) (by rw [Int.pow_succ] at h1; omega)]
    omega
theorem boxOf_count (l : List Sec) (hl : l.length ≤ 16) : rdN (boxOf l) = l.length := by
  have hg := boxOf_ge l
  have h1 : partOf (boxOf l) 6 2 = le 2 l.length := by
    have h2 := (inR_yes (l := boxOf l) (i := 6) (m := 2) (by omega)).2
    have e6 : ((6 : Nat) : Int) = 6 := rfl
    have e2 : ((2 : Nat) : Int) = 2 := rfl
    rw [e6, e2] at h2
    rw [h2]
    unfold boxOf pad8 headB
    simp [le, List.append_assoc]
  unfold rdN numOf
  rw [h1, lval_le 2 _ (by omega) (by have : (256 : Int) ^ 2 = 65536 := by decide
                                     omega)]
  simp
theorem numOf_nonneg {b : List Int} (h : Byt b) (a n : Int) (hn : n ≤ 4) : 0 ≤ numOf b a n ∧ numOf b a n < 4294967296 := by
  unfold numOf
  have hb : Byt (partOf b a n) := by
    unfold partOf; split
    · exact fun x hx => h x (List.drop_subset _ _ (List.take_subset _ _ hx))
    · intro x hx; cases hx
  have hl : (partOf b a n).length ≤ 4 := by unfold partOf; split; simp; omega; simp
  have := lval_nonneg hb
  refine ⟨this.1, Int.lt_of_lt_of_le this.2 ?_⟩
  match h4 : (partOf b a n).length, hl with
  | 0, _ => decide
  | 1, _ => decide
  | 2, _ => decide
  | 3, _ => decide
  | 4, _ => decide
/-- Where the read is right, by what the program asks. -/
theorem rdOk_iff (b : List Int) (m : Nat) (hm : m = min (rdN b) 16) (h1 : inR b 6 2 = true) (h2 : secsIn b m = true) : rdOk b ↔ (secErr (secTab b m) = 0 ∧ boxOf (secTab b m) = b) := by
  constructor
  · rintro ⟨_, hn, _, h4, h5⟩
    have e : m = rdN b := by omega
    rw [e]; exact ⟨h4, h5⟩
  · rintro ⟨h4, h5⟩
    have hc := boxOf_count (secTab b m) (by rw [secTab_length]; omega)
    rw [h5, secTab_length] at hc
    refine ⟨h1, by omega, by rw [hc]; exact h2, by rw [hc]; exact h4, by rw [hc]; exact h5⟩
theorem rdOk_not (b : List Int) (m : Nat) (hm : m = min (rdN b) 16) (h : (inR b 6 2 && secsIn b m) = false) : ¬ rdOk b := by
  rintro ⟨h1, hn, h2, _, _⟩
  have e : m = rdN b := by omega
  rw [e, h1, h2] at h
  cases h

/-- A section beside the value of its data. -/
structure SecV where
  kind : Int
  A : Option Addr
  n : Nat
  c : Nat
  data : List Int
def SecV.enc (s : SecV) : List Value := [.int .i64 s.kind, .slice s.A s.n s.c]
def SecV.sec (s : SecV) : Sec := ⟨s.kind, s.data⟩
theorem encV_ok : EncOk 2 SecV.enc := ⟨fun _ => rfl, fun x u hu => by simp [SecV.enc] at hu; rcases hu with rfl | rfl <;> rfl, by decide⟩
def OwnSecs (e : TypeId) (w : World) (base : Nat) (v : Value) (l : List SecV) : Prop := Own e 2 SecV.enc w base v l ∧ ∀ s ∈ l, OwnB w base (.slice s.A s.n s.c) s.data ∧ I64 s.kind ∧ Byt s.data ∧ s.data.length ≤ 1000000000000
theorem OwnSecs.nil (e : TypeId) (w : World) (base : Nat) : OwnSecs e w base (.slice none 0 0) [] := ⟨Own.nil _ _ _ _ _, fun s hs => by cases hs⟩
theorem OwnSecs.ext {e : TypeId} {w w' : World} {base : Nat} {v : Value} {l : List SecV} (h : OwnSecs e w base v l) (he : Ext w w') : OwnSecs e w' base v l :=
  ⟨h.1.ext he, fun s hs => ⟨(h.2 s hs).1.ext he, (h.2 s hs).2⟩⟩
theorem OwnSecs.keep {e : TypeId} {w w' : World} {base : Nat} {v : Value} {l : List SecV} {g : Nat} (h : OwnSecs e w base v l) (hg : w.grownBy w' (some g)) (hb : g < base) : OwnSecs e w' base v l :=
  ⟨h.1.kept hg (by
      cases hv : v.ownBlock with
      | none => exact .inl rfl
      | some k => exact .inr fun e => by injection e with e; have := h.1.base_le k hv; omega),
   fun s hs => ⟨(h.2 s hs).1.kept hg (by
      cases hv : (Value.slice s.A s.n s.c).ownBlock with
      | none => exact .inl rfl
      | some k => exact .inr fun e => by injection e with e; have := (h.2 s hs).1.base_le k hv; omega), (h.2 s hs).2⟩⟩
theorem OwnSecs.app {e : TypeId} {w w' : World} {base : Nat} {v v' : Value} {l : List SecV} {s : SecV} (hne : e ≠ 5) (h : OwnSecs e w base v l) (ho : Own e 2 SecV.enc w' base v' (l ++ [s])) (hg : w.grownBy w' v.ownBlock)
    (hs : OwnB w base (.slice s.A s.n s.c) s.data) (hk : I64 s.kind) (hb : Byt s.data) (hl : s.data.length ≤ 1000000000000) : OwnSecs e w' base v' (l ++ [s]) :=
  ⟨ho, fun x hx => by
    rcases List.mem_append.1 hx with hx | hx
    · obtain ⟨h1, h2⟩ := h.2 x hx
      exact ⟨h1.kept hg (h1.type_ne h.1 (Ne.symm hne)), h2⟩
    · simp at hx; subst hx
      exact ⟨hs.kept hg (hs.type_ne h.1 (Ne.symm hne)), hk, hb, hl⟩⟩
theorem OwnSecs.read {e : TypeId} {w : World} {base : Nat} {v : Value} {l : List SecV} (h : OwnSecs e w base v l) (hl : l.length ≤ 1000000) : IsSecs w v (l.map SecV.sec) := by
  have h1 : Sl 2 (fun w b o (s : SecV) => ESec w b o s.sec) w v l := Own.read encV_ok h.1 (by omega) fun s hs b o hc => by
    obtain ⟨h1, h2, h3, h4⟩ := h.2 s hs
    exact ⟨⟨by simpa [SecV.sec] using hc 0 (.int .i64 s.kind) rfl, h2⟩, _, hc 1 _ rfl, OwnB.read h1 h3 (by show s.data.length ≤ _; omega)⟩
  obtain ⟨A, c, rfl, h2, h3, h4, h5⟩ := h1
  refine ⟨A, c, by simp, by simpa using h2, by simpa using h3, h4, fun i x hx => ?_⟩
  rw [List.getElem?_map, Option.map_eq_some_iff] at hx
  obtain ⟨s, hs, rfl⟩ := hx
  exact h5 i s hs
end Go.Proofs.YtmofdnlefjfcfaaGreatDoor


set_option linter.unusedVariables false
set_option linter.unusedSimpArgs false
namespace Go.Proofs.YtmofdnlefjfcfaaGreatDoor
open Go.RowKit Go.Lib

theorem tyV : TyOk Tryz.prog 80 71 2 32 (.agg #[.int .i64 0, .slice none 0 0]) := ⟨Tryz.underlying80, by kernel_rfl, rfl⟩

/-- Read's three boxes: the bytes, the flag, the function part. -/
structure RS (w : World) (g : Nat) (vb : Value) (ok : Bool) : Prop where
 h0 : OneC w g vb 28
 h1 : OneC w (g + 1) (.bool ok) 4
 h2 : OneC w (g + 1 + 1) (.func (.func 67) #[] #[.pointer (some ⟨g, 0, none⟩), .pointer (some ⟨g + 1, 0, none⟩)]) 116
theorem RS.ext {w w' : World} {g : Nat} {vb : Value} {ok : Bool} (h : RS w g vb ok) (he : Ext w w') : RS w' g vb ok := ⟨h.h0.ext he, h.h1.ext he, h.h2.ext he⟩
theorem RS.keep {w w' : World} {g k : Nat} {vb : Value} {ok : Bool} (h : RS w g vb ok) (hg : w.grownBy w' (some k)) (hk : g + 1 + 1 < k) : RS w' g vb ok :=
 ⟨h.h0.keep hg (by simp; omega), h.h1.keep hg (by simp; omega), h.h2.keep hg (by simp; omega)⟩
theorem RS.keepV {w w' : World} {g : Nat} {vb v : Value} {ok : Bool} (h : RS w g vb ok) (hg : w.grownBy w' v.ownBlock) (hk : ∀ k, v.ownBlock = some k → g + 1 + 1 < k) : RS w' g vb ok :=
 ⟨h.h0.keep hg (fun e => by have := hk _ e.symm; omega), h.h1.keep hg (fun e => by have := hk _ e.symm; omega), h.h2.keep hg (fun e => by have := hk _ e.symm; omega)⟩
theorem RS.cell2 {w : World} {g : Nat} {vb : Value} {ok : Bool} (h : RS w g vb ok) : w.cell? ⟨g + 1 + 1, 0, none⟩ = some (.func (.func 67) #[] #[.pointer (some ⟨g, 0, none⟩), .pointer (some ⟨g + 1, 0, none⟩)]) := h.h2.cell
theorem RS.num {w0 w : World} {g : Nat} {vb : Value} {ok : Bool} {b : List Int} (h : RS w g vb ok) (he : Ext w0 w) (hg : w0.heap.size ≤ g) (hv : IsB w0 vb b) (a n : Int) (ha0 : 0 ≤ a) (ha1 : a ≤ 1099511627776) (hn0 : 0 ≤ n) (hn1 : n ≤ 4) :
  Calls Tryz.prog 68 #[.int .i64 a, .int .i64 n, .pointer (some ⟨g + 1 + 1, 0, none⟩)] w fun e w' =>
   e = .returned (.int .i64 (numOf b a n)) ∧ RS w' g vb (ok && inR b a n) ∧ Ext w0 w' ∧ w.grownBy w' (some (g + 1)) :=
 (boxnum_any a n g (g + 1) (g + 1 + 1) vb b ok w ha0 ha1 hn0 hn1 (IsB.ext hv he) h.h0 h.h1 h.h2).mono fun e w' ⟨h1, h2, h3⟩ =>
  ⟨h1, ⟨h.h0.keep h3 (by simp), h2, h.h2.keep h3 (by simp)⟩, he.grown h3 (fun k hk => by cases hk; omega), h3⟩
theorem RS.part {w0 w : World} {g : Nat} {vb : Value} {ok : Bool} {b : List Int} (h : RS w g vb ok) (he : Ext w0 w) (hg : w0.heap.size ≤ g) (hv : IsB w0 vb b) (a n : Int) (ha0 : 0 ≤ a) (ha1 : a ≤ 1099511627776) (hn0 : 0 ≤ n) (hn1 : n ≤ 1099511627776) :
  Calls Tryz.prog 67 #[.int .i64 a, .int .i64 n, .pointer (some ⟨g, 0, none⟩), .pointer (some ⟨g + 1, 0, none⟩)] w fun e w' =>
   ∃ v', e = .returned v' ∧ IsB w0 v' (partOf b a n) ∧ RS w' g vb (ok && inR b a n) ∧ Ext w0 w' ∧ w.grownBy w' (some (g + 1)) :=
 (part_any a n g (g + 1) vb b ok w ha0 ha1 hn0 hn1 (IsB.ext hv he) h.h0 h.h1).mono fun e w' ⟨v', h1, h2, h3, h4⟩ =>
  ⟨v', h1, h2.2 _ hv, ⟨h.h0.keep h4 (by simp), h3, h.h2.keep h4 (by simp)⟩, he.grown h4 (fun k hk => by cases hk; omega), h4⟩

set_option maxRecDepth 100000 in
set_option maxHeartbeats 2000000 in
theorem box_Read_any (v : Value) (b : List Int) (w : World) (hv : IsB w v b) (hb : b.length ≤ 1000000) :
  Calls Tryz.prog 33 #[v] w fun e w' => ∃ v', e = .returned (.tuple #[v', .int .i64 (rdErr b)]) ∧ IsSecs w' v' (rdOut b) ∧ Ext w w' := by
 obtain ⟨A, c, rfl, hc, hl, hv'⟩ := hv.form
 have hbyt := hv.byt
 obtain ⟨W0, hW0⟩ : ∃ W0, W0 = (((w.alloc (.cells #[.slice A b.length c] 28)).alloc (.cells #[.bool true] 4)).alloc (.cells #[.func (.func 67) #[] #[.pointer (some ⟨w.heap.size, 0, none⟩), .pointer (some ⟨w.heap.size + 1, 0, none⟩)]] 116)) := ⟨_, rfl⟩
 have hb0 : OneC W0 w.heap.size (.slice A b.length c) 28 := by rw [hW0]; exact ((OneC.new w _ _).ext (Ext.new _ _)).ext (Ext.new _ _)
 have hb1 : OneC W0 (w.heap.size + 1) (.bool true) 4 := by
  rw [hW0]
  have h := OneC.new (w.alloc (.cells #[.slice A b.length c] 28)) (.bool true) 4
  rw [show (w.alloc (.cells #[.slice A b.length c] 28)).heap.size = w.heap.size + 1 by simp] at h
  exact h.ext (Ext.new _ _)
 have hb2 : OneC W0 (w.heap.size + 1 + 1) (.func (.func 67) #[] #[.pointer (some ⟨w.heap.size, 0, none⟩), .pointer (some ⟨w.heap.size + 1, 0, none⟩)]) 116 := by
  rw [hW0]
  have h := OneC.new ((w.alloc (.cells #[.slice A b.length c] 28)).alloc (.cells #[.bool true] 4)) (.func (.func 67) #[] #[.pointer (some ⟨w.heap.size, 0, none⟩), .pointer (some ⟨w.heap.size + 1, 0, none⟩)]) 116
  rw [show ((w.alloc (.cells #[.slice A b.length c] 28)).alloc (.cells #[.bool true] 4)).heap.size = w.heap.size + 1 + 1 by simp] at h
  exact h
 have hR0 : RS W0 w.heap.size (.slice A b.length c) true := ⟨hb0, hb1, hb2⟩
 clear hb0 hb1 hb2
 have e0 : Ext w W0 := by rw [hW0]; exact ((Ext.new w _).alloc _).alloc _
 have hz0 : w.heap.size + 1 + 1 < W0.heap.size := by rw [hW0]; simp
 have hW := hx hW0
 clear hW0
 go_enter Tryz.func33, Tryz.ntmps33
 go_wp2_with fail
 rw [← hW.out]
 clear hW
 generalize hgg : w.heap.size = g0 at *
 have hg0 : w.heap.size ≤ g0 := by omega
 have HGG := hx hgg
 clear hgg
 refine (hR0.num e0 hg0 hv 6 2 (by omega) (by omega) (by omega) (by omega)).mono ?_
 rintro e w1 ⟨rfl, hR1, e1, g1⟩
 have hz1 : g0 + 1 + 1 < w1.heap.size := by have := g1.size; omega
 clear g1 hR0 e0 hz0
 have hn6 := numOf_nonneg hbyt 6 2 (by omega)
 obtain ⟨N, hN⟩ := Int.eq_ofNat_of_zero_le hn6.1
 have HN := hx hN
 rw [hN] at hn6 ⊢
 clear hN
 obtain ⟨M, hM⟩ : ∃ M, M = min N 16 := ⟨_, rfl⟩
 have hif : (if (16 : Int) < (N : Int) then (16 : Int) else (N : Int)) = (M : Int) := by split <;> omega
 have hM16 : M ≤ 16 := by omega
 have HM := hx hM
 clear hM hn6
 go_wp2_with fail
 clear hif
 have hbl : Hx (Byt b ∧ b.length ≤ 1000000) := ⟨hbyt, hb⟩
 go_loopw [7, 18] (fun s i wr => ∃ (k : Nat) (l : List SecV) (ok : Bool), k ≤ M ∧ i = .int .i64 k ∧ l.length = k ∧ OwnSecs 71 wr (g0 + 1 + 1 + 1) s l ∧ RS wr g0 (.slice A b.length c) ok ∧ ok = (inR b 6 2 && secsIn b k) ∧ (ok = true → l.map SecV.sec = secTab b k) ∧
   (g0 + 1 + 1 < wr.heap.size) ∧ Ext w wr) (fun _ i _ => M - (RowKit.intOf i).toNat)
 case atStart => exact ⟨0, [], _, by omega, rfl, rfl, OwnSecs.nil _ _ _, hR1, by simp [secsIn], fun _ => rfl, hz1, e1⟩
 case round =>
  clear hR1 e1 hz1
  obtain ⟨k, l, ok, hkM, rfl, hlk, hos, hR, hok, htab, hz, he⟩ := hrel
  have HLK := hx hlk; clear hlk
  have HOK := hx hok; clear hok
  have HT := hx htab; clear htab
  obtain ⟨As, cs, rfl⟩ := hos.1.slice
  by_cases hlt : k < M
  ·have cN := fun W ok' (h : RS W g0 (.slice A b.length c) ok') (h2 : Ext w W) (a n : Int) h3 h4 h5 h6 => h.num h2 hg0 hv a n h3 h4 h5 h6
   have cP := fun W ok' (h : RS W g0 (.slice A b.length c) ok') (h2 : Ext w W) (a n : Int) h3 h4 h5 h6 => h.part h2 hg0 hv a n h3 h4 h5 h6
   have CN := hx cN
   have CP := hx cP
   clear cN cP hv hv' hbyt hb
   have hcell5 := hR.h2.cell
   have hNb := hx (numOf_nonneg hbl.out.1)
   go_wp2_with fail
   have hRd : RS wr.drew g0 (.slice A b.length c) ok := hR.ext ((Ext.refl wr).drew)
   have hed : Ext w wr.drew := he.drew
   have hosd : OwnSecs 71 wr.drew (g0 + 1 + 1 + 1) (.slice As l.length cs) l := hos.ext ((Ext.refl wr).drew)
   have s1 : IntKind.i64.wrap (16 + 12 * (k : Int) + 4) = 20 + 12 * (k : Int) := by rw [IntWalk.i64_in _ (by omega)]; omega
   have s2 : IntKind.i64.wrap (16 + 12 * (k : Int) + 8) = 24 + 12 * (k : Int) := by rw [IntWalk.i64_in _ (by omega)]; omega
   go_region_held3 (fun w' => w'.cell? ⟨g0 + 1 + 1, 0, none⟩ = some (.func (.func 67) #[] #[.pointer (some ⟨g0, 0, none⟩), .pointer (some ⟨g0 + 1, 0, none⟩)])) (first | exact hcell5 | exact RS.cell2 (by assumption))
    (first | (go_at_call 68; refine (CN.out _ _ (by assumption) (by assumption) _ _ (by omega) (by omega) (by omega) (by omega)).mono ?_; rintro e wA ⟨rfl, hRA, eA, gA⟩; have hosA := OwnSecs.keep (e := 71) (base := g0 + 1 + 1 + 1) (v := .slice As l.length cs) (l := l) (by assumption) gA (by omega); have hzA := gA.size) | (go_at_call 67; refine (CP.out _ _ (by assumption) (by assumption) _ _ (hNb.out (20 + 12 * (k : Int)) 4 (by omega)).1 (by have := (hNb.out (20 + 12 * (k : Int)) 4 (by omega)).2; omega) (hNb.out (24 + 12 * (k : Int)) 4 (by omega)).1 (by have := (hNb.out (24 + 12 * (k : Int)) 4 (by omega)).2; omega)).mono ?_; rintro e wB ⟨vB, rfl, hvB, hRB, eB, gB⟩; have hosB := OwnSecs.keep (e := 71) (base := g0 + 1 + 1 + 1) (v := .slice As l.length cs) (l := l) (by assumption) gB (by omega); have hzB := gB.size))
   have hzB' : wr.heap.size ≤ wB.heap.size := by
    have h1 : wr.drew.heap.size = wr.heap.size := rfl
    omega
   clear hRA eA gA hosA gB hosd hed hRd hos hR he hcell5
   obtain ⟨AB, cB, rfl, hcB, hlB, hvB'⟩ := hvB.form
   go_wp2_with fail
   refine (CN.out _ _ hRB eB (16 + 12 * (k : Int)) 4 (by omega) (by omega) (by omega) (by omega)).mono ?_
   rintro e wC ⟨rfl, hRC, eC, gC⟩
   have hosC := OwnSecs.keep hosB gC (by omega)
   have hzC := gC.size
   have hvC := IsB.ext hvB' eC
   have hbp : Hx ((partOf b (numOf b (20 + 12 * (k : Int)) 4) (numOf b (24 + 12 * (k : Int)) 4)).length ≤ 1000000) := ⟨by
    unfold partOf; split
    ·have := hbl.out.2; simp; omega
    ·simp⟩
   clear gC hosB
   have hkb := hNb.out (16 + 12 * (k : Int)) 4 (by omega)
   generalize hP : partOf b (numOf b (20 + 12 * (k : Int)) 4) (numOf b (24 + 12 * (k : Int)) 4) = P at *
   have HP := hx hP
   generalize hK : numOf b (16 + 12 * (k : Int)) 4 = K at *
   have HK := hx hK
   clear hP hK s1 s2
   go_wp2_with fail
   refine (cloneB_any _ P _ hvC (by have := hbp.out; omega)).mono ?_
   rintro e wD ⟨vD, rfl, oD, eD⟩
   obtain ⟨AD, cD, rfl⟩ := oD.slice
   have hosD := hosC.ext eD
   have hRD := hRC.ext eD
   have eDw := eC.trans eD
   have hzD := eD.size
   have oD' : OwnB wD (g0 + 1 + 1 + 1) (.slice AD P.length cD) P := ownsRow_base oD (by omega)
   have hPb : Hx (Byt P) := ⟨hvC.byt⟩
   clear hosC hRC eC eD oD hvC hvB' hvB
   have hlk : l.length ≤ 16 := by have := HLK.out; omega
   go_wp2_with (at_builtin; refine wp_app1 tyV encV_ok hosD.1 ⟨K, AD, P.length, cD, P⟩ rfl rfl rfl rfl rfl (by omega) (by decide) (by omega) ?_; intro g cap w1 ho1 hg1 hat1 hbg1)
   have hosE := OwnSecs.app (s := ⟨K, AD, P.length, cD, P⟩) (by decide) hosD ho1 hg1 oD' (by show I64 K; unfold I64; omega) hPb.out (by have := hbp.out; show P.length ≤ _; omega)
   have hRE := hRD.keepV hg1 (fun k hk => by have := hosD.1.base_le k hk; omega)
   have eE := eDw.grown hg1 (fun k hk => by have := hosD.1.base_le k hk; omega)
   have hzE := hg1.size
   clear ho1 hg1 hosD hRD eDw hat1
   go_wp2
   go_roundw
   case rel => exact ⟨k + 1, l ++ [⟨K, AD, P.length, cD, P⟩], _, by omega, by simp, by simp [HLK.out], hosE, hRE, by rw [HOK.out, secsIn_succ, secIn]; simp only [Bool.and_assoc], fun hok => by
    simp only [Bool.and_eq_true] at hok
    rw [List.map_append, HT.out hok.1.1.1.1, secTab_succ]
    simp [SecV.sec, secAt, HP.out, HK.out], by omega, eE⟩
   case measure => simp [RowKit.intOf]; omega
  ·obtain rfl : k = M := by omega
   have hc1 := hR.h1.cell
   have hc0 := hR.h0.cell
   have hl16 : l.length ≤ 16 := by have := HLK.out; omega
   have hrd := hos.read (by omega)
   cases ok with
   | false =>
    have hno := hx (rdOk_not b k (by rw [rdN, HN.out, HM.out]; simp) HOK.out.symm)
    clear hv' hbyt hv
    go_wp2
    go_ret2
    exact ⟨_, by rw [rdErr, if_neg hno.out]; rfl, by rw [rdOut, if_neg hno.out]; exact Sl.nil _, he⟩
   | true =>
    have hok := HOK.out.symm
    simp only [Bool.and_eq_true] at hok
    have hiff := hx (rdOk_iff b k (by rw [rdN, HN.out, HM.out]; simp) hok.1 hok.2)
    have htab := HT.out rfl
    rw [htab] at hrd
    have hkl : (secTab b k).length ≤ 16 := by rw [secTab_length]; omega
    clear hok
    have CW := hx (box_Write_any _ (secTab b k) wr (by omega) hrd)
    by_cases hse : secErr (secTab b k) = 0
    ·by_cases hbe : boxOf (secTab b k) = b
     ·have hyes := hx (hiff.out.2 ⟨hse, hbe⟩)
      have hb2 : (secErr (secTab b k) != 0) = false := by rw [hse]; rfl
      have hdb : decide (boxOf (secTab b k) = b) = true := by simpa using hbe
      have HS := hx hse
      clear hse hbe hv'
      go_wp2_with (first | (go_at_call 26; refine CW.out.mono ?_; rintro e w1 ⟨v1, rfl, hv1, e1⟩; rw [wrOut, if_pos HS.out] at hv1; obtain ⟨A1, c1, rfl, -, -, hv1'⟩ := hv1.form; have hc01 := (hR.ext e1).h0.cell) | (go_at_call 36; refine (equalB_any _ _ _ _ _ hv1' (IsB.ext hv (he.trans e1))).mono ?_; rintro e w2 ⟨rfl, e2⟩))
      go_ret2
      exact ⟨_, by rw [rdErr, if_pos hyes.out]; rfl, by
       rw [rdOut, if_pos hyes.out]
       have hMN : rdN b = k := by
        have h1 := boxOf_count (secTab b k) (by omega)
        rw [(hiff.out.1 hyes.out).2, secTab_length] at h1; exact h1
       rw [hMN]; exact IsSecs.ext hrd (e1.trans e2), he.trans (e1.trans e2)⟩
     ·have hno := hx (fun h => hbe (hiff.out.1 h).2)
      have hb2 : (secErr (secTab b k) != 0) = false := by rw [hse]; rfl
      have hdb : decide (boxOf (secTab b k) = b) = false := by simpa using hbe
      have HS := hx hse
      clear hse hbe hv'
      go_wp2_with (first | (go_at_call 26; refine CW.out.mono ?_; rintro e w1 ⟨v1, rfl, hv1, e1⟩; rw [wrOut, if_pos HS.out] at hv1; obtain ⟨A1, c1, rfl, -, -, hv1'⟩ := hv1.form; have hc01 := (hR.ext e1).h0.cell) | (go_at_call 36; refine (equalB_any _ _ _ _ _ hv1' (IsB.ext hv (he.trans e1))).mono ?_; rintro e w2 ⟨rfl, e2⟩))
      go_ret2
      exact ⟨_, by rw [rdErr, if_neg hno.out]; rfl, by rw [rdOut, if_neg hno.out]; exact Sl.nil _, he.trans (e1.trans e2)⟩
    ·have hno := hx (fun h => hse (hiff.out.1 h).1)
     have hb2 : (secErr (secTab b k) != 0) = true := by simpa using hse
     clear hse hv'
     go_wp2_with (go_at_call 26; refine CW.out.mono ?_; rintro e w1 ⟨v1, rfl, hv1, e1⟩; have hc01 := (hR.ext e1).h0.cell)
     go_ret2
     exact ⟨_, by rw [rdErr, if_neg hno.out]; rfl, by rw [rdOut, if_neg hno.out]; exact Sl.nil _, he.trans e1⟩
end Go.Proofs.YtmofdnlefjfcfaaGreatDoor


set_option linter.unusedVariables false
set_option linter.unusedSimpArgs false
namespace Go.Proofs.YtmofdnlefjfcfaaGreatDoor
open Go.RowKit Go.Lib

/-- Where s[i:] begins. -/
def subA (A : Option Addr) (c i : Nat) : Option Addr := if c = i then A else A.map fun x => x.add i
theorem IsB.sub {w : World} {A : Option Addr} {n c : Nat} {l : List Int} (h : IsB w (.slice A n c) l) (i m : Nat) (hm : i + m ≤ l.length) : IsB w (.slice (subA A c i) m (c - i)) ((l.drop i).take m) := by
 obtain ⟨hln, hnc, _⟩ := h.len_eq
 subst hln
 unfold subA
 split
 ·rename_i e
  have hm0 : m = 0 := by omega
  subst hm0
  rw [List.take_zero]
  exact Sl.empty (fun _ => by omega) (by simp [e])
 ·refine IsB.part h i m hm _ (fun b o hA _ => by subst hA; simp [add_plain]) (fun h' => ?_)
  obtain ⟨_, _, e1, _, _, e2, _⟩ := h
  cases e1
  have := e2 (by cases A <;> simp_all)
  omega
theorem secIn_of {b : List Int} {k : Nat} (h : 16 + 12 * (k + 1) ≤ b.length) : secIn b k = inR b (numOf b (20 + 12 * k) 4) (numOf b (24 + 12 * k) 4) := by
 have h1 : inR b (20 + 12 * (k : Int)) 4 = true := by simp [inR]; omega
 have h2 : inR b (24 + 12 * (k : Int)) 4 = true := by simp [inR]; omega
 have h3 : inR b (16 + 12 * (k : Int)) 4 = true := by simp [inR]; omega
 simp [secIn, h1, h2, h3]

end Go.Proofs.YtmofdnlefjfcfaaGreatDoor
