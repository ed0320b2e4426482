/- The layer object: rows, at definitions. -/
import Derived.Test.YtiaddncjghkajaaGreatDoorJPChkB
set_option linter.unusedVariables false
set_option linter.unusedSimpArgs false
namespace Go.Proofs.YtiaddncjghkajaaGreatDoor
open Go.RowKit Go.Lib

/-- Numbers that four bytes are taken of. -/
def Small (l : List Int) : Prop := ∀ x ∈ l, 0 ≤ x ∧ x ≤ 1099511627776
theorem Small.i64 {l : List Int} (h : Small l) : ∀ x ∈ l, I64 x := fun x hx => by have := h x hx; unfold I64; omega
theorem le_step (L : List Int) (x : Int) (k : Nat) : L ++ le k x ++ [x / 2 ^ (8 * k) % 256] = L ++ le (k + 1) x := by rw [le_snoc2, List.append_assoc]
def flatN {α : Type} (f : α → List Int) (l : List α) : List Int := l.flatMap f
theorem OwnB.neI {w : World} {B g : Nat} {v : Value} {l xs : List Int} (h : OwnB w B v l) (k : RowI w g xs) : some g ≠ v.ownBlock := by
  rcases h.2 with ⟨rfl, _⟩ | ⟨g', cap', cur', rfl, _, hh', _⟩
  · simp [Value.ownBlock]
  · intro e
    have : g = g' := by simpa [Value.ownBlock] using e
    subst this
    unfold RowI at k
    rw [hh'] at k
    injection k with k
    injection k with _ ht
    exact absurd ht (by decide)

set_option maxRecDepth 20000 in
set_option maxHeartbeats 1000000 in
theorem pack1_any (i : Int) (d : Def) (w : World) :
    Calls Tryz.prog 49 #[.int .i64 i, .agg #[.string d.name, .int .i64 d.key, .int .i64 d.val, .int .i64 d.ents]] w fun e w' => ∃ g, e = .returned (.slice (some ⟨g, 0, none⟩) 4 4) ∧ RowI w' g [d.key, d.val, d.ents, 0] ∧ Ext w w' := by
  go_enter Tryz.func49, Tryz.ntmps49
  go_wp2
  go_ret
  refine ⟨_, rfl, ?_, ((Ext.new _ _).alloc _)⟩
  have h := heap_alloc_new (w.alloc (.cells #[.string d.name, .int .i64 d.key, .int .i64 d.val, .int .i64 d.ents] 81)) (.cells #[.int .i64 d.key, .int .i64 d.val, .int .i64 d.ents, .int .i64 0] 3)
  rw [World.size_alloc] at h
  exact h

set_option maxRecDepth 20000 in
set_option maxHeartbeats 4000000 in
theorem rowsD_any (v : Value) (l : List Def) (w : World) (hl : l.length ≤ 1000000) (hv : IsDefs w v l) (hs : Small (defN l)) :
    Calls Tryz.prog 48 #[v, .func (.func 49) #[] #[]] w fun e w' => ∃ v', e = .returned v' ∧ OwnB w' w.heap.size v' (b4 (defN l)) ∧ Ext w w' := by
  obtain ⟨A, c, rfl, -, -, hv'⟩ := hv.form
  have HS := hx hs
  clear hs hv
  go_enter Tryz.func48, Tryz.ntmps48
  go_wp2
  go_loopw [13, 5] (fun i u wr => ∃ (pre suf : List Def) (L : List Int), l = pre ++ suf ∧ i = .int .i64 (pre.length : Nat) ∧ L = b4 (defN pre) ∧ L.length = 16 * pre.length ∧ OwnB wr w.heap.size u L ∧ Ext w wr) (fun i _ _ => l.length - (RowKit.intOf i).toNat)
  case atStart => exact ⟨[], l, [], rfl, rfl, rfl, rfl, Own.nil _ _ _ _ _, Ext.refl _⟩
  case round =>
    obtain ⟨pre, suf, L, hl', rfl, hL, hLn, ho, he⟩ := hrel
    have HL := hx hL
    have HLn := hx hLn
    clear hL hLn
    have hpl : pre.length ≤ 1000000 := by have := congrArg List.length hl'; simp at this; omega
    cases suf with
    | cons x suf =>
      have hlt : pre.length < l.length := by rw [hl']; simp
      have hvx := hv'
      rw [hl'] at hvx
      obtain ⟨b, o, rfl, ⟨d1, d2, d3, d4⟩, hok⟩ := hvx.at
      replace d1 := he.cell d1
      replace d2 := he.cell d2
      replace d3 := he.cell d3
      replace d4 := he.cell d4
      have HLl := hx hl'; clear hl' hvx
      have o1 := ho.alloc (.cells #[.string x.name, .int .i64 x.key, .int .i64 x.val, .int .i64 x.ents] 81)
      have hc := fun W => pack1_any pre.length x W
      obtain ⟨A5, c5, rfl⟩ := ho.slice
      go_wp2_with (first | (go_at_call 49; refine (hc _).mono ?_; rintro e w2 ⟨g, rfl, i2, e2⟩))
      have ho2 := ho.ext ((Ext.new wr _).trans e2)
      replace e2 := (he.alloc _).trans e2
      clear hc ho o1 d1 d2 d3 d4 he
      obtain ⟨xs, hxs⟩ : ∃ xs, xs = [x.key, x.val, x.ents, 0] := ⟨_, rfl⟩
      have hsm : Small xs := fun y hy => HS.out y (by rw [HLl.out, defN, List.flatMap_append, List.flatMap_cons]; rw [hxs] at hy; exact List.mem_append_right _ (List.mem_append_left _ hy))
      have hxl : xs.length = 4 := by rw [hxs]; rfl
      rw [← hxs] at i2
      have HX := hx hxs
      have HSM := hx hsm
      clear hxs hsm
      have hfin : Hx (L ++ b4 xs = b4 (defN (pre ++ [x]))) := ⟨by rw [HL.out, HX.out, ← b4_append]; simp [defN]⟩
      obtain ⟨wo, rfl⟩ : ∃ wo : World, wo = w2 := ⟨_, rfl⟩
      go_loopw [23, 5] (fun j u wr2 => ∃ (p2 s2 : List Int) (L2 : List Int), xs = p2 ++ s2 ∧ j = .int .i64 (p2.length : Nat) ∧ L2 = L ++ b4 p2 ∧ L2.length = L.length + 4 * p2.length ∧ OwnB wr2 w.heap.size u L2 ∧ Ext w wr2 ∧ RowI wr2 g xs) (fun j _ _ => 4 - (RowKit.intOf j).toNat)
      case atStart => exact ⟨[], xs, L, rfl, rfl, by simp [b4], by simp, ho2, e2, i2⟩
      case round =>
        clear ho2 e2 i2
        obtain ⟨p2, s2, L2, hs2, rfl, hL2, hLn2, ho, he, ii⟩ := hrel
        have HL2 := hx hL2
        have HLn2 := hx hLn2
        clear hL2 hLn2
        have hp2 : p2.length ≤ 4 := by have := congrArg List.length hs2; simp at this; omega
        cases s2 with
        | cons y s2 =>
          have hlt4 : p2.length < 4 := by have := congrArg List.length hs2; simp at this; omega
          have hlt2 : decide ((p2.length : Int) < 4) = true := by simp; omega
          have hy := HSM.out y (by rw [hs2]; simp)
          obtain ⟨hy0, hy1⟩ := hy
          have t1 := ii.cell (i := p2.length) (y := y) (by rw [hs2]; simp)
          have HS2 := hx hs2
          clear hs2
          go_wp2
          go_loopw [10, 5] (fun s u wr3 => ∃ (k : Nat) (L3 : List Int), k ≤ 4 ∧ s = .int .i64 (8 * (k : Int)) ∧ L3 = L2 ++ le k y ∧ L3.length = L2.length + k ∧ OwnB wr3 w.heap.size u L3 ∧ Ext w wr3 ∧ RowI wr3 g xs) (fun s _ _ => 32 - (RowKit.intOf s).toNat)
          case atStart => exact ⟨0, L2, by omega, rfl, by simp [le], rfl, ho, he, ii⟩
          case round =>
            clear ho he ii t1
            obtain ⟨k, L3, hk, rfl, hL3, hLn3, ho, he, ii⟩ := hrel
            have HL3 := hx hL3
            have HLn3 := hx hLn3
            clear hL3 hLn3
            obtain ⟨A6, c6, rfl⟩ := ho.slice
            have hsz := he.size
            by_cases hk4 : k < 4
            · have hk5 : decide (8 * (k : Int) < 32) = true := by simp; omega
              have hln : L3.length ≤ 100000000 := by have := HLn3.out; have := HLn2.out; have := HLn.out; omega
              go_wp2_with (at_builtin; refine wp_app1 tyB encB_ok ho (y / 2 ^ (8 * k) % 256) rfl rfl rfl rfl rfl (by omega) (by decide) (by omega) ?_; intro g1 cap w1 ho1 hg1 hat1 hbg1)
              have ii1 := ii.keep hg1 (ho.neI ii)
              have he1 := he.grown hg1 ho.base_le
              clear ho he ii hg1
              go_roundw
              case rel => exact ⟨k + 1, L3 ++ [y / 2 ^ (8 * k) % 256], by omega, by simp; omega, by rw [HL3.out, le_step], by simp [HLn3.out]; omega, ho1, he1, ii1⟩
              case measure => simp [RowKit.intOf]; omega
            · obtain rfl : k = 4 := by omega
              go_wp2
              go_roundw
              case rel => exact ⟨p2 ++ [y], s2, L3, by simp [HS2.out], by simp, by rw [HL3.out, HL2.out, List.append_assoc, b4_append]; simp [b4], by simp [HLn3.out, HLn2.out]; omega, ho, he, ii⟩
              case measure => simp [RowKit.intOf]; omega
        | nil =>
          have hlt2 : ¬ p2.length < 4 := by have := congrArg List.length hs2; simp at this; omega
          obtain rfl : xs = p2 := by simpa using hs2
          clear hs2
          go_wp2
          go_roundw
          case rel => exact ⟨pre ++ [x], suf, L2, by simp [HLl.out], by simp, by rw [HL2.out, hfin.out], by simp [HLn2.out, HLn.out, hxl]; omega, ho, he⟩
          case measure => simp [RowKit.intOf]; omega
    | nil =>
      obtain rfl : l = pre := by simpa using hl'
      clear hl'
      have hlt : ¬ l.length < l.length := by omega
      go_wp2
      go_ret
      exact ⟨_, rfl, by rw [← HL.out]; exact ho, he⟩
end Go.Proofs.YtiaddncjghkajaaGreatDoor


set_option linter.unusedVariables false
set_option linter.unusedSimpArgs false
namespace Go.Proofs.YtiaddncjghkajaaGreatDoor
open Go.RowKit Go.Lib

set_option maxRecDepth 20000 in
set_option maxHeartbeats 1000000 in
theorem pack3_any (i : Int) (d : Rel) (w : World) :
    Calls Tryz.prog 53 #[.int .i64 i, .agg #[.int .i64 d.slot, .int .i64 d.sym]] w fun e w' => ∃ g, e = .returned (.slice (some ⟨g, 0, none⟩) 2 2) ∧ RowI w' g [d.slot, d.sym] ∧ Ext w w' := by
  go_enter Tryz.func53, Tryz.ntmps53
  go_wp2
  go_ret
  refine ⟨_, rfl, ?_, ((Ext.new _ _).alloc _)⟩
  have h := heap_alloc_new (w.alloc (.cells #[.int .i64 d.slot, .int .i64 d.sym] 78)) (.cells #[.int .i64 d.slot, .int .i64 d.sym] 3)
  rw [World.size_alloc] at h
  exact h

set_option maxRecDepth 20000 in
set_option maxHeartbeats 4000000 in
theorem rowsR_any (v : Value) (l : List Rel) (w : World) (hl : l.length ≤ 1000000) (hv : IsRels w v l) (hs : Small (relN l)) :
    Calls Tryz.prog 52 #[v, .func (.func 53) #[] #[]] w fun e w' => ∃ v', e = .returned v' ∧ OwnB w' w.heap.size v' (b4 (relN l)) ∧ Ext w w' := by
  obtain ⟨A, c, rfl, -, -, hv'⟩ := hv.form
  have HS := hx hs
  clear hs hv
  go_enter Tryz.func52, Tryz.ntmps52
  go_wp2
  go_loopw [13, 5] (fun i u wr => ∃ (pre suf : List Rel) (L : List Int), l = pre ++ suf ∧ i = .int .i64 (pre.length : Nat) ∧ L = b4 (relN pre) ∧ L.length = 8 * pre.length ∧ OwnB wr w.heap.size u L ∧ Ext w wr) (fun i _ _ => l.length - (RowKit.intOf i).toNat)
  case atStart => exact ⟨[], l, [], rfl, rfl, rfl, rfl, Own.nil _ _ _ _ _, Ext.refl _⟩
  case round =>
    obtain ⟨pre, suf, L, hl', rfl, hL, hLn, ho, he⟩ := hrel
    have HL := hx hL
    have HLn := hx hLn
    clear hL hLn
    have hpl : pre.length ≤ 1000000 := by have := congrArg List.length hl'; simp at this; omega
    cases suf with
    | cons x suf =>
      have hlt : pre.length < l.length := by rw [hl']; simp
      have hvx := hv'
      rw [hl'] at hvx
      obtain ⟨b, o, rfl, ⟨d1, d2⟩, hok⟩ := hvx.at
      replace d1 := he.cell d1
      replace d2 := he.cell d2
      have HLl := hx hl'; clear hl' hvx
      have o1 := ho.alloc (.cells #[.int .i64 x.slot, .int .i64 x.sym] 78)
      have hc := fun W => pack3_any pre.length x W
      obtain ⟨A5, c5, rfl⟩ := ho.slice
      go_wp2_with (first | (go_at_call 53; refine (hc _).mono ?_; rintro e w2 ⟨g, rfl, i2, e2⟩))
      have ho2 := ho.ext ((Ext.new wr _).trans e2)
      replace e2 := (he.alloc _).trans e2
      clear hc ho o1 d1 d2 he
      obtain ⟨xs, hxs⟩ : ∃ xs, xs = [x.slot, x.sym] := ⟨_, rfl⟩
      have hsm : Small xs := fun y hy => HS.out y (by rw [HLl.out, relN, List.flatMap_append, List.flatMap_cons]; rw [hxs] at hy; exact List.mem_append_right _ (List.mem_append_left _ hy))
      have hxl : xs.length = 2 := by rw [hxs]; rfl
      rw [← hxs] at i2
      have HX := hx hxs
      have HSM := hx hsm
      clear hxs hsm
      have hfin : Hx (L ++ b4 xs = b4 (relN (pre ++ [x]))) := ⟨by rw [HL.out, HX.out, ← b4_append]; simp [relN]⟩
      obtain ⟨wo, rfl⟩ : ∃ wo : World, wo = w2 := ⟨_, rfl⟩
      go_loopw [23, 5] (fun j u wr2 => ∃ (p2 s2 : List Int) (L2 : List Int), xs = p2 ++ s2 ∧ j = .int .i64 (p2.length : Nat) ∧ L2 = L ++ b4 p2 ∧ L2.length = L.length + 4 * p2.length ∧ OwnB wr2 w.heap.size u L2 ∧ Ext w wr2 ∧ RowI wr2 g xs) (fun j _ _ => 2 - (RowKit.intOf j).toNat)
      case atStart => exact ⟨[], xs, L, rfl, rfl, by simp [b4], by simp, ho2, e2, i2⟩
      case round =>
        clear ho2 e2 i2
        obtain ⟨p2, s2, L2, hs2, rfl, hL2, hLn2, ho, he, ii⟩ := hrel
        have HL2 := hx hL2
        have HLn2 := hx hLn2
        clear hL2 hLn2
        have hp2 : p2.length ≤ 2 := by have := congrArg List.length hs2; simp at this; omega
        cases s2 with
        | cons y s2 =>
          have hlt4 : p2.length < 2 := by have := congrArg List.length hs2; simp at this; omega
          have hlt2 : decide ((p2.length : Int) < 2) = true := by simp; omega
          have hy := HSM.out y (by rw [hs2]; simp)
          obtain ⟨hy0, hy1⟩ := hy
          have t1 := ii.cell (i := p2.length) (y := y) (by rw [hs2]; simp)
          have HS2 := hx hs2
          clear hs2
          go_wp2
          go_loopw [10, 5] (fun s u wr3 => ∃ (k : Nat) (L3 : List Int), k ≤ 4 ∧ s = .int .i64 (8 * (k : Int)) ∧ L3 = L2 ++ le k y ∧ L3.length = L2.length + k ∧ OwnB wr3 w.heap.size u L3 ∧ Ext w wr3 ∧ RowI wr3 g xs) (fun s _ _ => 32 - (RowKit.intOf s).toNat)
          case atStart => exact ⟨0, L2, by omega, rfl, by simp [le], rfl, ho, he, ii⟩
          case round =>
            clear ho he ii t1
            obtain ⟨k, L3, hk, rfl, hL3, hLn3, ho, he, ii⟩ := hrel
            have HL3 := hx hL3
            have HLn3 := hx hLn3
            clear hL3 hLn3
            obtain ⟨A6, c6, rfl⟩ := ho.slice
            have hsz := he.size
            by_cases hk4 : k < 4
            · have hk5 : decide (8 * (k : Int) < 32) = true := by simp; omega
              have hln : L3.length ≤ 100000000 := by have := HLn3.out; have := HLn2.out; have := HLn.out; omega
              go_wp2_with (at_builtin; refine wp_app1 tyB encB_ok ho (y / 2 ^ (8 * k) % 256) rfl rfl rfl rfl rfl (by omega) (by decide) (by omega) ?_; intro g1 cap w1 ho1 hg1 hat1 hbg1)
              have ii1 := ii.keep hg1 (ho.neI ii)
              have he1 := he.grown hg1 ho.base_le
              clear ho he ii hg1
              go_roundw
              case rel => exact ⟨k + 1, L3 ++ [y / 2 ^ (8 * k) % 256], by omega, by simp; omega, by rw [HL3.out, le_step], by simp [HLn3.out]; omega, ho1, he1, ii1⟩
              case measure => simp [RowKit.intOf]; omega
            · obtain rfl : k = 4 := by omega
              go_wp2
              go_roundw
              case rel => exact ⟨p2 ++ [y], s2, L3, by simp [HS2.out], by simp, by rw [HL3.out, HL2.out, List.append_assoc, b4_append]; simp [b4], by simp [HLn3.out, HLn2.out]; omega, ho, he, ii⟩
              case measure => simp [RowKit.intOf]; omega
        | nil =>
          have hlt2 : ¬ p2.length < 2 := by have := congrArg List.length hs2; simp at this; omega
          obtain rfl : xs = p2 := by simpa using hs2
          clear hs2
          go_wp2
          go_roundw
          case rel => exact ⟨pre ++ [x], suf, L2, by simp [HLl.out], by simp, by rw [HL2.out, hfin.out], by simp [HLn2.out, HLn.out, hxl]; omega, ho, he⟩
          case measure => simp [RowKit.intOf]; omega
    | nil =>
      obtain rfl : l = pre := by simpa using hl'
      clear hl'
      have hlt : ¬ l.length < l.length := by omega
      go_wp2
      go_ret
      exact ⟨_, rfl, by rw [← HL.out]; exact ho, he⟩
end Go.Proofs.YtiaddncjghkajaaGreatDoor


set_option linter.unusedVariables false
set_option linter.unusedSimpArgs false
namespace Go.Proofs.YtiaddncjghkajaaGreatDoor
open Go.RowKit Go.Lib

theorem symN_app (a b : List Int) : ∀ i, symN i (a ++ b) = symN i a ++ symN (i + a.length) b := by
  induction a with
  | nil => intro i; simp [symN]
  | cons o a ih => intro i; simp [symN, ih]; congr 1; omega
theorem symN_mem (pre suf : List Int) (x y : Int) (h : y ∈ [x, (pre.length : Int)]) : y ∈ symN 0 (pre ++ x :: suf) := by
  rw [symN_app, symN]
  refine List.mem_append_right _ ?_
  simp at h ⊢
  rcases h with h | h
  · exact .inl h
  · exact .inr (.inl h)

set_option maxRecDepth 20000 in
set_option maxHeartbeats 1000000 in
theorem pack2_any (i : Int) (d : Int) (w : World) :
    Calls Tryz.prog 51 #[.int .i64 i, .int .i64 d] w fun e w' => ∃ g, e = .returned (.slice (some ⟨g, 0, none⟩) 2 2) ∧ RowI w' g [d, i] ∧ Ext w w' := by
  go_enter Tryz.func51, Tryz.ntmps51
  go_wp2
  go_ret
  exact ⟨_, rfl, heap_alloc_new w (.cells #[.int .i64 d, .int .i64 i] 3), Ext.new _ _⟩

set_option maxRecDepth 20000 in
set_option maxHeartbeats 4000000 in
theorem rowsI_any (v : Value) (l : List Int) (w : World) (hl : l.length ≤ 1000000) (hv : IsInts w v l) (hs : Small (symN 0 l)) :
    Calls Tryz.prog 50 #[v, .func (.func 51) #[] #[]] w fun e w' => ∃ v', e = .returned v' ∧ OwnB w' w.heap.size v' (b4 (symN 0 l)) ∧ Ext w w' := by
  obtain ⟨A, c, rfl, -, -, hv'⟩ := hv.form
  have HS := hx hs
  clear hs hv
  go_enter Tryz.func50, Tryz.ntmps50
  go_wp2
  go_loopw [13, 5] (fun i u wr => ∃ (pre suf : List Int) (L : List Int), l = pre ++ suf ∧ i = .int .i64 (pre.length : Nat) ∧ L = b4 (symN 0 pre) ∧ L.length = 8 * pre.length ∧ OwnB wr w.heap.size u L ∧ Ext w wr) (fun i _ _ => l.length - (RowKit.intOf i).toNat)
  case atStart => exact ⟨[], l, [], rfl, rfl, rfl, rfl, Own.nil _ _ _ _ _, Ext.refl _⟩
  case round =>
    obtain ⟨pre, suf, L, hl', rfl, hL, hLn, ho, he⟩ := hrel
    have HL := hx hL
    have HLn := hx hLn
    clear hL hLn
    have hpl : pre.length ≤ 1000000 := by have := congrArg List.length hl'; simp at this; omega
    cases suf with
    | cons x suf =>
      have hlt : pre.length < l.length := by rw [hl']; simp
      have hvx := hv'
      rw [hl'] at hvx
      obtain ⟨b, o, rfl, d1, hok⟩ := hvx.at
      replace d1 := he.cell d1
      rw [Nat.mul_one] at d1
      have HLl := hx hl'; clear hl' hvx
      have hc := fun W => pack2_any pre.length x W
      obtain ⟨A5, c5, rfl⟩ := ho.slice
      go_wp2_with (first | (go_at_call 51; refine (hc _).mono ?_; rintro e w2 ⟨g, rfl, i2, e2⟩))
      have ho2 := ho.ext e2
      replace e2 := he.trans e2
      clear hc ho d1 he
      obtain ⟨xs, hxs⟩ : ∃ xs, xs = [x, (pre.length : Int)] := ⟨_, rfl⟩
      have hsm : Small xs := fun y hy => HS.out y (by rw [HLl.out]; rw [hxs] at hy; exact symN_mem pre suf x y hy)
      have hxl : xs.length = 2 := by rw [hxs]; rfl
      rw [← hxs] at i2
      have HX := hx hxs
      have HSM := hx hsm
      clear hxs hsm
      have hfin : Hx (L ++ b4 xs = b4 (symN 0 (pre ++ [x]))) := ⟨by rw [HL.out, HX.out, ← b4_append, symN_snoc]; simp⟩
      obtain ⟨wo, rfl⟩ : ∃ wo : World, wo = w2 := ⟨_, rfl⟩
      go_loopw [23, 5] (fun j u wr2 => ∃ (p2 s2 : List Int) (L2 : List Int), xs = p2 ++ s2 ∧ j = .int .i64 (p2.length : Nat) ∧ L2 = L ++ b4 p2 ∧ L2.length = L.length + 4 * p2.length ∧ OwnB wr2 w.heap.size u L2 ∧ Ext w wr2 ∧ RowI wr2 g xs) (fun j _ _ => 2 - (RowKit.intOf j).toNat)
      case atStart => exact ⟨[], xs, L, rfl, rfl, by simp [b4], by simp, ho2, e2, i2⟩
      case round =>
        clear ho2 e2 i2
        obtain ⟨p2, s2, L2, hs2, rfl, hL2, hLn2, ho, he, ii⟩ := hrel
        have HL2 := hx hL2
        have HLn2 := hx hLn2
        clear hL2 hLn2
        have hp2 : p2.length ≤ 2 := by have := congrArg List.length hs2; simp at this; omega
        cases s2 with
        | cons y s2 =>
          have hlt4 : p2.length < 2 := by have := congrArg List.length hs2; simp at this; omega
          have hlt2 : decide ((p2.length : Int) < 2) = true := by simp; omega
          have hy := HSM.out y (by rw [hs2]; simp)
          obtain ⟨hy0, hy1⟩ := hy
          have t1 := ii.cell (i := p2.length) (y := y) (by rw [hs2]; simp)
          have HS2 := hx hs2
          clear hs2
          go_wp2
          go_loopw [10, 5] (fun s u wr3 => ∃ (k : Nat) (L3 : List Int), k ≤ 4 ∧ s = .int .i64 (8 * (k : Int)) ∧ L3 = L2 ++ le k y ∧ L3.length = L2.length + k ∧ OwnB wr3 w.heap.size u L3 ∧ Ext w wr3 ∧ RowI wr3 g xs) (fun s _ _ => 32 - (RowKit.intOf s).toNat)
          case atStart => exact ⟨0, L2, by omega, rfl, by simp [le], rfl, ho, he, ii⟩
          case round =>
            clear ho he ii t1
            obtain ⟨k, L3, hk, rfl, hL3, hLn3, ho, he, ii⟩ := hrel
            have HL3 := hx hL3
            have HLn3 := hx hLn3
            clear hL3 hLn3
            obtain ⟨A6, c6, rfl⟩ := ho.slice
            have hsz := he.size
            by_cases hk4 : k < 4
            · have hk5 : decide (8 * (k : Int) < 32) = true := by simp; omega
              have hln : L3.length ≤ 100000000 := by have := HLn3.out; have := HLn2.out; have := HLn.out; omega
              go_wp2_with (at_builtin; refine wp_app1 tyB encB_ok ho (y / 2 ^ (8 * k) % 256) rfl rfl rfl rfl rfl (by omega) (by decide) (by omega) ?_; intro g1 cap w1 ho1 hg1 hat1 hbg1)
              have ii1 := ii.keep hg1 (ho.neI ii)
              have he1 := he.grown hg1 ho.base_le
              clear ho he ii hg1
              go_roundw
              case rel => exact ⟨k + 1, L3 ++ [y / 2 ^ (8 * k) % 256], by omega, by simp; omega, by rw [HL3.out, le_step], by simp [HLn3.out]; omega, ho1, he1, ii1⟩
              case measure => simp [RowKit.intOf]; omega
            · obtain rfl : k = 4 := by omega
              go_wp2
              go_roundw
              case rel => exact ⟨p2 ++ [y], s2, L3, by simp [HS2.out], by simp, by rw [HL3.out, HL2.out, List.append_assoc, b4_append]; simp [b4], by simp [HLn3.out, HLn2.out]; omega, ho, he, ii⟩
              case measure => simp [RowKit.intOf]; omega
        | nil =>
          have hlt2 : ¬ p2.length < 2 := by have := congrArg List.length hs2; simp at this; omega
          obtain rfl : xs = p2 := by simpa using hs2
          clear hs2
          go_wp2
          go_roundw
          case rel => exact ⟨pre ++ [x], suf, L2, by simp [HLl.out], by simp, by rw [HL2.out, hfin.out], by simp [HLn2.out, HLn.out, hxl]; omega, ho, he⟩
          case measure => simp [RowKit.intOf]; omega
    | nil =>
      obtain rfl : l = pre := by simpa using hl'
      clear hl'
      have hlt : ¬ l.length < l.length := by omega
      go_wp2
      go_ret
      exact ⟨_, rfl, by rw [← HL.out]; exact ho, he⟩
end Go.Proofs.YtiaddncjghkajaaGreatDoor
