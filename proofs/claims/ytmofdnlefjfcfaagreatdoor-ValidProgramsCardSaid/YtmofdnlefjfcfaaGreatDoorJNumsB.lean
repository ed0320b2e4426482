/- The layer object: numbers. -/
import Derived.Test.YtmofdnlefjfcfaaGreatDoorJStep
set_option linter.unusedVariables false
set_option linter.unusedSimpArgs false
namespace Go.Proofs.YtmofdnlefjfcfaaGreatDoor
open Go.RowKit Go.Lib Go.Shelf Go.Proofs
attribute [local go_sem] Oper.semAt_some

def encG (row : Nat) (g : Nat) : List Value := [.slice (some ⟨g, 0, none⟩) row row]
theorem encG_ok (row : Nat) : EncOk 1 (encG row) := ⟨fun _ => rfl, fun x u hu => by simp [encG] at hu; subst hu; rfl, by decide⟩
abbrev OwnG (row : Nat) := Own 66 1 (encG row)
theorem tyG : TyOk Tryz.prog 83 66 1 24 (.slice none 0 0) := ⟨Tryz.underlying83, by kernel_rfl, rfl⟩
def ERow (w : World) (b o : Nat) (x : List Int) : Prop := (∃ g, w.cell? ⟨b, o, none⟩ = some (.slice (some ⟨g, 0, none⟩) x.length x.length) ∧ RowI w g x) ∧ ∀ y ∈ x, 0 ≤ y ∧ y < 4294967296
theorem ERow.ext {w w' : World} {b o : Nat} {x : List Int} (h : ERow w b o x) (he : Ext w w') : ERow w' b o x := by
 obtain ⟨⟨g, h1, h2⟩, h3⟩ := h
 exact ⟨⟨g, he.cell h1, h2.ext he⟩, h3⟩
abbrev IsRows := Sl 1 ERow
theorem IsRows.ext {w w' : World} {v : Value} {l : List (List Int)} (h : IsRows w v l) (he : Ext w w') : IsRows w' v l := Sl.ext h fun _ _ _ k => k.ext he
def numRows (b : List Int) (row : Nat) : List (List Int) := if b.length % (4 * row) = 0 then (List.range (b.length / (4 * row))).map (numRow b row) else []
/-- numbers between two rounds. -/
structure NumI {q : Nat} (w : World) (B row r : Nat) (b : List Int) (bv : Value) (pre : List (Fin q)) (W : World) : Prop where
 b0 : Boxed W B 3 (.int .i64 row)
 b1 : ∃ v gs, Boxed W (B + 1) 83 v ∧ OwnG row W B v gs ∧ gs.length = pre.length ∧ ∀ (i : Nat) (j : Fin q) (g : Nat), pre[i]? = some j → gs[i]? = some g → RowI W g (numRow b row j.1)
 b2 : Boxed W (B + 1 + 1) 28 bv
 b3 : Boxed W (B + 1 + 1 + 1) 3 (.int .i64 r)
 ext : Ext w W
theorem RowI.keptRow {W W' : World} {g B : Nat} {l : List Int} {row : Option Nat} (h : RowI W g l) (hg : W.grownBy W' row) (hr : ∀ r, row = some r → B ≤ r ∧ ∃ o : Obj, W.heap[r]? = some o ∧ o.isCells = false) : RowI W' g l :=
 h.keep hg (not_cells h hr)
theorem NumI.own {q : Nat} {w : World} {B row r : Nat} {b : List Int} {bv : Value} {B0 : Nat} (hB : w.heap.size ≤ B0) : OwnFrom B0 (NumI (q := q) w B row r b bv) := by
 intro s W W' ro h hg hr
 obtain ⟨v, gs, h1, h2, h3, h4⟩ := h.b1
 exact ⟨box_keptRow h.b0 hg hr, ⟨v, gs, box_keptRow h1 hg hr, h2.keptRow hg hr, h3, fun i j g hi hj => (h4 i j g hi hj).keptRow hg hr⟩, box_keptRow h.b2 hg hr, box_keptRow h.b3 hg hr, h.ext.grown hg (fun k e => Nat.le_trans hB (hr k e).1)⟩
theorem KpC.putObj {w W : World} {n₀ B l : Nat} {o : Obj} (o' : Obj) (hn : n₀ ≤ w.heap.size) (hB : B + 1 < w.heap.size) (hl : w.heap.size ≤ l) (ho : W.heap[l]? = some o) : KpC n₀ B W (W.putObj l o') := by
 have hg := grownBy_putObj' W l o'
 have hlt := (Array.getElem?_eq_some_iff.1 ho).1
 exact ⟨(Below.refl n₀ W).grown hg (by omega) (fun k e => by cases e; omega), hg.block B (by omega) (fun e => by injection e with e; omega), hg.block (B + 1) (by omega) (fun e => by injection e with e; omega)⟩

theorem ko_ext {W W' : World} (h : Ext W W') : KeepsOthers W W' := ⟨h.size, fun k o hk _ => h.obj hk⟩
theorem ko_own {α : Type} {e : TypeId} {sz : Nat} {enc : α → List Value} {W W' : World} {B : Nat} {v : Value} {l : List α} (ho : Own e sz enc W B v l) (hg : W.grownBy W' v.ownBlock) : KeepsOthers W W' := by
 refine KeepsOthers.of_grownBy hg fun j o ej hj => ?_
 rcases ho.2 with ⟨rfl, _⟩ | ⟨g, cap, cur, rfl, _, hgb, _⟩
 ·simp [Value.ownBlock] at ej
 ·obtain rfl : g = j := by simpa [Value.ownBlock] using ej
  rw [hgb] at hj; cases hj; rfl
theorem Own.neI {α : Type} {e : TypeId} {sz : Nat} {enc : α → List Value} {w : World} {B g : Nat} {v : Value} {l : List α} {xs : List Int} (h : Own e sz enc w B v l) (hne : e ≠ 3) (k : RowI w g xs) : some g ≠ v.ownBlock := by
 rcases h.2 with ⟨rfl, _⟩ | ⟨g', cap', cur', rfl, _, hh', _⟩
 ·simp [Value.ownBlock]
 ·intro he
  have : g = g' := by simpa [Value.ownBlock] using he
  subst this
  unfold RowI at k
  rw [hh'] at k
  injection k with k
  injection k with _ ht
  exact absurd ht hne
theorem RowI.neB {w : World} {g b : Nat} {t : TypeId} {v : Value} {xs : List Int} (k : RowI w g xs) (hb : Boxed w b t v) (hne : t ≠ 3) : g ≠ b := by
 intro e
 subst e
 unfold RowI at k
 rw [show w.heap[g]? = _ from hb] at k
 injection k with k
 injection k with _ ht
 exact hne ht

theorem Sl.conv {α β : Type} {sz : Nat} {E : World → Nat → Nat → α → Prop} {E' : World → Nat → Nat → β → Prop} {w : World} {v : Value} {xs : List α} {ys : List β} (h : Sl sz E w v xs) (hl : ys.length = xs.length)
  (he : ∀ (i : Nat) x y, xs[i]? = some x → ys[i]? = some y → ∀ b o, E w b o x → E' w b o y) : Sl sz E' w v ys := by
 obtain ⟨A, c, h1, h2, h3, hn, h4⟩ := h
 refine ⟨A, c, by rw [hl]; exact h1, by rw [hl]; exact h2, by rw [hl]; exact h3, hn, fun i y hy => ?_⟩
 have hi : i < xs.length := by rw [← hl]; exact (List.getElem?_eq_some_iff.1 hy).1
 obtain ⟨b, o, hA, hE⟩ := h4 i _ (List.getElem?_eq_getElem hi)
 exact ⟨b, o, hA, he i _ y (List.getElem?_eq_getElem hi) hy _ _ hE⟩
theorem numRow_length (b : List Int) (row k : Nat) : (numRow b row k).length = row := by simp [numRow]
theorem numRow_bd {b : List Int} (hb : Byt b) (row k : Nat) : ∀ y ∈ numRow b row k, 0 ≤ y ∧ y < 4294967296 := by
 intro y hy
 obtain ⟨j, _, rfl⟩ := List.mem_map.1 hy
 have := numOf_nonneg hb (4 * ((k * row + j : Nat) : Int)) 4 (by omega)
 exact this

set_option maxRecDepth 100000 in
set_option maxHeartbeats 4000000 in
theorem numbers_any (v : Value) (b : List Int) (row : Nat) (w : World) (h2 : 1 ≤ row) (h4 : row ≤ 4) (hv : IsB w v b) (hl : b.length ≤ 1000000000) :
  Calls Tryz.prog 34 #[v, .int .i64 row] w fun e w' => ∃ v', e = .returned (.tuple #[v', .bool (decide (b.length % (4 * row) = 0))]) ∧ IsRows w' v' (numRows b row) ∧ Ext w w' := by
 obtain ⟨A, c, rfl, hc, -, hv'⟩ := hv.form
 have hro : Fence.wide.round = none := rfl
 refine (callsIn_wide (n := 8)).1 ?_
 refine callsIn_of_wp_marks Tryz.func34 rfl trivial ?_ hro
 simp only [Tryz.ntmps34, List.size_toArray, List.length_cons, List.length_nil, Nat.reduceAdd, Nat.reduceSub, Array.replicate_succ, Array.replicate_zero, List.push_toArray, List.append_toArray, List.nil_append, List.cons_append]
 obtain ⟨r, hr⟩ : ∃ r, r = 4 * row := ⟨_, rfl⟩
 have hr4 : 4 * (row : Int) = (r : Int) := by omega
 have hr1 : 1 ≤ r := by omega
 have hr16 : r ≤ 16 := by omega
 rw [← hr]
 unfold numRows
 rw [← hr]
 have HR := hx hr
 clear hr
 obtain ⟨m, hm⟩ : ∃ m, m = b.length := ⟨_, rfl⟩
 rw [← hm] at hc hl hv' ⊢
 have HM := hx hm
 clear hm
 by_cases hz : m % r = 0
 case neg =>
  have hz2 : (((m : Int) % (r : Int)) != 0) = true := by simp; omega
  rw [if_neg hz]
  gi_wp2
  refine ⟨_, results_tmp2 rfl _ _ _, ?_⟩
  exact ⟨_, by simp [hz], Sl.nil _, Ext.new _ _⟩
 have hz2 : (((m : Int) % (r : Int)) != 0) = false := by simp; omega
 rw [if_pos hz]
 obtain ⟨q, hq⟩ : ∃ q, q = m / r := ⟨_, rfl⟩
 have hmq : m = q * r := by have := Nat.div_add_mod m r; rw [← hq, hz, Nat.mul_comm] at this; omega
 rw [← hq]
 have HMQ := hx hmq
 have HZ := hx hz
 clear hq hz hmq
 gi_wp2_with (first | (refine ⟨trivial, ?_⟩; gi_at_call 70; refine (chunk_in Fence.wide _ trivial rfl _ _ _ r (by omega) (by omega) _).mono ?_; rintro e w1 ⟨rfl, rfl⟩))
 clear hz2
 have b0 := Boxed.new w 3 (.int .i64 row)
 have b1 := Boxed.new (w.alloc (.cells #[.int .i64 row] 3)) 83 (.slice none 0 0)
 have b2 := Boxed.new ((w.alloc (.cells #[.int .i64 row] 3)).alloc (.cells #[.slice none 0 0] 83)) 28 (.slice A m c)
 have b3 := Boxed.new (((w.alloc (.cells #[.int .i64 row] 3)).alloc (.cells #[.slice none 0 0] 83)).alloc (.cells #[.slice A m c] 28)) 3 (.int .i64 r)
 simp only [World.size_alloc] at b1 b2 b3
 have e4 := (((Ext.new w (.cells #[.int .i64 row] 3)).alloc (.cells #[.slice none 0 0] 83)).alloc (.cells #[.slice A m c] 28)).alloc (.cells #[.int .i64 r] 3)
 replace b0 := ((b0.alloc (.cells #[.slice none 0 0] 83)).alloc (.cells #[.slice A m c] 28)).alloc (.cells #[.int .i64 r] 3)
 replace b1 := (b1.alloc (.cells #[.slice A m c] 28)).alloc (.cells #[.int .i64 r] 3)
 replace b2 := b2.alloc (.cells #[.int .i64 r] 3)
 obtain ⟨W4, hW4⟩ : ∃ W4, W4 = (((w.alloc (.cells #[.int .i64 row] 3)).alloc (.cells #[.slice none 0 0] 83)).alloc (.cells #[.slice A m c] 28)).alloc (.cells #[.int .i64 r] 3) := ⟨_, rfl⟩
 have hsz4 : W4.heap.size = w.heap.size + 1 + 1 + 1 + 1 := by rw [hW4]; simp

 rw [← hW4] at b0 b1 b2 b3 e4 ⊢
 clear hW4
 refine wpIn_rangeFunc_ownF (α := Fin q) hro (by omega) (gf := 100) (lb := #[.pointer (some ⟨w.heap.size + 1 + 1, 0, none⟩), .pointer (some ⟨w.heap.size + 1 + 1 + 1, 0, none⟩)]) rfl trivial (enters_of Tryz.func100 (by kernel_rfl) rfl)
  (chunk_stops 7 (by omega) (w.heap.size + 1 + 1) A m c r q hl hc (by omega) (by omega) HMQ.out W4 w.heap.size b2 (by omega) b3 (by omega)) KpC.trans
  (fun W l ob ob' h1 h2 _ _ => KpC.putObj (w := W4) ob' (by omega) (by omega) h1 h2) (Below.refl _ _) (fun _ => rfl)
  (NumI w w.heap.size row r b (.slice A m c)) (fun _ _ _ => False) (NumI.own (by omega)) (fun c s W W' ro h _ _ => h)
  ⟨b0, ⟨_, [], b1, Own.nil _ _ _ _ _, rfl, fun i j g h _ => by simp at h⟩, b2, b3, e4⟩
  (fun j => { tmps := #[.slice A m c, .int .i64 row, undef, .pointer (some ⟨w.heap.size, 0, none⟩), .slice none 0 0, .bool false, .pointer (some ⟨w.heap.size + 1, 0, none⟩), .slice (A.map fun a => a.add (j.1 * r)) r r, undef, undef, undef, .slice A m c, .int .i64 m, .int .i64 row, .int .i64 r, .int .i64 ((m : Int) % (r : Int)), .bool false, .slice A m c, .int .i64 row, .int .i64 r,
   .func (.func 100) #[] #[.pointer (some ⟨w.heap.size + 1 + 1, 0, none⟩), .pointer (some ⟨w.heap.size + 1 + 1 + 1, 0, none⟩)], .slice (A.map fun a => a.add (j.1 * r)) r r, undef, undef, undef, undef, undef, undef, undef, undef, undef, undef, undef, undef, undef, undef, undef, undef, undef, undef, undef, undef, undef, undef, undef, undef, undef, undef, undef, undef], defers := [] }) ?assign ?body ?done ?stop
 case assign =>
  intro l x W K hK
  simp only [encCh] at hK ⊢
  gi_wp2
  exact hK
 case body =>
  rintro l pre ⟨j, hj⟩ W hI hlt
  obtain ⟨v1, gs, x1, o1, hgl, hgs⟩ := hI.b1
  have c0 := hI.b0.cell
  have HGL := hx hgl
  clear hgl
  have hqm : q ≤ m := by rw [HMQ.out]; exact Nat.le_mul_of_pos_right _ (by omega)
  have hgl2 : gs.length ≤ 1000000000 := by have := HGL.out; omega
  have hmk := run_make_row' (P := Tryz.prog) 66 3 (.int .i64 0) 8 Tryz.underlying66 (by kernel_rfl) rfl .i64 .i64 row (by omega) (by omega)
  have hjr : j * r + r ≤ m := by
   have : (j + 1) * r ≤ q * r := Nat.mul_le_mul_right _ hj
   rw [Nat.add_mul] at this; have := HMQ.out; omega
  have hm0 : 0 < m := by omega
  obtain ⟨bb, oo, rfl, -⟩ := hv'.get (i := 0) (x := b[0]'(by have := HM.out; omega)) (List.getElem?_eq_getElem _)
  simp only [Option.map_some, add_plain]
  obtain ⟨at_, hat⟩ : ∃ a, a = oo + j * r := ⟨_, rfl⟩
  rw [← hat]
  have HAT := hx hat
  clear hat
  gi_wp2
  obtain ⟨P, hP⟩ : ∃ P, P = (b.drop (j * r)).take r := ⟨_, rfl⟩
  have hPl : P.length = r := by rw [hP]; simp; have := HM.out; omega
  have hg0 : RowI (W.alloc (.cells (madeCells #[.int .i64 0] row) 3)) W.heap.size (accN P row 0) := by rw [accN_zero]; exact rowI_made W row
  have he0 := Ext.new W (.cells (madeCells #[.int .i64 0] row) 3)
  have hPc : ∀ (k : Nat) (y : Int), P[k]? = some y → w.cell? ⟨bb, at_ + k, none⟩ = some (.int .u8 y) ∧ 0 ≤ y ∧ y < 256 := fun k y hy => by
   rw [hP, List.getElem?_take] at hy
   split at hy
   ·rw [List.getElem?_drop] at hy
    obtain ⟨b2, o2, hb2, k1, k2, k3⟩ := hv'.get hy
    cases hb2
    rw [Nat.mul_one] at k1
    rw [HAT.out, Nat.add_assoc]
    exact ⟨k1, k2, k3⟩
   ·cases hy
  have HPC := hx hPc
  have HP := hx hP
  clear hPc hP hmk c0
  obtain ⟨W1, hW1⟩ : ∃ W1, W1 = W.alloc (.cells (madeCells #[.int .i64 0] row) 3) := ⟨_, rfl⟩
  rw [← hW1] at hg0 he0 ⊢
  clear hW1
  obtain ⟨g, hg⟩ : ∃ g, g = W.heap.size := ⟨_, rfl⟩
  rw [← hg] at hg0 ⊢
  have HG := hx hg
  clear hg
  gi_loopw [26] (fun i wr => ∃ (k a b' : Nat), i = .int .i64 k ∧ k = 4 * a + b' ∧ b' < 4 ∧ k ≤ r ∧ RowI wr g (accN P row k) ∧ Ext W wr) (fun i _ => r - (RowKit.intOf i).toNat)
  case atStart => exact ⟨0, 0, 0, rfl, rfl, by omega, by omega, hg0, he0⟩
  case round =>
   clear hg0 he0
   obtain ⟨k, a, b', rfl, hk, hb', hkr, hrow, he⟩ := hrel
   by_cases hlt2 : k < r
   ·obtain ⟨y', hy'⟩ : ∃ y', P[k]? = some y' := ⟨_, List.getElem?_eq_getElem (by omega)⟩
    obtain ⟨d1, dy0, dy1⟩ := HPC.out k y' hy'
    obtain ⟨y, rfl⟩ := Int.eq_ofNat_of_zero_le dy0
    replace d1 := (hI.ext.trans he).cell d1
    have ha : a < row := by have := HR.out; omega
    have hPy : P[k]'(by omega) = (y : Int) := by have := List.getElem?_eq_some_iff.1 hy'; exact this.2
    obtain ⟨x', hx'⟩ : ∃ x', x' = accW P k a := ⟨_, rfl⟩
    have hat2 : (accN P row k)[a]? = some x' := by rw [hx']; simp [accN, ha]
    have hxb : 0 ≤ x' ∧ x' < 256 ^ b' := by
     have h1 := (accW_at P a b' hb' (by omega)).2
     rw [← hk] at h1
     rw [hx', h1]
     have hb : Byt ((P.drop (4 * a)).take b') := fun z hz => by
      have hz' := List.mem_of_mem_drop (List.mem_of_mem_take hz)
      obtain ⟨i, hi, rfl⟩ := List.mem_iff_getElem.1 hz'
      exact (HPC.out i _ (List.getElem?_eq_getElem hi)).2
     have := lval_nonneg hb
     have hln : ((P.drop (4 * a)).take b').length = b' := by simp; omega
     rw [hln] at this
     exact this
    obtain ⟨x, rfl⟩ := Int.eq_ofNat_of_zero_le hxb.1
    have hst := or_step x y b' hxb.2 dy1 (by omega)
    have hset : Hx ((accN P row k).set a (bits BinOp.or IntKind.i64 (x : Int) (wrap64 ((y : Int) * 2 ^ (8 * b')))) = accN P row (k + 1)) := ⟨by
     rw [hst, hk, accN_succ P row a b' hb' ha (by omega)]
     rw [hk] at hx'
     rw [← hx']
     congr 2
     have : P[4 * a + b']'(by omega) = P[k]'(by omega) := by congr 1; omega
     rw [this, hPy]⟩
    have hcl := hrow.cell hat2
    have hfr := hrow.frozen a
    have hdiv : ((k : Nat) : Int) / 4 = (a : Int) := by omega
    have hmod : ((k : Nat) : Int) % 4 = (b' : Int) := by omega
    have HK := hx hk
    have HX := hx hxb
    clear hst hx' hat2 hxb hk hy' hPy dy0
    gi_wp2
    refine wpIn_round_still 13 (by kernel_rfl) (by kernel_rfl) (by kernel_rfl) (by rintro ⟨a, w', h⟩; exact h) ?_
    simp only [List.take_succ_cons, List.take_zero, List.drop_succ_cons, List.drop_zero]
    have hw1 : IntKind.i64.wrap (a : Int) = a := IntWalk.i64_in _ (by omega)
    have hw2 : IntKind.i64.wrap (8 * (b' : Int)) = 8 * b' := IntWalk.i64_in _ (by omega)
    have hw3 : IntKind.i64.wrap (y : Int) = y := IntWalk.i64_in _ (by omega)
    have hw4 : Int.tmod (k : Int) 4 = b' := by rw [Int.tmod_eq_emod_of_nonneg (by omega)]; exact hmod
    have hw5 : 0 ≤ 8 * (b' : Int) := by omega
    have hw6 : (8 * (b' : Int)).toNat = 8 * b' := by omega
    repeat still_step
    refine wpStill_nil ?_
    change wpList _ _ _ _ _ wr.drew
    have hrow' : RowI wr.drew g (accN P row k) := hrow
    have he' : Ext W wr.drew := he.drew
    have hcl' : wr.drew.cell? ⟨g, a, none⟩ = some (.int .i64 x) := hcl
    have hfr' : wr.drew.frozen? ⟨g, a, none⟩ = false := hfr
    clear hcl hfr d1
    generalize wr.drew = wd at *
    go_wp2
    clear hw1 hw2 hw3 hw4 hw5 hw6 hdiv hmod
    gi_wp2
    go_roundw
    case rel => exact ⟨k + 1, (k + 1) / 4, (k + 1) % 4, by simp, by omega, by omega, by omega, by rw [← hset.out]; exact hrow'.set _ _, he'.setCell (a := ⟨g, a, none⟩) _ (by rw [HG.out]; exact Nat.le_refl _)⟩
    case measure => simp [RowKit.intOf]; omega
   ·obtain rfl : k = r := by omega
    have hlt3 : ¬ k < k := by omega
    have hdone : RowI wr g (numRow b row j) := by
     have h := accN_done b row j q (by rw [← HR.out, ← HM.out]; exact HMQ.out) hj
     rw [← HR.out, ← HP.out] at h
     rw [← h]; exact hrow
    clear hk hrow hlt3 hb'
    have hlt3 : ¬ k < k := by omega
    have x2 : Boxed wr (w.heap.size + 1) 83 v1 := he.obj x1
    have c1 := x2.cell
    have f1 := x2.frozen
    have hwW := hI.ext.size
    have hwr := he.size
    have o2 := o1.ext he
    have hgr : w.heap.size ≤ g := by rw [HG.out]; exact hwW
    obtain ⟨A7, c7, rfl⟩ := o2.slice
    gi_wp2_with (gi_at_builtin; refine wp_app1I tyG (encG_ok row) o2 g rfl rfl rfl rfl rfl (by omega) (by decide) (by omega) ?_; intro g1 cap w1 o3 hg1 hat1 hbg1; have x3 := x2.kept hg1 (x2.not_row (by decide) o2); have c3 := x3.cell; have f3 := x3.frozen)
    have g3 := grownBy_setCell' w1 (w.heap.size + 1) (.slice (some ⟨g1, 0, none⟩) (gs.length + 1) cap)
    have hkeep : ∀ (g' : Nat) (xs : List Int), RowI wr g' xs → RowI (w1.setCell ⟨w.heap.size + 1, 0, none⟩ (.slice (some ⟨g1, 0, none⟩) (gs.length + 1) cap)) g' xs := fun g' xs h => by
     have h1 := h.keep hg1 (o2.neI (by decide) h)
     exact h1.keep g3 (fun e => h1.neB x3 (by decide) (by injection e))
    have z0 : Boxed wr w.heap.size 3 (.int .i64 row) := he.obj hI.b0
    have z2 : Boxed wr (w.heap.size + 1 + 1) 28 _ := he.obj hI.b2
    have z3 : Boxed wr (w.heap.size + 1 + 1 + 1) 3 _ := he.obj hI.b3
    have y0 := (z0.kept hg1 (z0.not_row (by decide) o2)).kept g3 (by simp <;> omega)
    have y2 := (z2.kept hg1 (z2.not_row (by decide) o2)).kept g3 (by simp)
    have y3 := (z3.kept hg1 (z3.not_row (by decide) o2)).kept g3 (by simp <;> omega)
    have eb : Below w.heap.size W (w1.setCell ⟨w.heap.size + 1, 0, none⟩ (.slice (some ⟨g1, 0, none⟩) (gs.length + 1) cap)) := ((he.below.mono hwW).grown hg1 (by omega) o2.base_le).setCell (p := ⟨w.heap.size + 1, 0, none⟩) (by simp) _
    refine ⟨((ko_ext he).trans (ko_own o2 hg1)).trans (KeepsOthers.setCell _ _ _), ⟨eb, y2.trans hI.b2.symm, y3.trans hI.b3.symm⟩, y0, ⟨_, gs ++ [g], x3.set _, own_set o3 x3 (by decide), by simp [HGL.out], ?_⟩, y2, y3, Below.trans hI.ext eb⟩
    intro i j' g' hi hg'
    by_cases hlt4 : i < pre.length
    ·rw [List.getElem?_append_left hlt4] at hi
     rw [List.getElem?_append_left (by rw [HGL.out]; exact hlt4)] at hg'
     exact hkeep _ _ ((hgs i j' g' hi hg').ext he)
    ·rw [List.getElem?_append_right (by omega)] at hi
     rw [List.getElem?_append_right (by have := HGL.out; omega)] at hg'
     have hi0 : i - pre.length = 0 := by
      have := (List.getElem?_eq_some_iff.1 hi).1
      simp at this; omega
     rw [HGL.out, hi0] at hg'
     rw [hi0] at hi
     simp at hi hg'
     subst hi hg'
     exact hkeep _ _ hdone
 case done =>
  rintro D ys W hD rfl hI hK
  obtain ⟨v1, gs, x1, o1, hgl, hgs⟩ := hI.b1
  have c1 := x1.cell
  rw [List.length_finRange] at hgl
  have HGL := hx hgl
  clear hgl
  obtain ⟨A7, c7, rfl⟩ := o1.slice
  gi_wp2
  refine ⟨by simp, .inl ⟨_, _, rfl, run_takeDeferred hK, ?_⟩⟩
  refine ⟨_, results_tmp2 rfl _ _ _, ?_⟩
  have g4 := grownBy_putObj' W D (.deferred none)
  have hr : ∀ r, some D = some r → 0 ≤ r ∧ ∃ o : Obj, W.heap[r]? = some o ∧ o.isCells = false := fun r e => by cases e; exact ⟨Nat.zero_le _, _, hK, rfl⟩
  refine ⟨_, by rw [show decide (m % r = 0) = true by simp [HZ.out]]; rfl, ?_, hI.ext.grown g4 (fun k e => by cases e; omega)⟩
  have o2 := o1.keptRow g4 hr
  have hqm : q ≤ m := by rw [HMQ.out]; exact Nat.le_mul_of_pos_right _ (by omega)
  have hs : Sl 1 (fun w b o (g : Nat) => w.cell? ⟨b, o, none⟩ = some (.slice (some ⟨g, 0, none⟩) row row)) (W.putObj D (.deferred none)) (.slice A7 gs.length c7) gs :=
   o2.read (encG_ok row) (by have := HGL.out; omega) fun g _ b o h => by simpa using h 0 _ rfl
  refine hs.conv (by simp [HGL.out]) fun i g y hg hy b' o' hc' => ?_
  rw [List.getElem?_map, Option.map_eq_some_iff] at hy
  obtain ⟨i', hi', rfl⟩ := hy
  have hiq : i < q := by have := (List.getElem?_eq_some_iff.1 hi').1; simpa using this
  rw [List.getElem?_range hiq] at hi'
  obtain rfl := Option.some.inj hi'
  refine ⟨⟨g, by rw [numRow_length]; exact hc', ?_⟩, numRow_bd hv.byt row i⟩
  exact (hgs i ⟨i, hiq⟩ g (by simp [hiq]) hg).keptRow g4 hr
 case stop =>
  rintro D c pre W hD hp hX hK
  exact hX.elim
end Go.Proofs.YtmofdnlefjfcfaaGreatDoor
