/- The layer object: Parse of the reference. -/
import Derived.Test.YtiaddncjghkajaaGreatDoorJRefP
import Derived.Deep.RegionHeld3
set_option linter.unusedVariables false
set_option linter.unusedSimpArgs false
namespace Go.Proofs.YtiaddncjghkajaaGreatDoor
open Go.RowKit Go.Lib

def paB (b : List Int) : Bool := decide (paOk b)
theorem pa_kind {b : List Int} {s0 s1 s2 s3 s4 : Sec} (h : rdOut b = [s0, s1, s2, s3, s4]) (hp : paOk b) : s4.kind = 5 := by
 have := pa_secs hp
 rw [h] at this
 unfold secsOf at this
 injection this with _ this
 injection this with _ this
 injection this with _ this
 injection this with _ this
 injection this with this _
 rw [this]
theorem getN_any (v : Value) (l : List Int) (a n p : Int) (w : World) (hv : IsB w v l) (ha : 0 ≤ a) (han : a + 4 ≤ l.length) (hp : p = numOf l a 4) :
  Calls Tryz.prog 62 #[v, .int .i64 a, .int .i64 4] w fun e w' => e = .returned (.int .u64 p) ∧ w' = w :=
 (getI_any v l a 4 w hv ha (by omega) (by omega) (by omega)).mono fun e w' ⟨x, h1, h2, _, _, h3⟩ => ⟨by rw [h1, h2.out, hp], h3.symm⟩
theorem no_pa {b : List Int} (h : ¬ paOk b) : paB b = false ∧ paOut b = obNil := ⟨decide_eq_false h, by unfold paOut; rw [if_neg h]⟩
set_option maxRecDepth 100000 in
set_option maxHeartbeats 8000000 in
theorem ref16_Parse_any (v : Value) (b : List Int) (w : World) (hv : IsB w v b) (hb : b.length ≤ 1000000) :
  Calls Tryz.prog 23 #[v] w fun e w' => ∃ v', e = .returned (.tuple #[v', .bool (paB b)]) ∧ IsOb w' v' (paOut b) ∧ Ext w w' := by
 obtain ⟨A, c, rfl, hc, -, hv'⟩ := hv.form
 obtain ⟨W0, hW0⟩ : ∃ W0, W0 = (w.alloc (.cells #[.slice none 0 0, .slice none 0 0, .slice none 0 0] 26)).alloc (.cells #[.slice none 0 0, .slice none 0 0, .slice none 0 0] 26) := ⟨_, rfl⟩
 have e0 : Ext w W0 := by rw [hW0]; exact (Ext.new _ _).alloc _
 have r0 : RowO W0 w.heap.size (.slice none 0 0) (.slice none 0 0) (.slice none 0 0) := by rw [hW0]; exact (rowO_new w _ _ _).ext (Ext.new _ _)
 have z0 : RowO W0 (w.heap.size + 1) (.slice none 0 0) (.slice none 0 0) (.slice none 0 0) := by
  rw [hW0]
  have h := rowO_new (w.alloc (.cells #[.slice none 0 0, .slice none 0 0, .slice none 0 0] 26)) (.slice none 0 0) (.slice none 0 0) (.slice none 0 0)
  rwa [World.size_alloc] at h
 have hRd := ref15_Read_any _ b W0 (IsB.ext hv' e0) hb
 rw [hW0] at hRd
 have HW0 := hx hW0
 clear hW0
 by_cases hok : rdOk b
 case neg =>
  have hE := hx (no_pa (b := b) fun h => hok h.1)
  have e1 : rdB b = false := decide_eq_false hok
  rw [e1] at hRd
  clear e1 hok
  go_enter Tryz.func23, Tryz.ntmps23
  go_wp2_with (first | (go_at_call 60; refine hRd.mono ?_; rintro e w1 ⟨v1, rfl, s1, e1⟩; rw [← HW0.out] at e1; have r1 := r0.ext (e1); have z1 := z0.ext (e1); have k0 := r1.c0; have k1 := r1.c1; have k2 := r1.c2; have f1 := r1.fz; have n0 := z1.c0; have n1 := z1.c1; have n2 := z1.c2))
  refine bodyPost_ret (results_row_tmp rfl _ _ w.heap.size 26 _ _ _ rfl (((r1.s0 _).s1 _).s2 _) Tryz.underlying26 rfl (by kernel_rfl)) rfl ?_
  exact ⟨_, by rw [hE.out.1]; rfl, by rw [hE.out.2]; exact isOb_nil _, ext_o3 (e0.trans e1) (Nat.le_refl _) _ _ _⟩
 have e1 : rdB b = true := decide_eq_true hok
 rw [e1] at hRd
 clear e1
 by_cases h5 : (rdOut b).length = 5
 case neg =>
  have hE := hx (no_pa (b := b) fun h => h5 h.2.1)
  have hn5 : (((rdOut b).length : Int) != 5) = true := by simp; omega
  clear hok h5
  generalize rdOut b = S at *
  go_enter Tryz.func23, Tryz.ntmps23
  go_wp2_with (first | (go_at_call 60; refine hRd.mono ?_; rintro e w1 ⟨v1, rfl, s1, e1⟩; rw [← HW0.out] at e1; obtain ⟨A1, c1, rfl, -, -, s1'⟩ := s1.form; have r1 := r0.ext (e1); have z1 := z0.ext (e1); have k0 := r1.c0; have k1 := r1.c1; have k2 := r1.c2; have f1 := r1.fz; have n0 := z1.c0; have n1 := z1.c1; have n2 := z1.c2))
  refine bodyPost_ret (results_row_tmp rfl _ _ w.heap.size 26 _ _ _ rfl (((r1.s0 _).s1 _).s2 _) Tryz.underlying26 rfl (by kernel_rfl)) rfl ?_
  exact ⟨_, by rw [hE.out.1]; rfl, by rw [hE.out.2]; exact isOb_nil _, ext_o3 (e0.trans e1) (Nat.le_refl _) _ _ _⟩
 obtain ⟨s0, s1, s2, s3, s4, hS⟩ := five h5
 rw [hS] at hRd
 have HS := hx hS
 have HOK := hx hok
 have hpa := hx (show paOk b ↔ (parB s4.data = true ∧ s1.data.length = 16 * (parL s4.data).length ∧ s3.data.length % 8 = 0 ∧ obE (obOf [s0, s1, s2, s3, s4]) = 0 ∧ packOf (obOf [s0, s1, s2, s3, s4]) = b) by
  unfold paOk
  rw [hS]
  exact ⟨fun h => h.2.2, fun h => ⟨hok, rfl, h⟩⟩)
 have hlen : ∀ s ∈ [s0, s1, s2, s3, s4], s.data.length ≤ b.length := fun s hs => by
  obtain ⟨_, _, e3⟩ := rdOk_spec hok
  rw [hS] at e3
  have h1 := boxOf_length [s0, s1, s2, s3, s4]
  rw [e3] at h1
  obtain ⟨p, q, hpq⟩ := List.append_of_mem hs
  have := secSize_mem p q s
  rw [← hpq] at this
  omega
 have hl0 := hx (show s0.data.length ≤ 1000000 by have := hlen s0 (by simp); omega)
 have hl1 := hx (show s1.data.length ≤ 1000000 by have := hlen s1 (by simp); omega)
 have hl3 := hx (show s3.data.length ≤ 1000000 by have := hlen s3 (by simp); omega)
 have hl4 := hx (show s4.data.length ≤ 1000000 by have := hlen s4 (by simp); omega)
 clear hok h5 hS hlen
 go_enter Tryz.func23, Tryz.ntmps23
 go_wp2_with fail
 refine hRd.mono ?_
 rintro e w1 ⟨v1, rfl, sx, e1⟩
 rw [← HW0.out] at e1
 obtain ⟨A1, c1, rfl, -, -, sx'⟩ := sx.form
 obtain ⟨bs, os, rfl, ⟨⟨-, -⟩, v0, t0, i0⟩⟩ := sx'.get (i := 0) rfl
 obtain ⟨_, _, hq, ⟨⟨-, -⟩, u1, t1, i1⟩⟩ := sx'.get (i := 1) rfl
 cases hq
 obtain ⟨_, _, hq, ⟨⟨-, -⟩, u3, t3, i3⟩⟩ := sx'.get (i := 3) rfl
 cases hq
 obtain ⟨_, _, hq, ⟨⟨tk, -⟩, u4, t4, i4⟩⟩ := sx'.get (i := 4) rfl
 cases hq
 simp only [Nat.zero_mul, Nat.add_zero, Nat.one_mul, Nat.reduceMul] at t0 t1 t3 t4 tk
 simp only [List.length_cons, List.length_nil]
 clear sx sx' hRd
 obtain ⟨KD, hKD⟩ : ∃ K, K = s4.kind := ⟨_, rfl⟩
 rw [← hKD] at tk
 by_cases hk5 : KD = 5
 case neg =>
  have hE := hx (no_pa (b := b) fun h => hk5 (by rw [hKD]; exact pa_kind HS.out h))
  have hne : (KD != 5) = true := by simpa using hk5
  clear hk5 hKD
  have r1 := r0.ext (e1)
  have z1 := z0.ext (e1)
  have k0 := r1.c0
  have k1 := r1.c1
  have k2 := r1.c2
  have f1 := r1.fz
  have n0 := z1.c0
  have n1 := z1.c1
  have n2 := z1.c2
  go_wp2
  refine bodyPost_ret (results_row_tmp rfl _ _ w.heap.size 26 _ _ _ rfl (((r1.s0 _).s1 _).s2 _) Tryz.underlying26 rfl (by kernel_rfl)) rfl ?_
  exact ⟨_, by rw [hE.out.1]; rfl, by rw [hE.out.2]; exact isOb_nil _, ext_o3 (e0.trans e1) (Nat.le_refl _) _ _ _⟩
 subst hk5
 clear hKD
 obtain ⟨X1, y1, rfl, -, -, i1'⟩ := i1.form
 obtain ⟨X3, y3, rfl, -, -, i3'⟩ := i3.form
 have hp4 := hx (ref14_Parse_any u4 s4.data w1 i4 (by have := hl4.out; omega))
 have HT0 := hx t0
 go_wp2_with fail
 refine hp4.out.mono ?_
 rintro e w4 ⟨vt, rfl, rt, x4⟩
 clear hp4
 have t0' := x4.cell HT0.out
 have E4 := e1.trans x4
 have ew4 := e0.trans E4
 replace i0 := IsB.ext i0 x4
 replace i1' := IsB.ext i1' x4
 replace i3' := IsB.ext i3' x4
 have hB1 := hx i1.byt
 have hB3 := hx i3.byt
 clear i1 i3 i4 t0 t1 t3 t4 tk x4
 have r1 := r0.ext (E4)
 have z1 := z0.ext (E4)
 have k0 := r1.c0
 have k1 := r1.c1
 have k2 := r1.c2
 have f1 := r1.fz
 have n0 := z1.c0
 have n1 := z1.c1
 have n2 := z1.c2
 obtain ⟨At, ct, rfl, -, -, rt'⟩ := rt.form
 obtain ⟨A0, c0, rfl, -, -, i0'⟩ := i0.form
 obtain ⟨m1, hm1⟩ : ∃ m, m = s1.data.length := ⟨_, rfl⟩
 obtain ⟨m3, hm3⟩ : ∃ m, m = s3.data.length := ⟨_, rfl⟩
 obtain ⟨n, hn⟩ : ∃ n, n = (parL s4.data).length := ⟨_, rfl⟩
 rw [← hm1] at i1' hl1 ⊢
 rw [← hm3] at i3' hl3 ⊢
 rw [← hn] at rt' ⊢
 rw [← hm1, ← hm3, ← hn] at hpa
 have HM1 := hx hm1
 have HM3 := hx hm3
 have HN := hx hn
 clear hm1 hm3 hn
 have hm1b := hl1.out
 have hm3b := hl3.out
 cases hPB : parB s4.data with
 | false =>
  have hE := hx (no_pa (b := b) fun h => by have := (hpa.out.1 h).1; rw [hPB] at this; cases this)
  clear hPB
  go_wp2
  refine bodyPost_ret (results_row_tmp rfl _ _ w.heap.size 26 _ _ _ rfl (((r1.s0 _).s1 _).s2 _) Tryz.underlying26 rfl (by kernel_rfl)) rfl ?_
  exact ⟨_, by rw [hE.out.1]; rfl, by rw [hE.out.2]; exact isOb_nil _, ext_o3 (ew4) (Nat.le_refl _) _ _ _⟩
 | true =>
 have HPB := hx hPB
 clear hPB
 by_cases hc1 : m1 = 16 * n
 case neg =>
  have hE := hx (no_pa (b := b) fun h => hc1 (hpa.out.1 h).2.1)
  have hnb : n ≤ 281474976710656 := (Sl.len_eq rt').2.2
  have hne : ((m1 : Int) != 16 * (n : Int)) = true := by simp; omega
  clear hc1
  go_wp2
  refine bodyPost_ret (results_row_tmp rfl _ _ w.heap.size 26 _ _ _ rfl (((r1.s0 _).s1 _).s2 _) Tryz.underlying26 rfl (by kernel_rfl)) rfl ?_
  exact ⟨_, by rw [hE.out.1]; rfl, by rw [hE.out.2]; exact isOb_nil _, ext_o3 (ew4) (Nat.le_refl _) _ _ _⟩
 have hnb : n ≤ 100000 := by omega
 have hne1 : ((m1 : Int) != 16 * (n : Int)) = false := by simp; omega
 have HC1 := hx hc1
 clear hc1
 by_cases hc3 : m3 % 8 = 0
 case neg =>
  have hE := hx (no_pa (b := b) fun h => hc3 (hpa.out.1 h).2.2.1)
  have hne : ((m3 : Int) % 8 != 0) = true := by simp; omega
  clear hc3
  go_wp2
  refine bodyPost_ret (results_row_tmp rfl _ _ w.heap.size 26 _ _ _ rfl (((r1.s0 _).s1 _).s2 _) Tryz.underlying26 rfl (by kernel_rfl)) rfl ?_
  exact ⟨_, by rw [hE.out.1]; rfl, by rw [hE.out.2]; exact isOb_nil _, ext_o3 (ew4) (Nat.le_refl _) _ _ _⟩
 have hne3 : ((m3 : Int) % 8 != 0) = false := by simp; omega
 have HC3 := hx hc3
 clear hc3
 go_wp2
 refine name_world ?_
 intro W5 hW5
 obtain ⟨Bo, hBo⟩ : ∃ Bo, Bo = w4.heap.size := ⟨_, rfl⟩
 have q5 : RowO W5 Bo (.slice none 0 0) (.slice A0 s0.data.length c0) (.slice none 0 0) := by rw [hW5, hBo]; exact rowO_new _ _ _ _
 have x5 : Ext w4 W5 := by rw [hW5]; exact Ext.new _ _
 have hsz5 : Bo < W5.heap.size := by rw [hW5, hBo]; simp
 rw [← hBo]
 have HBo := hx hBo
 clear hW5 hBo
 have hXl1 := Sl.len_eq i1'
 go_loopw [11] (fun i wr => ∃ (pre suf : List ByteArray) (k : Nat) (l : List Def) (u : Value), parL s4.data = pre ++ suf ∧ k = pre.length ∧ i = .int .i64 (k : Nat) ∧ l = mDefs s1.data pre ∧ l.length = k ∧ RowO wr Bo u (.slice A0 s0.data.length c0) (.slice none 0 0) ∧ OwnD wr W5.heap.size u l ∧ Ext w4 wr ∧ W5.heap.size ≤ wr.heap.size) (fun i _ => n - (RowKit.intOf i).toNat)
 case atStart => exact ⟨[], _, 0, [], _, rfl, rfl, rfl, rfl, rfl, q5, Own.nil _ _ _ _ _, x5, Nat.le_refl _⟩
 case round =>
  clear q5 x5
  obtain ⟨pre, suf, k, l, u, hl', hkp, rfl, hml, hmn, q, ho, he, hsz⟩ := hrel
  have HKP := hx hkp
  have HML := hx hml
  have HMN := hx hmn
  clear hml hmn
  obtain ⟨A7, c7, rfl⟩ := ho.slice
  cases suf with
  | cons x suf =>
   have hlt : k < n := by rw [hkp, HN.out, hl']; simp
   have hvx := rt'
   rw [HN.out, hl'] at hvx
   obtain ⟨bt, ot, rfl, t1, -⟩ := hvx.at
   rw [Nat.mul_one, ← hkp] at t1
   have HL := hx hl'
   clear hl' hvx hkp
   have T1 := hx t1
   replace t1 := he.cell t1
   have hlk : 16 * k + 12 ≤ s1.data.length := by have := HC1.out; have := HM1.out; omega
   obtain ⟨p1, hp1⟩ : ∃ p, p = numOf s1.data (16 * (k : Int)) 4 := ⟨_, rfl⟩
   obtain ⟨p2, hp2⟩ : ∃ p, p = numOf s1.data (16 * (k : Int) + 4) 4 := ⟨_, rfl⟩
   obtain ⟨p3, hp3⟩ : ∃ p, p = numOf s1.data (16 * (k : Int) + 8) 4 := ⟨_, rfl⟩
   have b1 := numOf_nonneg hB1.out (16 * (k : Int)) 4 (by omega)
   have b2 := numOf_nonneg hB1.out (16 * (k : Int) + 4) 4 (by omega)
   have b3 := numOf_nonneg hB1.out (16 * (k : Int) + 8) 4 (by omega)
   rw [← hp1] at b1
   rw [← hp2] at b2
   rw [← hp3] at b3
   have G1 := hx (fun (W : World) (hW : Ext w4 W) => getN_any _ s1.data (16 * (k : Int)) 4 p1 W (IsB.ext i1' hW) (by omega) (by omega) hp1)
   have G2 := hx (fun (W : World) (hW : Ext w4 W) => getN_any _ s1.data (16 * (k : Int) + 4) 4 p2 W (IsB.ext i1' hW) (by omega) (by omega) hp2)
   have G3 := hx (fun (W : World) (hW : Ext w4 W) => getN_any _ s1.data (16 * (k : Int) + 8) 4 p3 W (IsB.ext i1' hW) (by omega) (by omega) hp3)
   have hmd := hx (show (⟨x, p1, p2, p3⟩ : Def) = mDef s1.data k x by rw [hp1, hp2, hp3]; rfl)
   obtain ⟨b10, b11⟩ := b1
   obtain ⟨b20, b21⟩ := b2
   obtain ⟨b30, b31⟩ := b3
   clear hp1 hp2 hp3 k0 k1 k2 f1 n0 n1 n2
   have q0 := q.c0
   go_wp2_with fail
   obtain ⟨C, hC⟩ : ∃ C : Obj, C = .cells #[.string x, .int .i64 p1, .int .i64 p2, .int .i64 p3] 81 := ⟨_, rfl⟩
   have hoA : OwnD (wr.alloc C).drew W5.heap.size (.slice A7 l.length c7) l := ho.ext ((Ext.new wr C).drew)
   have qA : RowO (wr.alloc C).drew Bo (.slice A7 l.length c7) (.slice A0 s0.data.length c0) (.slice none 0 0) := q.ext ((Ext.new wr C).drew)
   have hcA : ∀ (j : Nat) (u : Value), (Def.enc ⟨x, p1, p2, p3⟩)[j]? = some u → (wr.alloc C).drew.cell? ⟨wr.heap.size, j, none⟩ = some u := by rw [hC]; exact alloc_at _ rfl
   have eA : Ext w4 (wr.alloc C).drew := (he.alloc C).drew
   have eD : Ext w4 wr.drew := he.drew
   have hsA : W5.heap.size ≤ (wr.alloc C).drew.heap.size := Nat.le_trans hsz (Ext.new wr C).size
   have hbA : ∀ k, (Value.slice A7 l.length c7).ownBlock = some k → w4.heap.size ≤ k := fun k hk => Nat.le_trans (Nat.le_of_lt (by rw [← HBo.out]; exact hsz5)) (ho.base_le k hk)
   have qA0 := qA.c0
   subst hC
   have hln : l.length ≤ 100000 := by have := HMN.out; omega
   have j1 : (0 : Int) ≤ (k : Int) := by omega
   have j2 : (k : Int) < (n : Int) := by omega
   have hw1 : IntKind.i64.wrap (16 * (k : Int)) = 16 * k := by rw [IntWalk.i64_in _ (by omega)]
   have hw2 : IntKind.i64.wrap (16 * (k : Int) + 4) = 16 * k + 4 := by rw [IntWalk.i64_in _ (by omega)]
   have hw3 : IntKind.i64.wrap (16 * (k : Int) + 8) = 16 * k + 8 := by rw [IntWalk.i64_in _ (by omega)]
   have hx1 : IntKind.i64.wrap p1 = p1 := by rw [IntWalk.i64_in _ (by omega)]
   have hx2 : IntKind.i64.wrap p2 = p2 := by rw [IntWalk.i64_in _ (by omega)]
   have hx3 : IntKind.i64.wrap p3 = p3 := by rw [IntWalk.i64_in _ (by omega)]
   have hBo5 : w4.heap.size ≤ Bo := by rw [HBo.out]; exact Nat.le_refl _
   have hlA : (l.length + 1) * 40 ≤ 140737488355328 := by omega
   have hKL := hx (show k = l.length by have := HMN.out; omega)
   clear ho hsz
   refine wp_region_held (S := (fun w' : World => w'.cell? ⟨bt, ot + k, none⟩ = some (.string x))) (by kernel_rfl) ?_
   change wpAnyH _ _ _ _ _ 28 _ _ wr.drew
   have hS0 : (fun w' : World => w'.cell? ⟨bt, ot + k, none⟩ = some (.string x)) wr.drew := t1
   have hSA : (fun w' : World => w'.cell? ⟨bt, ot + k, none⟩ = some (.string x)) (wr.alloc (.cells #[.string x, .int .i64 p1, .int .i64 p2, .int .i64 p3] 81)).drew := eA.cell T1.out
   refine wpAnyH_take (i := 0) (v := .pointer (some ⟨Bo, 0, none⟩)) rfl (by kernel_rfl) (by kernel_rfl) (by kernel_rfl) (fun _ _ _ h => h) (.inl ⟨by rfl, ?_⟩) hS0 ?_
   ·intro W' hW'; (try dsimp only at hW'); go_simp
   simp only [Act.put, List.setIfInBounds_toArray, List.set_cons_zero, List.set_cons_succ]
   refine wpAnyH_take (i := 2) (v := .slice (some ⟨bt, ot, none⟩) n ct) rfl (by kernel_rfl) (by kernel_rfl) (by kernel_rfl) (fun _ _ _ h => h) (.inl ⟨by rfl, ?_⟩) hS0 ?_
   ·intro W' hW'; (try dsimp only at hW'); go_simp
   simp only [Act.put, List.setIfInBounds_toArray, List.set_cons_zero, List.set_cons_succ]
   refine wpAnyH_take (i := 3) (v := .int .i64 (k : Int)) rfl (by kernel_rfl) (by kernel_rfl) (by kernel_rfl) (fun _ _ _ h => h) (.inl ⟨by rfl, ?_⟩) hS0 ?_
   ·intro W' hW'; (try dsimp only at hW'); go_simp
   simp only [Act.put, List.setIfInBounds_toArray, List.set_cons_zero, List.set_cons_succ]
   refine wpAnyH_take (i := 4) (v := .pointer (some ⟨bt, ot + k, none⟩)) rfl (by kernel_rfl) (by kernel_rfl) (by kernel_rfl) (fun _ _ _ h => h) (.inl ⟨by rfl, ?_⟩) hS0 ?_
   ·intro W' hW'; (try dsimp only at hW'); go_simp
   simp only [Act.put, List.setIfInBounds_toArray, List.set_cons_zero, List.set_cons_succ]
   refine wpAnyH_take (i := 5) (v := .string x) rfl (by kernel_rfl) (by kernel_rfl) (by kernel_rfl) (fun _ _ _ h => h) (.inl ⟨by rfl, ?_⟩) hS0 ?_
   ·intro W' hW'; (try dsimp only at hW'); go_simp
   simp only [Act.put, List.setIfInBounds_toArray, List.set_cons_zero, List.set_cons_succ]
   refine wpAnyH_take (i := 6) (v := .slice X1 m1 y1) rfl (by kernel_rfl) (by kernel_rfl) (by kernel_rfl) (fun _ _ _ h => h) (.inl ⟨by rfl, ?_⟩) hS0 ?_
   ·intro W' hW'; (try dsimp only at hW'); go_simp
   simp only [Act.put, List.setIfInBounds_toArray, List.set_cons_zero, List.set_cons_succ]
   refine wpAnyH_take (i := 7) (v := .int .i64 (k : Int)) rfl (by kernel_rfl) (by kernel_rfl) (by kernel_rfl) (fun _ _ _ h => h) (.inl ⟨by rfl, ?_⟩) hS0 ?_
   ·intro W' hW'; (try dsimp only at hW'); go_simp
   simp only [Act.put, List.setIfInBounds_toArray, List.set_cons_zero, List.set_cons_succ]
   refine wpAnyH_take (i := 8) (v := .int .i64 (16 * (k : Int))) rfl (by kernel_rfl) (by kernel_rfl) (by kernel_rfl) (fun _ _ _ h => h) (.inl ⟨by rfl, ?_⟩) hS0 ?_
   ·intro W' hW'; (try dsimp only at hW'); go_simp
   simp only [Act.put, List.setIfInBounds_toArray, List.set_cons_zero, List.set_cons_succ]
   refine wpAnyH_take (i := 11) (v := .slice X1 m1 y1) rfl (by kernel_rfl) (by kernel_rfl) (by kernel_rfl) (fun _ _ _ h => h) (.inl ⟨by rfl, ?_⟩) hS0 ?_
   ·intro W' hW'; (try dsimp only at hW'); go_simp
   simp only [Act.put, List.setIfInBounds_toArray, List.set_cons_zero, List.set_cons_succ]
   refine wpAnyH_take (i := 12) (v := .int .i64 (k : Int)) rfl (by kernel_rfl) (by kernel_rfl) (by kernel_rfl) (fun _ _ _ h => h) (.inl ⟨by rfl, ?_⟩) hS0 ?_
   ·intro W' hW'; (try dsimp only at hW'); go_simp
   simp only [Act.put, List.setIfInBounds_toArray, List.set_cons_zero, List.set_cons_succ]
   refine wpAnyH_take (i := 13) (v := .int .i64 (16 * (k : Int))) rfl (by kernel_rfl) (by kernel_rfl) (by kernel_rfl) (fun _ _ _ h => h) (.inl ⟨by rfl, ?_⟩) hS0 ?_
   ·intro W' hW'; (try dsimp only at hW'); go_simp
   simp only [Act.put, List.setIfInBounds_toArray, List.set_cons_zero, List.set_cons_succ]
   refine wpAnyH_take (i := 14) (v := .int .i64 (16 * (k : Int) + 4)) rfl (by kernel_rfl) (by kernel_rfl) (by kernel_rfl) (fun _ _ _ h => h) (.inl ⟨by rfl, ?_⟩) hS0 ?_
   ·intro W' hW'; (try dsimp only at hW'); go_simp
   simp only [Act.put, List.setIfInBounds_toArray, List.set_cons_zero, List.set_cons_succ]
   refine wpAnyH_take (i := 17) (v := .slice X1 m1 y1) rfl (by kernel_rfl) (by kernel_rfl) (by kernel_rfl) (fun _ _ _ h => h) (.inl ⟨by rfl, ?_⟩) hS0 ?_
   ·intro W' hW'; (try dsimp only at hW'); go_simp
   simp only [Act.put, List.setIfInBounds_toArray, List.set_cons_zero, List.set_cons_succ]
   refine wpAnyH_take (i := 18) (v := .int .i64 (k : Int)) rfl (by kernel_rfl) (by kernel_rfl) (by kernel_rfl) (fun _ _ _ h => h) (.inl ⟨by rfl, ?_⟩) hS0 ?_
   ·intro W' hW'; (try dsimp only at hW'); go_simp
   simp only [Act.put, List.setIfInBounds_toArray, List.set_cons_zero, List.set_cons_succ]
   refine wpAnyH_take (i := 19) (v := .int .i64 (16 * (k : Int))) rfl (by kernel_rfl) (by kernel_rfl) (by kernel_rfl) (fun _ _ _ h => h) (.inl ⟨by rfl, ?_⟩) hS0 ?_
   ·intro W' hW'; (try dsimp only at hW'); go_simp
   simp only [Act.put, List.setIfInBounds_toArray, List.set_cons_zero, List.set_cons_succ]
   refine wpAnyH_take (i := 20) (v := .int .i64 (16 * (k : Int) + 8)) rfl (by kernel_rfl) (by kernel_rfl) (by kernel_rfl) (fun _ _ _ h => h) (.inl ⟨by rfl, ?_⟩) hS0 ?_
   ·intro W' hW'; (try dsimp only at hW'); go_simp
   simp only [Act.put, List.setIfInBounds_toArray, List.set_cons_zero, List.set_cons_succ]
   refine wpAnyH_ready (rs := [1, 9]) (by kernel_rfl) (by simp) ?_
   refine AllReadyH.cons rfl (fun K hK => ?_) (AllReadyH.cons rfl (fun K hK => ?_) AllReadyH.nil)
   ·skip
    go_simp
    refine hK.out _ _ ?_ (fun _ => ?_)
    ·exact hS0
    clear hK K
    refine wpAnyH_ready (rs := [9]) (by kernel_rfl) (by simp) ?_
    refine AllReadyH.cons rfl (fun K hK => ?_) AllReadyH.nil
    go_simp
    refine (G1.out _ eD).mono ?_
    rintro e w' ⟨rfl, rfl⟩
    try go_simp
    refine hK.out _ _ ?_ (fun _ => ?_)
    ·exact hS0
    clear hK K
    try simp only [Act.put, List.setIfInBounds_toArray, List.set_cons_zero, List.set_cons_succ]
    refine wpAnyH_take (i := 10) (v := .int .i64 p1) rfl (by kernel_rfl) (by kernel_rfl) (by kernel_rfl) (fun _ _ _ h => h) (.inl ⟨by rfl, ?_⟩) hS0 ?_
    ·intro W' hW'; (try dsimp only at hW'); go_simp
    simp only [Act.put, List.setIfInBounds_toArray, List.set_cons_zero, List.set_cons_succ]
    refine wpAnyH_ready (rs := [15]) (by kernel_rfl) (by simp) ?_
    refine AllReadyH.cons rfl (fun K hK => ?_) AllReadyH.nil
    go_simp
    refine (G2.out _ eD).mono ?_
    rintro e w' ⟨rfl, rfl⟩
    try go_simp
    refine hK.out _ _ ?_ (fun _ => ?_)
    ·exact hS0
    clear hK K
    try simp only [Act.put, List.setIfInBounds_toArray, List.set_cons_zero, List.set_cons_succ]
    refine wpAnyH_take (i := 16) (v := .int .i64 p2) rfl (by kernel_rfl) (by kernel_rfl) (by kernel_rfl) (fun _ _ _ h => h) (.inl ⟨by rfl, ?_⟩) hS0 ?_
    ·intro W' hW'; (try dsimp only at hW'); go_simp
    simp only [Act.put, List.setIfInBounds_toArray, List.set_cons_zero, List.set_cons_succ]
    refine wpAnyH_ready (rs := [21]) (by kernel_rfl) (by simp) ?_
    refine AllReadyH.cons rfl (fun K hK => ?_) AllReadyH.nil
    go_simp
    refine (G3.out _ eD).mono ?_
    rintro e w' ⟨rfl, rfl⟩
    try go_simp
    refine hK.out _ _ ?_ (fun _ => ?_)
    ·exact hS0
    clear hK K
    try simp only [Act.put, List.setIfInBounds_toArray, List.set_cons_zero, List.set_cons_succ]
    refine wpAnyH_take (i := 22) (v := .int .i64 p3) rfl (by kernel_rfl) (by kernel_rfl) (by kernel_rfl) (fun _ _ _ h => h) (.inl ⟨by rfl, ?_⟩) hS0 ?_
    ·intro W' hW'; (try dsimp only at hW'); go_simp
    simp only [Act.put, List.setIfInBounds_toArray, List.set_cons_zero, List.set_cons_succ]
    refine wpAnyH_take (i := 23) (v := .agg #[.string x, .int .i64 p1, .int .i64 p2, .int .i64 p3]) rfl (by kernel_rfl) (by kernel_rfl) (by kernel_rfl) (fun _ _ _ h => h) (.inl ⟨by rfl, ?_⟩) hS0 ?_
    ·intro W' hW'; (try dsimp only at hW'); go_simp
    simp only [Act.put, List.setIfInBounds_toArray, List.set_cons_zero, List.set_cons_succ]
    refine wpAnyH_ready (rs := [24]) (by kernel_rfl) (by simp) ?_
    refine AllReadyH.cons rfl (fun K hK => ?_) AllReadyH.nil
    go_simp
    refine hK.out _ _ ?_ (fun _ => ?_)
    ·exact hSA
    clear hK K
    refine wpAnyH_ready (rs := [25]) (by kernel_rfl) (by simp) ?_
    refine AllReadyH.cons rfl (fun K hK => ?_) AllReadyH.nil
    refine step_app tyD encD_ok hoA ⟨x, p1, p2, p3⟩ hcA rfl rfl (by rfl) (by rfl) hsA (by decide) hlA ?_
    intro g cap w6 o6 hg6
    have q6 := qA.keep hg6 (hoA.neO (by decide) qA)
    have e6 := eA.grown hg6 hbA
    have z6 := q6.c0
    have fz6 := q6.fz 0
    refine hK.out _ _ ?_ (fun _ => ?_)
    ·exact Ext.cell e6 T1.out
    clear hK K
    try simp only [Act.put, List.setIfInBounds_toArray, List.set_cons_zero, List.set_cons_succ]
    refine wpAnyH_ready (rs := [26]) (by kernel_rfl) (by simp) ?_
    refine AllReadyH.cons rfl (fun K hK => ?_) AllReadyH.nil
    go_simp
    refine hK.out _ _ ?_ (fun _ => ?_)
    ·exact Ext.cell e6 T1.out
    clear hK K
    refine wpAnyH_ready (rs := [27]) (by kernel_rfl) (by simp) ?_
    refine AllReadyH.cons rfl (fun K hK => ?_) AllReadyH.nil
    go_simp
    refine hK.out _ _ ?_ (fun _ => ?_)
    ·exact Ext.cell (e6.setCell (a := ⟨Bo, 0, none⟩) _ hBo5) T1.out
    clear hK K
    refine wpAnyH_done (by kernel_rfl) ?_ _
    have hs6 := hg6.size
    have o7 := o6.kept (grown_setCell w6 Bo 0 (.slice (some ⟨g, 0, none⟩) (l.length + 1) cap)) (.inr (fun e => (o6.neO (by decide) q6) e.symm))
    have q7 := q6.s0 (.slice (some ⟨g, 0, none⟩) (l.length + 1) cap)
    clear hw1 hw2 hw3 hx1 hx2 hx3
    go_wp2
    go_roundw
    case rel => exact ⟨pre ++ [x], suf, k + 1, l ++ [⟨x, p1, p2, p3⟩], _, by simp [HL.out], by simp [HKP.out], by simp, by rw [HML.out, hmd.out, mDefs, mDefs, List.mapIdx_concat, HKP.out], by simp [HMN.out], q7, o7, e6.setCell (a := ⟨Bo, 0, none⟩) _ hBo5, by simp at hs6 hsA ⊢; omega⟩
    case measure => simp [RowKit.intOf]; omega
   ·skip
    go_simp
    refine (G1.out _ eD).mono ?_
    rintro e w' ⟨rfl, rfl⟩
    try go_simp
    refine hK.out _ _ ?_ (fun _ => ?_)
    ·exact hS0
    clear hK K
    try simp only [Act.put, List.setIfInBounds_toArray, List.set_cons_zero, List.set_cons_succ]
    refine wpAnyH_take (i := 10) (v := .int .i64 p1) rfl (by kernel_rfl) (by kernel_rfl) (by kernel_rfl) (fun _ _ _ h => h) (.inl ⟨by rfl, ?_⟩) hS0 ?_
    ·intro W' hW'; (try dsimp only at hW'); go_simp
    simp only [Act.put, List.setIfInBounds_toArray, List.set_cons_zero, List.set_cons_succ]
    refine wpAnyH_ready (rs := [1, 15]) (by kernel_rfl) (by simp) ?_
    refine AllReadyH.cons rfl (fun K hK => ?_) (AllReadyH.cons rfl (fun K hK => ?_) AllReadyH.nil)
    ·skip
     go_simp
     refine hK.out _ _ ?_ (fun _ => ?_)
     ·exact hS0
     clear hK K
     refine wpAnyH_ready (rs := [15]) (by kernel_rfl) (by simp) ?_
     refine AllReadyH.cons rfl (fun K hK => ?_) AllReadyH.nil
     go_simp
     refine (G2.out _ eD).mono ?_
     rintro e w' ⟨rfl, rfl⟩
     try go_simp
     refine hK.out _ _ ?_ (fun _ => ?_)
     ·exact hS0
     clear hK K
     try simp only [Act.put, List.setIfInBounds_toArray, List.set_cons_zero, List.set_cons_succ]
     refine wpAnyH_take (i := 16) (v := .int .i64 p2) rfl (by kernel_rfl) (by kernel_rfl) (by kernel_rfl) (fun _ _ _ h => h) (.inl ⟨by rfl, ?_⟩) hS0 ?_
     ·intro W' hW'; (try dsimp only at hW'); go_simp
     simp only [Act.put, List.setIfInBounds_toArray, List.set_cons_zero, List.set_cons_succ]
     refine wpAnyH_ready (rs := [21]) (by kernel_rfl) (by simp) ?_
     refine AllReadyH.cons rfl (fun K hK => ?_) AllReadyH.nil
     go_simp
     refine (G3.out _ eD).mono ?_
     rintro e w' ⟨rfl, rfl⟩
     try go_simp
     refine hK.out _ _ ?_ (fun _ => ?_)
     ·exact hS0
     clear hK K
     try simp only [Act.put, List.setIfInBounds_toArray, List.set_cons_zero, List.set_cons_succ]
     refine wpAnyH_take (i := 22) (v := .int .i64 p3) rfl (by kernel_rfl) (by kernel_rfl) (by kernel_rfl) (fun _ _ _ h => h) (.inl ⟨by rfl, ?_⟩) hS0 ?_
     ·intro W' hW'; (try dsimp only at hW'); go_simp
     simp only [Act.put, List.setIfInBounds_toArray, List.set_cons_zero, List.set_cons_succ]
     refine wpAnyH_take (i := 23) (v := .agg #[.string x, .int .i64 p1, .int .i64 p2, .int .i64 p3]) rfl (by kernel_rfl) (by kernel_rfl) (by kernel_rfl) (fun _ _ _ h => h) (.inl ⟨by rfl, ?_⟩) hS0 ?_
     ·intro W' hW'; (try dsimp only at hW'); go_simp
     simp only [Act.put, List.setIfInBounds_toArray, List.set_cons_zero, List.set_cons_succ]
     refine wpAnyH_ready (rs := [24]) (by kernel_rfl) (by simp) ?_
     refine AllReadyH.cons rfl (fun K hK => ?_) AllReadyH.nil
     go_simp
     refine hK.out _ _ ?_ (fun _ => ?_)
     ·exact hSA
     clear hK K
     refine wpAnyH_ready (rs := [25]) (by kernel_rfl) (by simp) ?_
     refine AllReadyH.cons rfl (fun K hK => ?_) AllReadyH.nil
     refine step_app tyD encD_ok hoA ⟨x, p1, p2, p3⟩ hcA rfl rfl (by rfl) (by rfl) hsA (by decide) hlA ?_
     intro g cap w6 o6 hg6
     have q6 := qA.keep hg6 (hoA.neO (by decide) qA)
     have e6 := eA.grown hg6 hbA
     have z6 := q6.c0
     have fz6 := q6.fz 0
     refine hK.out _ _ ?_ (fun _ => ?_)
     ·exact Ext.cell e6 T1.out
     clear hK K
     try simp only [Act.put, List.setIfInBounds_toArray, List.set_cons_zero, List.set_cons_succ]
     refine wpAnyH_ready (rs := [26]) (by kernel_rfl) (by simp) ?_
     refine AllReadyH.cons rfl (fun K hK => ?_) AllReadyH.nil
     go_simp
     refine hK.out _ _ ?_ (fun _ => ?_)
     ·exact Ext.cell e6 T1.out
     clear hK K
     refine wpAnyH_ready (rs := [27]) (by kernel_rfl) (by simp) ?_
     refine AllReadyH.cons rfl (fun K hK => ?_) AllReadyH.nil
     go_simp
     refine hK.out _ _ ?_ (fun _ => ?_)
     ·exact Ext.cell (e6.setCell (a := ⟨Bo, 0, none⟩) _ hBo5) T1.out
     clear hK K
     refine wpAnyH_done (by kernel_rfl) ?_ _
     have hs6 := hg6.size
     have o7 := o6.kept (grown_setCell w6 Bo 0 (.slice (some ⟨g, 0, none⟩) (l.length + 1) cap)) (.inr (fun e => (o6.neO (by decide) q6) e.symm))
     have q7 := q6.s0 (.slice (some ⟨g, 0, none⟩) (l.length + 1) cap)
     clear hw1 hw2 hw3 hx1 hx2 hx3
     go_wp2
     go_roundw
     case rel => exact ⟨pre ++ [x], suf, k + 1, l ++ [⟨x, p1, p2, p3⟩], _, by simp [HL.out], by simp [HKP.out], by simp, by rw [HML.out, hmd.out, mDefs, mDefs, List.mapIdx_concat, HKP.out], by simp [HMN.out], q7, o7, e6.setCell (a := ⟨Bo, 0, none⟩) _ hBo5, by simp at hs6 hsA ⊢; omega⟩
     case measure => simp [RowKit.intOf]; omega
    ·skip
     go_simp
     refine (G2.out _ eD).mono ?_
     rintro e w' ⟨rfl, rfl⟩
     try go_simp
     refine hK.out _ _ ?_ (fun _ => ?_)
     ·exact hS0
     clear hK K
     try simp only [Act.put, List.setIfInBounds_toArray, List.set_cons_zero, List.set_cons_succ]
     refine wpAnyH_take (i := 16) (v := .int .i64 p2) rfl (by kernel_rfl) (by kernel_rfl) (by kernel_rfl) (fun _ _ _ h => h) (.inl ⟨by rfl, ?_⟩) hS0 ?_
     ·intro W' hW'; (try dsimp only at hW'); go_simp
     simp only [Act.put, List.setIfInBounds_toArray, List.set_cons_zero, List.set_cons_succ]
     refine wpAnyH_ready (rs := [1, 21]) (by kernel_rfl) (by simp) ?_
     refine AllReadyH.cons rfl (fun K hK => ?_) (AllReadyH.cons rfl (fun K hK => ?_) AllReadyH.nil)
     ·skip
      go_simp
      refine hK.out _ _ ?_ (fun _ => ?_)
      ·exact hS0
      clear hK K
      refine wpAnyH_ready (rs := [21]) (by kernel_rfl) (by simp) ?_
      refine AllReadyH.cons rfl (fun K hK => ?_) AllReadyH.nil
      go_simp
      refine (G3.out _ eD).mono ?_
      rintro e w' ⟨rfl, rfl⟩
      try go_simp
      refine hK.out _ _ ?_ (fun _ => ?_)
      ·exact hS0
      clear hK K
      try simp only [Act.put, List.setIfInBounds_toArray, List.set_cons_zero, List.set_cons_succ]
      refine wpAnyH_take (i := 22) (v := .int .i64 p3) rfl (by kernel_rfl) (by kernel_rfl) (by kernel_rfl) (fun _ _ _ h => h) (.inl ⟨by rfl, ?_⟩) hS0 ?_
      ·intro W' hW'; (try dsimp only at hW'); go_simp
      simp only [Act.put, List.setIfInBounds_toArray, List.set_cons_zero, List.set_cons_succ]
      refine wpAnyH_take (i := 23) (v := .agg #[.string x, .int .i64 p1, .int .i64 p2, .int .i64 p3]) rfl (by kernel_rfl) (by kernel_rfl) (by kernel_rfl) (fun _ _ _ h => h) (.inl ⟨by rfl, ?_⟩) hS0 ?_
      ·intro W' hW'; (try dsimp only at hW'); go_simp
      simp only [Act.put, List.setIfInBounds_toArray, List.set_cons_zero, List.set_cons_succ]
      refine wpAnyH_ready (rs := [24]) (by kernel_rfl) (by simp) ?_
      refine AllReadyH.cons rfl (fun K hK => ?_) AllReadyH.nil
      go_simp
      refine hK.out _ _ ?_ (fun _ => ?_)
      ·exact hSA
      clear hK K
      refine wpAnyH_ready (rs := [25]) (by kernel_rfl) (by simp) ?_
      refine AllReadyH.cons rfl (fun K hK => ?_) AllReadyH.nil
      refine step_app tyD encD_ok hoA ⟨x, p1, p2, p3⟩ hcA rfl rfl (by rfl) (by rfl) hsA (by decide) hlA ?_
      intro g cap w6 o6 hg6
      have q6 := qA.keep hg6 (hoA.neO (by decide) qA)
      have e6 := eA.grown hg6 hbA
      have z6 := q6.c0
      have fz6 := q6.fz 0
      refine hK.out _ _ ?_ (fun _ => ?_)
      ·exact Ext.cell e6 T1.out
      clear hK K
      try simp only [Act.put, List.setIfInBounds_toArray, List.set_cons_zero, List.set_cons_succ]
      refine wpAnyH_ready (rs := [26]) (by kernel_rfl) (by simp) ?_
      refine AllReadyH.cons rfl (fun K hK => ?_) AllReadyH.nil
      go_simp
      refine hK.out _ _ ?_ (fun _ => ?_)
      ·exact Ext.cell e6 T1.out
      clear hK K
      refine wpAnyH_ready (rs := [27]) (by kernel_rfl) (by simp) ?_
      refine AllReadyH.cons rfl (fun K hK => ?_) AllReadyH.nil
      go_simp
      refine hK.out _ _ ?_ (fun _ => ?_)
      ·exact Ext.cell (e6.setCell (a := ⟨Bo, 0, none⟩) _ hBo5) T1.out
      clear hK K
      refine wpAnyH_done (by kernel_rfl) ?_ _
      have hs6 := hg6.size
      have o7 := o6.kept (grown_setCell w6 Bo 0 (.slice (some ⟨g, 0, none⟩) (l.length + 1) cap)) (.inr (fun e => (o6.neO (by decide) q6) e.symm))
      have q7 := q6.s0 (.slice (some ⟨g, 0, none⟩) (l.length + 1) cap)
      clear hw1 hw2 hw3 hx1 hx2 hx3
      go_wp2
      go_roundw
      case rel => exact ⟨pre ++ [x], suf, k + 1, l ++ [⟨x, p1, p2, p3⟩], _, by simp [HL.out], by simp [HKP.out], by simp, by rw [HML.out, hmd.out, mDefs, mDefs, List.mapIdx_concat, HKP.out], by simp [HMN.out], q7, o7, e6.setCell (a := ⟨Bo, 0, none⟩) _ hBo5, by simp at hs6 hsA ⊢; omega⟩
      case measure => simp [RowKit.intOf]; omega
     ·skip
      go_simp
      refine (G3.out _ eD).mono ?_
      rintro e w' ⟨rfl, rfl⟩
      try go_simp
      refine hK.out _ _ ?_ (fun _ => ?_)
      ·exact hS0
      clear hK K
      try simp only [Act.put, List.setIfInBounds_toArray, List.set_cons_zero, List.set_cons_succ]
      refine wpAnyH_take (i := 22) (v := .int .i64 p3) rfl (by kernel_rfl) (by kernel_rfl) (by kernel_rfl) (fun _ _ _ h => h) (.inl ⟨by rfl, ?_⟩) hS0 ?_
      ·intro W' hW'; (try dsimp only at hW'); go_simp
      simp only [Act.put, List.setIfInBounds_toArray, List.set_cons_zero, List.set_cons_succ]
      refine wpAnyH_take (i := 23) (v := .agg #[.string x, .int .i64 p1, .int .i64 p2, .int .i64 p3]) rfl (by kernel_rfl) (by kernel_rfl) (by kernel_rfl) (fun _ _ _ h => h) (.inl ⟨by rfl, ?_⟩) hS0 ?_
      ·intro W' hW'; (try dsimp only at hW'); go_simp
      simp only [Act.put, List.setIfInBounds_toArray, List.set_cons_zero, List.set_cons_succ]
      refine wpAnyH_ready (rs := [1, 24]) (by kernel_rfl) (by simp) ?_
      refine AllReadyH.cons rfl (fun K hK => ?_) (AllReadyH.cons rfl (fun K hK => ?_) AllReadyH.nil)
      ·skip
       go_simp
       refine hK.out _ _ ?_ (fun _ => ?_)
       ·exact hS0
       clear hK K
       refine wpAnyH_ready (rs := [24]) (by kernel_rfl) (by simp) ?_
       refine AllReadyH.cons rfl (fun K hK => ?_) AllReadyH.nil
       go_simp
       refine hK.out _ _ ?_ (fun _ => ?_)
       ·exact hSA
       clear hK K
       refine wpAnyH_ready (rs := [25]) (by kernel_rfl) (by simp) ?_
       refine AllReadyH.cons rfl (fun K hK => ?_) AllReadyH.nil
       refine step_app tyD encD_ok hoA ⟨x, p1, p2, p3⟩ hcA rfl rfl (by rfl) (by rfl) hsA (by decide) hlA ?_
       intro g cap w6 o6 hg6
       have q6 := qA.keep hg6 (hoA.neO (by decide) qA)
       have e6 := eA.grown hg6 hbA
       have z6 := q6.c0
       have fz6 := q6.fz 0
       refine hK.out _ _ ?_ (fun _ => ?_)
       ·exact Ext.cell e6 T1.out
       clear hK K
       try simp only [Act.put, List.setIfInBounds_toArray, List.set_cons_zero, List.set_cons_succ]
       refine wpAnyH_ready (rs := [26]) (by kernel_rfl) (by simp) ?_
       refine AllReadyH.cons rfl (fun K hK => ?_) AllReadyH.nil
       go_simp
       refine hK.out _ _ ?_ (fun _ => ?_)
       ·exact Ext.cell e6 T1.out
       clear hK K
       refine wpAnyH_ready (rs := [27]) (by kernel_rfl) (by simp) ?_
       refine AllReadyH.cons rfl (fun K hK => ?_) AllReadyH.nil
       go_simp
       refine hK.out _ _ ?_ (fun _ => ?_)
       ·exact Ext.cell (e6.setCell (a := ⟨Bo, 0, none⟩) _ hBo5) T1.out
       clear hK K
       refine wpAnyH_done (by kernel_rfl) ?_ _
       have hs6 := hg6.size
       have o7 := o6.kept (grown_setCell w6 Bo 0 (.slice (some ⟨g, 0, none⟩) (l.length + 1) cap)) (.inr (fun e => (o6.neO (by decide) q6) e.symm))
       have q7 := q6.s0 (.slice (some ⟨g, 0, none⟩) (l.length + 1) cap)
       clear hw1 hw2 hw3 hx1 hx2 hx3
       go_wp2
       go_roundw
       case rel => exact ⟨pre ++ [x], suf, k + 1, l ++ [⟨x, p1, p2, p3⟩], _, by simp [HL.out], by simp [HKP.out], by simp, by rw [HML.out, hmd.out, mDefs, mDefs, List.mapIdx_concat, HKP.out], by simp [HMN.out], q7, o7, e6.setCell (a := ⟨Bo, 0, none⟩) _ hBo5, by simp at hs6 hsA ⊢; omega⟩
       case measure => simp [RowKit.intOf]; omega
      ·skip
       go_simp
       refine hK.out _ _ ?_ (fun _ => ?_)
       ·exact hSA
       clear hK K
       refine wpAnyH_ready (rs := [1]) (by kernel_rfl) (by simp) ?_
       refine AllReadyH.cons rfl (fun K hK => ?_) AllReadyH.nil
       go_simp
       refine hK.out _ _ ?_ (fun _ => ?_)
       ·exact hSA
       clear hK K
       refine wpAnyH_ready (rs := [25]) (by kernel_rfl) (by simp) ?_
       refine AllReadyH.cons rfl (fun K hK => ?_) AllReadyH.nil
       refine step_app tyD encD_ok hoA ⟨x, p1, p2, p3⟩ hcA rfl rfl (by rfl) (by rfl) hsA (by decide) hlA ?_
       intro g cap w6 o6 hg6
       have q6 := qA.keep hg6 (hoA.neO (by decide) qA)
       have e6 := eA.grown hg6 hbA
       have z6 := q6.c0
       have fz6 := q6.fz 0
       refine hK.out _ _ ?_ (fun _ => ?_)
       ·exact Ext.cell e6 T1.out
       clear hK K
       try simp only [Act.put, List.setIfInBounds_toArray, List.set_cons_zero, List.set_cons_succ]
       refine wpAnyH_ready (rs := [26]) (by kernel_rfl) (by simp) ?_
       refine AllReadyH.cons rfl (fun K hK => ?_) AllReadyH.nil
       go_simp
       refine hK.out _ _ ?_ (fun _ => ?_)
       ·exact Ext.cell e6 T1.out
       clear hK K
       refine wpAnyH_ready (rs := [27]) (by kernel_rfl) (by simp) ?_
       refine AllReadyH.cons rfl (fun K hK => ?_) AllReadyH.nil
       go_simp
       refine hK.out _ _ ?_ (fun _ => ?_)
       ·exact Ext.cell (e6.setCell (a := ⟨Bo, 0, none⟩) _ hBo5) T1.out
       clear hK K
       refine wpAnyH_done (by kernel_rfl) ?_ _
       have hs6 := hg6.size
       have o7 := o6.kept (grown_setCell w6 Bo 0 (.slice (some ⟨g, 0, none⟩) (l.length + 1) cap)) (.inr (fun e => (o6.neO (by decide) q6) e.symm))
       have q7 := q6.s0 (.slice (some ⟨g, 0, none⟩) (l.length + 1) cap)
       clear hw1 hw2 hw3 hx1 hx2 hx3
       go_wp2
       go_roundw
       case rel => exact ⟨pre ++ [x], suf, k + 1, l ++ [⟨x, p1, p2, p3⟩], _, by simp [HL.out], by simp [HKP.out], by simp, by rw [HML.out, hmd.out, mDefs, mDefs, List.mapIdx_concat, HKP.out], by simp [HMN.out], q7, o7, e6.setCell (a := ⟨Bo, 0, none⟩) _ hBo5, by simp at hs6 hsA ⊢; omega⟩
       case measure => simp [RowKit.intOf]; omega
  | nil =>
   obtain rfl : parL s4.data = pre := by simpa using hl'
   clear hl'
   have hlt : ¬ k < n := by have := HN.out; omega
   have hKN := hx (show k = n by have := HN.out; omega)
   clear hkp
   obtain ⟨m8, hm8⟩ : ∃ m, m = m3 / 8 := ⟨_, rfl⟩
   have hq8 : (m3 : Int) / 8 = (m8 : Int) := by omega
   have HM8 := hx hm8
   have hm8b : m8 ≤ 1000000 := by omega
   clear hm8
   clear k0 k1 k2 f1 n0 n1 n2
   go_wp2
   obtain ⟨W6, rfl⟩ : ∃ W6 : World, W6 = wr := ⟨_, rfl⟩
   go_loopw [12] (fun i wr => ∃ (k : Nat) (l2 : List Rel) (u : Value), i = .int .i64 (k : Int) ∧ k ≤ m8 ∧ l2 = mRels s3.data k ∧ l2.length = k ∧ RowO wr Bo (.slice A7 l.length c7) (.slice A0 s0.data.length c0) u ∧ OwnR wr W6.heap.size u l2 ∧ OwnD wr W5.heap.size (.slice A7 l.length c7) l ∧ Ext w4 wr ∧ W6.heap.size ≤ wr.heap.size) (fun i _ => m8 - (RowKit.intOf i).toNat)
   case atStart => exact ⟨0, [], _, rfl, by omega, rfl, rfl, q, Own.nil _ _ _ _ _, ho, he, Nat.le_refl _⟩
   case round =>
    clear q ho he
    obtain ⟨k, l2, u, rfl, hkm, hml, hmn, q, ho, hD, he, hsz2⟩ := hrel
    have HML2 := hx hml
    have HMN2 := hx hmn
    clear hml hmn
    obtain ⟨A8, c8, rfl⟩ := ho.slice
    by_cases hlt : k < m8
    ·have hlk : 8 * k + 8 ≤ s3.data.length := by have := HM3.out; have := HM8.out; omega
     obtain ⟨p1, hp1⟩ : ∃ p, p = numOf s3.data (8 * (k : Int)) 4 := ⟨_, rfl⟩
     obtain ⟨p2, hp2⟩ : ∃ p, p = numOf s3.data (8 * (k : Int) + 4) 4 := ⟨_, rfl⟩
     have b1 := numOf_nonneg hB3.out (8 * (k : Int)) 4 (by omega)
     have b2 := numOf_nonneg hB3.out (8 * (k : Int) + 4) 4 (by omega)
     rw [← hp1] at b1
     rw [← hp2] at b2
     have G1 := hx (fun (W : World) (hW : Ext w4 W) => getN_any _ s3.data (8 * (k : Int)) 4 p1 W (IsB.ext i3' hW) (by omega) (by omega) hp1)
     have G2 := hx (fun (W : World) (hW : Ext w4 W) => getN_any _ s3.data (8 * (k : Int) + 4) 4 p2 W (IsB.ext i3' hW) (by omega) (by omega) hp2)
     have hmd := hx (show (⟨p1, p2⟩ : Rel) = mRel s3.data k by rw [hp1, hp2]; rfl)
     obtain ⟨b10, b11⟩ := b1
     obtain ⟨b20, b21⟩ := b2
     clear hp1 hp2
     have q0 := q.c2
     go_wp2_with fail
     obtain ⟨C, hC⟩ : ∃ C : Obj, C = .cells #[.int .i64 p1, .int .i64 p2] 78 := ⟨_, rfl⟩
     have hoA : OwnR (wr.alloc C).drew W6.heap.size (.slice A8 l2.length c8) l2 := ho.ext ((Ext.new wr C).drew)
     have hDA : OwnD (wr.alloc C).drew W5.heap.size (.slice A7 l.length c7) l := hD.ext ((Ext.new wr C).drew)
     have qA : RowO (wr.alloc C).drew Bo (.slice A7 l.length c7) (.slice A0 s0.data.length c0) (.slice A8 l2.length c8) := q.ext ((Ext.new wr C).drew)
     have hcA : ∀ (j : Nat) (u : Value), (Rel.enc ⟨p1, p2⟩)[j]? = some u → (wr.alloc C).drew.cell? ⟨wr.heap.size, j, none⟩ = some u := by rw [hC]; exact alloc_at _ rfl
     have eA : Ext w4 (wr.alloc C).drew := (he.alloc C).drew
     have eD : Ext w4 wr.drew := he.drew
     have hsA : W6.heap.size ≤ (wr.alloc C).drew.heap.size := Nat.le_trans hsz2 (Ext.new wr C).size
     have hbA : ∀ k, (Value.slice A8 l2.length c8).ownBlock = some k → w4.heap.size ≤ k := fun k hk => Nat.le_trans (Nat.le_trans (Nat.le_of_lt (by rw [← HBo.out]; exact hsz5)) hsz) (ho.base_le k hk)
     have qA0 := qA.c2
     subst hC
     have hln : l2.length ≤ 1000000 := by have := HMN2.out; omega
     have j1 : (0 : Int) ≤ (k : Int) := by omega
     have hw1 : IntKind.i64.wrap (8 * (k : Int)) = 8 * k := by rw [IntWalk.i64_in _ (by omega)]
     have hw2 : IntKind.i64.wrap (8 * (k : Int) + 4) = 8 * k + 4 := by rw [IntWalk.i64_in _ (by omega)]
     have hx1 : IntKind.i64.wrap p1 = p1 := by rw [IntWalk.i64_in _ (by omega)]
     have hx2 : IntKind.i64.wrap p2 = p2 := by rw [IntWalk.i64_in _ (by omega)]
     have hBo5 : w4.heap.size ≤ Bo := by rw [HBo.out]; exact Nat.le_refl _
     have hlA : (l2.length + 1) * 16 ≤ 140737488355328 := by omega
     clear ho hsz2 hD
     refine wp_region_held (S := (fun w' : World => w'.cell? ⟨Bo, 1, none⟩ = some (.slice A0 s0.data.length c0))) (by kernel_rfl) ?_
     change wpAnyH _ _ _ _ _ 18 _ _ wr.drew
     have hS0 : (fun w' : World => w'.cell? ⟨Bo, 1, none⟩ = some (.slice A0 s0.data.length c0)) wr.drew := q.c1
     have hSA : (fun w' : World => w'.cell? ⟨Bo, 1, none⟩ = some (.slice A0 s0.data.length c0)) (wr.alloc (.cells #[.int .i64 p1, .int .i64 p2] 78)).drew := qA.c1
     refine wpAnyH_take (i := 0) (v := .pointer (some ⟨Bo, 2, none⟩)) rfl (by kernel_rfl) (by kernel_rfl) (by kernel_rfl) (fun _ _ _ h => h) (.inl ⟨by rfl, ?_⟩) hS0 ?_
     ·intro W' hW'; (try dsimp only at hW'); go_simp
     simp only [Act.put, List.setIfInBounds_toArray, List.set_cons_zero, List.set_cons_succ]
     refine wpAnyH_take (i := 2) (v := .slice X3 m3 y3) rfl (by kernel_rfl) (by kernel_rfl) (by kernel_rfl) (fun _ _ _ h => h) (.inl ⟨by rfl, ?_⟩) hS0 ?_
     ·intro W' hW'; (try dsimp only at hW'); go_simp
     simp only [Act.put, List.setIfInBounds_toArray, List.set_cons_zero, List.set_cons_succ]
     refine wpAnyH_take (i := 3) (v := .int .i64 (k : Int)) rfl (by kernel_rfl) (by kernel_rfl) (by kernel_rfl) (fun _ _ _ h => h) (.inl ⟨by rfl, ?_⟩) hS0 ?_
     ·intro W' hW'; (try dsimp only at hW'); go_simp
     simp only [Act.put, List.setIfInBounds_toArray, List.set_cons_zero, List.set_cons_succ]
     refine wpAnyH_take (i := 4) (v := .int .i64 (8 * (k : Int))) rfl (by kernel_rfl) (by kernel_rfl) (by kernel_rfl) (fun _ _ _ h => h) (.inl ⟨by rfl, ?_⟩) hS0 ?_
     ·intro W' hW'; (try dsimp only at hW'); go_simp
     simp only [Act.put, List.setIfInBounds_toArray, List.set_cons_zero, List.set_cons_succ]
     refine wpAnyH_take (i := 7) (v := .slice X3 m3 y3) rfl (by kernel_rfl) (by kernel_rfl) (by kernel_rfl) (fun _ _ _ h => h) (.inl ⟨by rfl, ?_⟩) hS0 ?_
     ·intro W' hW'; (try dsimp only at hW'); go_simp
     simp only [Act.put, List.setIfInBounds_toArray, List.set_cons_zero, List.set_cons_succ]
     refine wpAnyH_take (i := 8) (v := .int .i64 (k : Int)) rfl (by kernel_rfl) (by kernel_rfl) (by kernel_rfl) (fun _ _ _ h => h) (.inl ⟨by rfl, ?_⟩) hS0 ?_
     ·intro W' hW'; (try dsimp only at hW'); go_simp
     simp only [Act.put, List.setIfInBounds_toArray, List.set_cons_zero, List.set_cons_succ]
     refine wpAnyH_take (i := 9) (v := .int .i64 (8 * (k : Int))) rfl (by kernel_rfl) (by kernel_rfl) (by kernel_rfl) (fun _ _ _ h => h) (.inl ⟨by rfl, ?_⟩) hS0 ?_
     ·intro W' hW'; (try dsimp only at hW'); go_simp
     simp only [Act.put, List.setIfInBounds_toArray, List.set_cons_zero, List.set_cons_succ]
     refine wpAnyH_take (i := 10) (v := .int .i64 (8 * (k : Int) + 4)) rfl (by kernel_rfl) (by kernel_rfl) (by kernel_rfl) (fun _ _ _ h => h) (.inl ⟨by rfl, ?_⟩) hS0 ?_
     ·intro W' hW'; (try dsimp only at hW'); go_simp
     simp only [Act.put, List.setIfInBounds_toArray, List.set_cons_zero, List.set_cons_succ]
     refine wpAnyH_ready (rs := [1, 5]) (by kernel_rfl) (by simp) ?_
     refine AllReadyH.cons rfl (fun K hK => ?_) (AllReadyH.cons rfl (fun K hK => ?_) AllReadyH.nil)
     ·skip
      go_simp
      refine hK.out _ _ ?_ (fun _ => ?_)
      ·exact hS0
      clear hK K
      refine wpAnyH_ready (rs := [5]) (by kernel_rfl) (by simp) ?_
      refine AllReadyH.cons rfl (fun K hK => ?_) AllReadyH.nil
      go_simp
      refine (G1.out _ eD).mono ?_
      rintro e w' ⟨rfl, rfl⟩
      try go_simp
      refine hK.out _ _ ?_ (fun _ => ?_)
      ·exact hS0
      clear hK K
      try simp only [Act.put, List.setIfInBounds_toArray, List.set_cons_zero, List.set_cons_succ]
      refine wpAnyH_take (i := 6) (v := .int .i64 p1) rfl (by kernel_rfl) (by kernel_rfl) (by kernel_rfl) (fun _ _ _ h => h) (.inl ⟨by rfl, ?_⟩) hS0 ?_
      ·intro W' hW'; (try dsimp only at hW'); go_simp
      simp only [Act.put, List.setIfInBounds_toArray, List.set_cons_zero, List.set_cons_succ]
      refine wpAnyH_ready (rs := [11]) (by kernel_rfl) (by simp) ?_
      refine AllReadyH.cons rfl (fun K hK => ?_) AllReadyH.nil
      go_simp
      refine (G2.out _ eD).mono ?_
      rintro e w' ⟨rfl, rfl⟩
      try go_simp
      refine hK.out _ _ ?_ (fun _ => ?_)
      ·exact hS0
      clear hK K
      try simp only [Act.put, List.setIfInBounds_toArray, List.set_cons_zero, List.set_cons_succ]
      refine wpAnyH_take (i := 12) (v := .int .i64 p2) rfl (by kernel_rfl) (by kernel_rfl) (by kernel_rfl) (fun _ _ _ h => h) (.inl ⟨by rfl, ?_⟩) hS0 ?_
      ·intro W' hW'; (try dsimp only at hW'); go_simp
      simp only [Act.put, List.setIfInBounds_toArray, List.set_cons_zero, List.set_cons_succ]
      refine wpAnyH_take (i := 13) (v := .agg #[.int .i64 p1, .int .i64 p2]) rfl (by kernel_rfl) (by kernel_rfl) (by kernel_rfl) (fun _ _ _ h => h) (.inl ⟨by rfl, ?_⟩) hS0 ?_
      ·intro W' hW'; (try dsimp only at hW'); go_simp
      simp only [Act.put, List.setIfInBounds_toArray, List.set_cons_zero, List.set_cons_succ]
      refine wpAnyH_ready (rs := [14]) (by kernel_rfl) (by simp) ?_
      refine AllReadyH.cons rfl (fun K hK => ?_) AllReadyH.nil
      go_simp
      refine hK.out _ _ ?_ (fun _ => ?_)
      ·exact hSA
      clear hK K
      refine wpAnyH_ready (rs := [15]) (by kernel_rfl) (by simp) ?_
      refine AllReadyH.cons rfl (fun K hK => ?_) AllReadyH.nil
      refine step_app tyR encR_ok hoA ⟨p1, p2⟩ hcA rfl rfl (by rfl) (by rfl) hsA (by decide) hlA ?_
      intro g cap w6 o6 hg6
      have q6 := qA.keep hg6 (hoA.neO (by decide) qA)
      have e6 := eA.grown hg6 hbA
      have z6 := q6.c2
      have fz6 := q6.fz 2
      have hD6 := hDA.kept hg6 (hDA.type_ne hoA (by decide))
      refine hK.out _ _ ?_ (fun _ => ?_)
      ·exact q6.c1
      clear hK K
      try simp only [Act.put, List.setIfInBounds_toArray, List.set_cons_zero, List.set_cons_succ]
      refine wpAnyH_ready (rs := [16]) (by kernel_rfl) (by simp) ?_
      refine AllReadyH.cons rfl (fun K hK => ?_) AllReadyH.nil
      go_simp
      refine hK.out _ _ ?_ (fun _ => ?_)
      ·exact q6.c1
      clear hK K
      refine wpAnyH_ready (rs := [17]) (by kernel_rfl) (by simp) ?_
      refine AllReadyH.cons rfl (fun K hK => ?_) AllReadyH.nil
      go_simp
      refine hK.out _ _ ?_ (fun _ => ?_)
      ·exact (q6.s2 _).c1
      clear hK K
      refine wpAnyH_done (by kernel_rfl) ?_ _
      have hs6 := hg6.size
      have o7 := o6.kept (grown_setCell w6 Bo 2 (.slice (some ⟨g, 0, none⟩) (l2.length + 1) cap)) (.inr (fun e => (o6.neO (by decide) q6) e.symm))
      have hD7 := hD6.kept (grown_setCell w6 Bo 2 (.slice (some ⟨g, 0, none⟩) (l2.length + 1) cap)) (.inr (fun e => (hD6.neO (by decide) q6) e.symm))
      have q7 := q6.s2 (.slice (some ⟨g, 0, none⟩) (l2.length + 1) cap)
      clear hw1 hw2 hx1 hx2
      go_wp2
      go_roundw
      case rel => exact ⟨k + 1, l2 ++ [⟨p1, p2⟩], _, by simp, by omega, by rw [HML2.out, hmd.out, mRels, mRels, List.range_succ]; simp, by simp [HMN2.out], q7, o7, hD7, e6.setCell (a := ⟨Bo, 2, none⟩) _ hBo5, by simp at hs6 hsA ⊢; omega⟩
      case measure => simp [RowKit.intOf]; omega
     ·skip
      go_simp
      refine (G1.out _ eD).mono ?_
      rintro e w' ⟨rfl, rfl⟩
      try go_simp
      refine hK.out _ _ ?_ (fun _ => ?_)
      ·exact hS0
      clear hK K
      try simp only [Act.put, List.setIfInBounds_toArray, List.set_cons_zero, List.set_cons_succ]
      refine wpAnyH_take (i := 6) (v := .int .i64 p1) rfl (by kernel_rfl) (by kernel_rfl) (by kernel_rfl) (fun _ _ _ h => h) (.inl ⟨by rfl, ?_⟩) hS0 ?_
      ·intro W' hW'; (try dsimp only at hW'); go_simp
      simp only [Act.put, List.setIfInBounds_toArray, List.set_cons_zero, List.set_cons_succ]
      refine wpAnyH_ready (rs := [1, 11]) (by kernel_rfl) (by simp) ?_
      refine AllReadyH.cons rfl (fun K hK => ?_) (AllReadyH.cons rfl (fun K hK => ?_) AllReadyH.nil)
      ·skip
       go_simp
       refine hK.out _ _ ?_ (fun _ => ?_)
       ·exact hS0
       clear hK K
       refine wpAnyH_ready (rs := [11]) (by kernel_rfl) (by simp) ?_
       refine AllReadyH.cons rfl (fun K hK => ?_) AllReadyH.nil
       go_simp
       refine (G2.out _ eD).mono ?_
       rintro e w' ⟨rfl, rfl⟩
       try go_simp
       refine hK.out _ _ ?_ (fun _ => ?_)
       ·exact hS0
       clear hK K
       try simp only [Act.put, List.setIfInBounds_toArray, List.set_cons_zero, List.set_cons_succ]
       refine wpAnyH_take (i := 12) (v := .int .i64 p2) rfl (by kernel_rfl) (by kernel_rfl) (by kernel_rfl) (fun _ _ _ h => h) (.inl ⟨by rfl, ?_⟩) hS0 ?_
       ·intro W' hW'; (try dsimp only at hW'); go_simp
       simp only [Act.put, List.setIfInBounds_toArray, List.set_cons_zero, List.set_cons_succ]
       refine wpAnyH_take (i := 13) (v := .agg #[.int .i64 p1, .int .i64 p2]) rfl (by kernel_rfl) (by kernel_rfl) (by kernel_rfl) (fun _ _ _ h => h) (.inl ⟨by rfl, ?_⟩) hS0 ?_
       ·intro W' hW'; (try dsimp only at hW'); go_simp
       simp only [Act.put, List.setIfInBounds_toArray, List.set_cons_zero, List.set_cons_succ]
       refine wpAnyH_ready (rs := [14]) (by kernel_rfl) (by simp) ?_
       refine AllReadyH.cons rfl (fun K hK => ?_) AllReadyH.nil
       go_simp
       refine hK.out _ _ ?_ (fun _ => ?_)
       ·exact hSA
       clear hK K
       refine wpAnyH_ready (rs := [15]) (by kernel_rfl) (by simp) ?_
       refine AllReadyH.cons rfl (fun K hK => ?_) AllReadyH.nil
       refine step_app tyR encR_ok hoA ⟨p1, p2⟩ hcA rfl rfl (by rfl) (by rfl) hsA (by decide) hlA ?_
       intro g cap w6 o6 hg6
       have q6 := qA.keep hg6 (hoA.neO (by decide) qA)
       have e6 := eA.grown hg6 hbA
       have z6 := q6.c2
       have fz6 := q6.fz 2
       have hD6 := hDA.kept hg6 (hDA.type_ne hoA (by decide))
       refine hK.out _ _ ?_ (fun _ => ?_)
       ·exact q6.c1
       clear hK K
       try simp only [Act.put, List.setIfInBounds_toArray, List.set_cons_zero, List.set_cons_succ]
       refine wpAnyH_ready (rs := [16]) (by kernel_rfl) (by simp) ?_
       refine AllReadyH.cons rfl (fun K hK => ?_) AllReadyH.nil
       go_simp
       refine hK.out _ _ ?_ (fun _ => ?_)
       ·exact q6.c1
       clear hK K
       refine wpAnyH_ready (rs := [17]) (by kernel_rfl) (by simp) ?_
       refine AllReadyH.cons rfl (fun K hK => ?_) AllReadyH.nil
       go_simp
       refine hK.out _ _ ?_ (fun _ => ?_)
       ·exact (q6.s2 _).c1
       clear hK K
       refine wpAnyH_done (by kernel_rfl) ?_ _
       have hs6 := hg6.size
       have o7 := o6.kept (grown_setCell w6 Bo 2 (.slice (some ⟨g, 0, none⟩) (l2.length + 1) cap)) (.inr (fun e => (o6.neO (by decide) q6) e.symm))
       have hD7 := hD6.kept (grown_setCell w6 Bo 2 (.slice (some ⟨g, 0, none⟩) (l2.length + 1) cap)) (.inr (fun e => (hD6.neO (by decide) q6) e.symm))
       have q7 := q6.s2 (.slice (some ⟨g, 0, none⟩) (l2.length + 1) cap)
       clear hw1 hw2 hx1 hx2
       go_wp2
       go_roundw
       case rel => exact ⟨k + 1, l2 ++ [⟨p1, p2⟩], _, by simp, by omega, by rw [HML2.out, hmd.out, mRels, mRels, List.range_succ]; simp, by simp [HMN2.out], q7, o7, hD7, e6.setCell (a := ⟨Bo, 2, none⟩) _ hBo5, by simp at hs6 hsA ⊢; omega⟩
       case measure => simp [RowKit.intOf]; omega
      ·skip
       go_simp
       refine (G2.out _ eD).mono ?_
       rintro e w' ⟨rfl, rfl⟩
       try go_simp
       refine hK.out _ _ ?_ (fun _ => ?_)
       ·exact hS0
       clear hK K
       try simp only [Act.put, List.setIfInBounds_toArray, List.set_cons_zero, List.set_cons_succ]
       refine wpAnyH_take (i := 12) (v := .int .i64 p2) rfl (by kernel_rfl) (by kernel_rfl) (by kernel_rfl) (fun _ _ _ h => h) (.inl ⟨by rfl, ?_⟩) hS0 ?_
       ·intro W' hW'; (try dsimp only at hW'); go_simp
       simp only [Act.put, List.setIfInBounds_toArray, List.set_cons_zero, List.set_cons_succ]
       refine wpAnyH_take (i := 13) (v := .agg #[.int .i64 p1, .int .i64 p2]) rfl (by kernel_rfl) (by kernel_rfl) (by kernel_rfl) (fun _ _ _ h => h) (.inl ⟨by rfl, ?_⟩) hS0 ?_
       ·intro W' hW'; (try dsimp only at hW'); go_simp
       simp only [Act.put, List.setIfInBounds_toArray, List.set_cons_zero, List.set_cons_succ]
       refine wpAnyH_ready (rs := [1, 14]) (by kernel_rfl) (by simp) ?_
       refine AllReadyH.cons rfl (fun K hK => ?_) (AllReadyH.cons rfl (fun K hK => ?_) AllReadyH.nil)
       ·skip
        go_simp
        refine hK.out _ _ ?_ (fun _ => ?_)
        ·exact hS0
        clear hK K
        refine wpAnyH_ready (rs := [14]) (by kernel_rfl) (by simp) ?_
        refine AllReadyH.cons rfl (fun K hK => ?_) AllReadyH.nil
        go_simp
        refine hK.out _ _ ?_ (fun _ => ?_)
        ·exact hSA
        clear hK K
        refine wpAnyH_ready (rs := [15]) (by kernel_rfl) (by simp) ?_
        refine AllReadyH.cons rfl (fun K hK => ?_) AllReadyH.nil
        refine step_app tyR encR_ok hoA ⟨p1, p2⟩ hcA rfl rfl (by rfl) (by rfl) hsA (by decide) hlA ?_
        intro g cap w6 o6 hg6
        have q6 := qA.keep hg6 (hoA.neO (by decide) qA)
        have e6 := eA.grown hg6 hbA
        have z6 := q6.c2
        have fz6 := q6.fz 2
        have hD6 := hDA.kept hg6 (hDA.type_ne hoA (by decide))
        refine hK.out _ _ ?_ (fun _ => ?_)
        ·exact q6.c1
        clear hK K
        try simp only [Act.put, List.setIfInBounds_toArray, List.set_cons_zero, List.set_cons_succ]
        refine wpAnyH_ready (rs := [16]) (by kernel_rfl) (by simp) ?_
        refine AllReadyH.cons rfl (fun K hK => ?_) AllReadyH.nil
        go_simp
        refine hK.out _ _ ?_ (fun _ => ?_)
        ·exact q6.c1
        clear hK K
        refine wpAnyH_ready (rs := [17]) (by kernel_rfl) (by simp) ?_
        refine AllReadyH.cons rfl (fun K hK => ?_) AllReadyH.nil
        go_simp
        refine hK.out _ _ ?_ (fun _ => ?_)
        ·exact (q6.s2 _).c1
        clear hK K
        refine wpAnyH_done (by kernel_rfl) ?_ _
        have hs6 := hg6.size
        have o7 := o6.kept (grown_setCell w6 Bo 2 (.slice (some ⟨g, 0, none⟩) (l2.length + 1) cap)) (.inr (fun e => (o6.neO (by decide) q6) e.symm))
        have hD7 := hD6.kept (grown_setCell w6 Bo 2 (.slice (some ⟨g, 0, none⟩) (l2.length + 1) cap)) (.inr (fun e => (hD6.neO (by decide) q6) e.symm))
        have q7 := q6.s2 (.slice (some ⟨g, 0, none⟩) (l2.length + 1) cap)
        clear hw1 hw2 hx1 hx2
        go_wp2
        go_roundw
        case rel => exact ⟨k + 1, l2 ++ [⟨p1, p2⟩], _, by simp, by omega, by rw [HML2.out, hmd.out, mRels, mRels, List.range_succ]; simp, by simp [HMN2.out], q7, o7, hD7, e6.setCell (a := ⟨Bo, 2, none⟩) _ hBo5, by simp at hs6 hsA ⊢; omega⟩
        case measure => simp [RowKit.intOf]; omega
       ·skip
        go_simp
        refine hK.out _ _ ?_ (fun _ => ?_)
        ·exact hSA
        clear hK K
        refine wpAnyH_ready (rs := [1]) (by kernel_rfl) (by simp) ?_
        refine AllReadyH.cons rfl (fun K hK => ?_) AllReadyH.nil
        go_simp
        refine hK.out _ _ ?_ (fun _ => ?_)
        ·exact hSA
        clear hK K
        refine wpAnyH_ready (rs := [15]) (by kernel_rfl) (by simp) ?_
        refine AllReadyH.cons rfl (fun K hK => ?_) AllReadyH.nil
        refine step_app tyR encR_ok hoA ⟨p1, p2⟩ hcA rfl rfl (by rfl) (by rfl) hsA (by decide) hlA ?_
        intro g cap w6 o6 hg6
        have q6 := qA.keep hg6 (hoA.neO (by decide) qA)
        have e6 := eA.grown hg6 hbA
        have z6 := q6.c2
        have fz6 := q6.fz 2
        have hD6 := hDA.kept hg6 (hDA.type_ne hoA (by decide))
        refine hK.out _ _ ?_ (fun _ => ?_)
        ·exact q6.c1
        clear hK K
        try simp only [Act.put, List.setIfInBounds_toArray, List.set_cons_zero, List.set_cons_succ]
        refine wpAnyH_ready (rs := [16]) (by kernel_rfl) (by simp) ?_
        refine AllReadyH.cons rfl (fun K hK => ?_) AllReadyH.nil
        go_simp
        refine hK.out _ _ ?_ (fun _ => ?_)
        ·exact q6.c1
        clear hK K
        refine wpAnyH_ready (rs := [17]) (by kernel_rfl) (by simp) ?_
        refine AllReadyH.cons rfl (fun K hK => ?_) AllReadyH.nil
        go_simp
        refine hK.out _ _ ?_ (fun _ => ?_)
        ·exact (q6.s2 _).c1
        clear hK K
        refine wpAnyH_done (by kernel_rfl) ?_ _
        have hs6 := hg6.size
        have o7 := o6.kept (grown_setCell w6 Bo 2 (.slice (some ⟨g, 0, none⟩) (l2.length + 1) cap)) (.inr (fun e => (o6.neO (by decide) q6) e.symm))
        have hD7 := hD6.kept (grown_setCell w6 Bo 2 (.slice (some ⟨g, 0, none⟩) (l2.length + 1) cap)) (.inr (fun e => (hD6.neO (by decide) q6) e.symm))
        have q7 := q6.s2 (.slice (some ⟨g, 0, none⟩) (l2.length + 1) cap)
        clear hw1 hw2 hx1 hx2
        go_wp2
        go_roundw
        case rel => exact ⟨k + 1, l2 ++ [⟨p1, p2⟩], _, by simp, by omega, by rw [HML2.out, hmd.out, mRels, mRels, List.range_succ]; simp, by simp [HMN2.out], q7, o7, hD7, e6.setCell (a := ⟨Bo, 2, none⟩) _ hBo5, by simp at hs6 hsA ⊢; omega⟩
        case measure => simp [RowKit.intOf]; omega
    ·obtain rfl : k = m8 := by omega
     have hlt2 : ¬ k < k := by omega
     have hln1 : l.length ≤ 100000 := by have := HMN.out; have := hKN.out; omega
     have hln2 : l2.length ≤ 1000000 := by have := HMN2.out; omega
     have hmz : (obOf [s0, s1, s2, s3, s4]).maps = l := HML.out.symm
     have hrz : (obOf [s0, s1, s2, s3, s4]).rels = l2 := by rw [HML2.out, HM8.out, HM3.out]; rfl
     have hOb : IsOb wr (.agg #[.slice A7 l.length c7, .slice A0 s0.data.length c0, .slice A8 l2.length c8]) (obOf [s0, s1, s2, s3, s4]) := by
      refine ⟨_, _, _, rfl, ?_, IsB.ext i0' he, ?_⟩
      ·rw [hmz]
       exact hD.read (by rw [HML.out]; exact mDefs_ok hB1.out (Sl.all rt fun _ _ _ k => k.2)) (by omega)
      ·rw [hrz]
       exact ho.read (by rw [HML2.out]; exact mRels_ok hB3.out _) (by omega)
     have hmb : (obOf [s0, s1, s2, s3, s4]).maps.length ≤ 100000 := by rw [hmz]; exact hln1
     have hrb : (obOf [s0, s1, s2, s3, s4]).rels.length ≤ 1000000 := by rw [hrz]; exact hln2
     have hbb := IsB.ext hv' (ew4.trans he)
     have x0 := q.c0
     have x1 := q.c1
     have x2 := q.c2
     have r5 := r1.ext he
     have z5 := z1.ext he
     have hparts := hx (show paOk b ↔ (obE (obOf [s0, s1, s2, s3, s4]) = 0 ∧ packOf (obOf [s0, s1, s2, s3, s4]) = b) by
      rw [hpa.out]
      exact ⟨fun h => ⟨h.2.2.2.1, h.2.2.2.2⟩, fun h => ⟨HPB.out, HC1.out, HC3.out, h⟩⟩)
     have hpaO := hx (show paOk b → paOut b = obOf [s0, s1, s2, s3, s4] from fun h => by unfold paOut; rw [if_pos h, HS.out])
     clear hmz hrz hD ho q i0' i1' i3' rt' rt hv hv' r1 z1 hpa r0 z0
     generalize hO : obOf [s0, s1, s2, s3, s4] = O at *
     clear hO
     have hC := ref16_Check_any _ O wr hOb hmb hrb
     by_cases hE0 : obE O = 0
     case neg =>
      have hE := hx (no_pa (b := b) fun h => hE0 (hparts.out.1 h).1)
      have hne : (obE O != 0) = true := by simpa using hE0
      clear hE0
      generalize obE O = EO at *
      go_wp2_with (first | (go_at_call 16; refine hC.mono ?_; rintro e w7 ⟨rfl, e7⟩; have r1 := r5.ext (e7); have z1 := z5.ext (e7); have k0 := r1.c0; have k1 := r1.c1; have k2 := r1.c2; have f1 := r1.fz; have n0 := z1.c0; have n1 := z1.c1; have n2 := z1.c2))
      refine bodyPost_ret (results_row_tmp rfl _ _ w.heap.size 26 _ _ _ rfl (((r1.s0 _).s1 _).s2 _) Tryz.underlying26 rfl (by kernel_rfl)) rfl ?_
      exact ⟨_, by rw [hE.out.1]; rfl, by rw [hE.out.2]; exact isOb_nil _, ext_o3 ((ew4.trans he).trans e7) (Nat.le_refl _) _ _ _⟩
     rw [hE0] at hC
     have hPk := hx (fun (W : World) (hW : Ext wr W) => ref16_Pack_any _ O W (hOb.ext hW) hE0 hrb)
     have HE0 := hx hE0
     clear hE0
     obtain ⟨L, hL⟩ : ∃ L, L = packOf O := ⟨_, rfl⟩
     have hPL := hx (fun (W : World) (hW : Ext wr W) => by have h := hPk.out W hW; rw [← hL] at h; exact h)
     have HL := hx hL
     clear hL hPk
     by_cases hq : L = b
     ·have hE := hx (show paB b = true ∧ paOut b = O by
       have : paOk b := hparts.out.2 ⟨HE0.out, by rw [← HL.out]; exact hq⟩
       exact ⟨decide_eq_true this, hpaO.out this⟩)
      have hdq : decide (L = b) = true := by simpa using hq
      have hEq := hx (fun (va vb : Value) (W : World) (ha : IsB W va L) (hb : IsB W vb b) => by have := sameB_any va vb L b W ha hb; rw [hdq] at this; exact this)
      clear hq hdq
      go_wp2_with (first
       | (go_at_call 16; refine hC.mono ?_; rintro e w7 ⟨rfl, e7⟩; have y0 := e7.cell x0; have y1 := e7.cell x1; have y2 := e7.cell x2)
       | (go_at_call 20; refine (hPL.out _ e7).mono ?_; rintro e w8 ⟨vp, rfl, ip, e8⟩; replace e8 := e7.trans e8; obtain ⟨A9, c9, rfl, -, -, ip'⟩ := ip.form)
       | (go_at_call 19; refine (hEq.out _ _ _ ip' (IsB.ext hbb e8)).mono ?_; rintro e w9 ⟨rfl, e9⟩; replace e9 := e8.trans e9; have r1 := r5.ext (e9); have z1 := z5.ext (e9); have k0 := r1.c0; have k1 := r1.c1; have k2 := r1.c2; have f1 := r1.fz; have n0 := z1.c0; have n1 := z1.c1; have n2 := z1.c2; have u0 := e9.cell x0; have u1 := e9.cell x1; have u2 := e9.cell x2))
      refine bodyPost_ret (results_row_tmp rfl _ _ w.heap.size 26 _ _ _ rfl (((r1.s0 _).s1 _).s2 _) Tryz.underlying26 rfl (by kernel_rfl)) rfl ?_
      refine ⟨_, by rw [hE.out.1]; rfl, ?_, ext_o3 ((ew4.trans he).trans e9) (Nat.le_refl _) _ _ _⟩
      rw [hE.out.2]
      exact isOb_set3 r1 (hOb.ext e9) _ _ _
     ·have hE := hx (no_pa (b := b) fun h => hq (by rw [HL.out]; exact (hparts.out.1 h).2))
      have hdq : decide (L = b) = false := by simpa using hq
      have hEq := hx (fun (va vb : Value) (W : World) (ha : IsB W va L) (hb : IsB W vb b) => by have := sameB_any va vb L b W ha hb; rw [hdq] at this; exact this)
      clear hq hdq
      go_wp2_with (first
       | (go_at_call 16; refine hC.mono ?_; rintro e w7 ⟨rfl, e7⟩; have y0 := e7.cell x0; have y1 := e7.cell x1; have y2 := e7.cell x2)
       | (go_at_call 20; refine (hPL.out _ e7).mono ?_; rintro e w8 ⟨vp, rfl, ip, e8⟩; replace e8 := e7.trans e8; obtain ⟨A9, c9, rfl, -, -, ip'⟩ := ip.form)
       | (go_at_call 19; refine (hEq.out _ _ _ ip' (IsB.ext hbb e8)).mono ?_; rintro e w9 ⟨rfl, e9⟩; replace e9 := e8.trans e9; have r1 := r5.ext (e9); have z1 := z5.ext (e9); have k0 := r1.c0; have k1 := r1.c1; have k2 := r1.c2; have f1 := r1.fz; have n0 := z1.c0; have n1 := z1.c1; have n2 := z1.c2))
      refine bodyPost_ret (results_row_tmp rfl _ _ w.heap.size 26 _ _ _ rfl (((r1.s0 _).s1 _).s2 _) Tryz.underlying26 rfl (by kernel_rfl)) rfl ?_
      exact ⟨_, by rw [hE.out.1]; rfl, by rw [hE.out.2]; exact isOb_nil _, ext_o3 ((ew4.trans he).trans e9) (Nat.le_refl _) _ _ _⟩
end Go.Proofs.YtiaddncjghkajaaGreatDoor
