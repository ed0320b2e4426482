/- The layer mem: New; a first region; a region of no bytes. The layer maps: New of no maps. -/
import Derived.Test.YtmnbalbiehlkpaaGreatDoorJSlot
import Derived.Test.YtmnbalbiehlkpaaGreatDoorJTab
import Derived.Deep.RegionWith
import Derived.Deep.RegionHeld3
import Derived.Laws.EntriesVeiled
import Derived.Test.YtmnbalbiehlkpaaGreatDoorJOpsB
import Derived.Test.YtmnbalbiehlkpaaGreatDoorJCore
import Derived.Test.YtmnbalbiehlkpaaGreatDoorJIdentR
set_option linter.unusedVariables false
set_option linter.unusedSimpArgs false
namespace Go.Proofs.YtmnbalbiehlkpaaGreatDoor
open Go.RowKit Go.Lib

/-- The function by which a memory's regions are sorted. -/
def byV : Value := .func (.func 101) #[] #[]
theorem memNew_any (w : World) : Calls Tryz.prog 67 #[] w fun e w' => e = .returned (.pointer (some ⟨w.heap.size, 0, none⟩)) ∧ w' = w.alloc (.cells #[.slice none 0 0, .func (.func 101) #[] #[]] 200) := by
 go_enter Tryz.func67, Tryz.ntmps67
 go_wp2
 go_ret
 exact ⟨rfl, rfl⟩
theorem regEnd_any (b : Nat) (base : Int) (n c : Nat) (A : Option Addr) (w : World) (hr : RowV w b 194 [.int .u64 base, .slice A n c]) (h0 : 0 ≤ base) (hn : 0 < n) (hn2 : n ≤ 1000000) (hb : base + n ≤ 18446744073709551615) :
  Calls Tryz.prog 103 #[.pointer (some ⟨b, 0, none⟩)] w fun e w' => e = .returned (.int .u64 (base + n - 1)) ∧ ∃ k, w' = w.drewN k := by
 have q0 := hr.cell (i := 0) rfl
 have q1 := hr.cell (i := 1) rfl
 have w1 : IntKind.u64.wrap (base + (n : Int)) = base + n := wrap_u64 _ (by omega) (by omega)
 have w2 : IntKind.u64.wrap (base + (n : Int) - 1) = base + n - 1 := wrap_u64 _ (by omega) (by omega)
 have w3 : IntKind.u64.wrap (n : Int) = n := wrap_u64 _ (by omega) (by omega)
 go_enter Tryz.func103, Tryz.ntmps103
 go_wp2
 go_quiet (fail)
 go_wp2
 go_ret
 exact ⟨rfl, _, rfl⟩
/-- Where an address falls in a memory without regions: nowhere. -/
theorem memAt0_any (m : Nat) (a : Int) (w : World) (hr : RowV w m 200 [.slice none 0 0, byV]) :
  Calls Tryz.prog 102 #[.pointer (some ⟨m, 0, none⟩), .int .u64 a] w fun e w' => e = .returned (.int .i64 (-1)) ∧ Ext w w' := by
 have q0 := hr.cell (i := 0) rfl
 have q0' := (Ext.new w (.cells #[.pointer (some ⟨m, 0, none⟩)] 242)).cell q0
 have hbs : ∀ (f : Value) (W : World), Calls Tryz.prog 169 #[.slice none 0 0, .int .u64 a, f] W fun e w' => e = .returned (.tuple #[.int .i64 0, .bool false]) ∧ w' = W := by
  intro f W
  go_enter Tryz.func169, Tryz.ntmps169
  go_wp2
  go_loop [9, 10] (fun i j => i = .int .i64 0 ∧ j = .int .i64 0) (fun i _ => 0)
  case atStart => exact ⟨rfl, rfl⟩
  case round =>
   obtain ⟨rfl, rfl⟩ := hrel
   go_wp2
   go_ret2
   exact ⟨rfl, rfl⟩
 have HB := hx hbs
 clear hbs
 go_enter Tryz.func102, Tryz.ntmps102
 go_wp2_with (go_at_call 169; refine (HB.out _ _).mono ?_; rintro e w1 ⟨rfl, rfl⟩)
 go_ret
 exact ⟨rfl, Ext.new _ _⟩
/-- slices.Insert of one region into a list without room. -/
theorem insert0_any (b : Nat) (q : Nat) (w : World) (hr : RowV w q 192 [.pointer (some ⟨b, 0, none⟩)]) :
  Calls Tryz.prog 104 #[.slice none 0 0, .int .i64 0, .slice (some ⟨q, 0, none⟩) 1 1] w fun e w' => ∃ A n c, e = .returned (.slice A n c) ∧ Ext w w' := by
 have hS : Src w (.slice (some ⟨q, 0, none⟩) 1 1) 1 ([b].flatMap fun b => [Value.pointer (some ⟨b, 0, none⟩)]) :=
  ⟨_, 1, rfl, (fun h => by cases h), fun j u hu => ⟨q, 0, rfl, by
   match j, hu with
   | 0, hu => obtain rfl := Option.some.inj hu; exact hr.cell (i := 0) rfl
   | j + 1, hu => simp at hu⟩⟩
 have HS := hx hS
 have tyM : TyOk Tryz.prog 196 192 1 8 (.pointer none) := ⟨Tryz.underlying196, by kernel_rfl, rfl⟩
 have encM : EncOk 1 (fun b : Nat => [Value.pointer (some ⟨b, 0, none⟩)]) := ⟨fun _ => rfl, fun x u hu => by simp at hu; subst hu; rfl, by decide⟩
 have HT := hx tyM
 have HE := hx encM
 clear hS tyM encM hr
 go_enter Tryz.func104, Tryz.ntmps104
 go_wp2_with (at_builtin; refine wp_appS (l := ([] : List Nat)) (l2 := [b]) HT.out HE.out (Own.nil _ _ _ _ w.heap.size) HS.out rfl rfl rfl rfl (Nat.le_refl _) (by simp) (by simp) ?_; intro v1 w1 o1 g1 a1)
 obtain ⟨A1, c1, rfl⟩ := o1.slice
 go_ret
 exact ⟨A1, _, c1, rfl, (Ext.refl w).grown g1 (fun k hk => by simp [Value.ownBlock] at hk)⟩
theorem setCell_grown (w : World) (g i : Nat) (v : Value) : w.grownBy (w.setCell ⟨g, i, none⟩ v) (some g) :=
 ⟨rfl, rfl, rfl, by simp, fun k hk hne => by
  simp only [World.setCell, Array.getElem?_modify]
  rw [if_neg (fun e => hne (by rw [e]))]⟩
set_option maxRecDepth 40000 in
set_option maxHeartbeats 4000000 in
/-- Add of a first region. -/
theorem memAdd_first (m : Nat) (A : Option Addr) (n c : Nat) (base : Int) (data : List Int) (w : World) (hm : RowV w m 200 [.slice none 0 0, .func (.func 101) #[] #[]]) (hd : IsB w (.slice A n c) data) (hp : 0 < n) (hs : n ≤ 100000) (h0 : 0 ≤ base) (hb : base ≤ 1000000000000000000) :
  Calls Tryz.prog 68 #[.pointer (some ⟨m, 0, none⟩), .int .u64 base, .slice A n c] w fun e w' => e = .returned (.bool true) ∧ ∃ v, RowV w' m 200 [v, .func (.func 101) #[] #[]] ∧ w.grownBy w' (some m) := by
 have hn := hd.len_eq.1
 have HC := hx (cloneB_any _ data w hd (by omega))
 have w1 : IntKind.u64.wrap (base + (n : Int)) = base + n := wrap_u64 _ (by omega) (by omega)
 have w2 : IntKind.u64.wrap (base + (n : Int) - 1) = base + n - 1 := wrap_u64 _ (by omega) (by omega)
 have w3 : IntKind.u64.wrap (n : Int) = n := wrap_u64 _ (by omega) (by omega)
 have d0 : ((n : Int) == 0) = false := beq_eq_false_iff_ne.2 (by omega)
 have d1 : decide (base + (n : Int) - 1 < base) = false := decide_eq_false (by omega)
 have HM := hx hm
 have HP := hx hp
 have HS := hx hs
 have H0 := hx h0
 have HB := hx hb
 have HN := hx hn
 clear hd hn hm hp hs h0 hb
 go_enter Tryz.func68, Tryz.ntmps68
 go_wp2_with fail
 refine HC.out.mono ?_
 rintro e w1' ⟨v', rfl, ov, e1⟩
 obtain ⟨A', c', rfl⟩ := ov.slice
 rw [HN.out] at ov ⊢
 clear HC w1 w2 w3 d0 d1
 go_upto_region 4 with fail
 obtain ⟨W2, hW2⟩ : ∃ W2, W2 = w1'.alloc (.cells #[.int .u64 base, .slice A' n c'] 194) := ⟨_, rfl⟩
 rw [← hW2]
 have e2 : Ext w W2 := by rw [hW2]; exact e1.alloc _
 have r2 : RowV W2 w1'.heap.size 194 [.int .u64 base, .slice A' n c'] := by rw [hW2]; exact RowV.new _ _ _
 have m2 : RowV W2 m 200 [.slice none 0 0, .func (.func 101) #[] #[]] := HM.out.ext e2
 have HE := hx fun (W : World) (hW : Ext W2 W) => (regEnd_any w1'.heap.size base n c' A' W (r2.ext hW) H0.out HP.out (Nat.le_trans HS.out (by decide)) (by have := HB.out; have := HS.out; omega)).mono (R' := fun e w' => e = .returned (.int .u64 (base + n - 1)) ∧ Ext W w') fun e w' ⟨h1, k, h2⟩ => ⟨h1, by rw [h2]; exact (Ext.refl W).drewN k⟩
 have HA := hx fun (W : World) (a : Int) (hW : Ext W2 W) => memAt0_any m a W (m2.ext hW)
 have E2 := hx e2
 have M2 := hx m2
 have hd2 : Ext W2 W2.drew := (Ext.refl W2).drew
 have hr2 : Ext W2 W2 := Ext.refl W2
 obtain ⟨rb, hrb⟩ : ∃ rb, rb = w1'.heap.size := ⟨_, rfl⟩
 rw [← hrb] at HE ⊢
 clear hrb hW2 e1 ov r2 m2 e2
 go_region_held3 (fun w' => w'.cell? ⟨m, 0, none⟩ = some (.slice none 0 0)) (first | exact (M2.out.ext (by assumption)).cell (i := 0) rfl)
  (first
   | (go_at_call 103; refine (HE.out _ (by assumption)).mono ?_; rintro e wA ⟨rfl, eA⟩; have fA : Ext W2 wA := Ext.trans (by assumption) eA; clear HE)
   | (go_at_call 102; refine (HA.out _ _ (by assumption)).mono ?_; rintro e wB ⟨rfl, eB⟩; have fB : Ext W2 wB := Ext.trans (by assumption) eB; clear HA))
 all_goals
  have m5 := M2.out.ext fB
  have q5 := m5.cell (i := 0) rfl
  have HI := hx (insert0_any rb wB.heap.size _ (RowV.new wB [.pointer (some ⟨rb, 0, none⟩)] 192))
  have M5 := hx m5
  have FB := hx (E2.out.trans fB)
  clear hd2 hr2 eA fA eB fB m5
  go_wp2_with fail
  refine HI.out.mono ?_
  rintro e w6 ⟨A6, n6, c6', rfl, e6⟩
  have x6 := FB.out.trans ((Ext.new wB _).trans e6)
  have m6 := M5.out.ext ((Ext.new wB _).trans e6)
  have z6 := m6.frozen 0
  have c6 := m6.cell (i := 0) rfl
  clear HI
  go_wp2
  go_ret
  exact ⟨rfl, _, m6.set 0 _, (x6.toGrown (some m)).trans (setCell_grown w6 m 0 _)⟩
/-- Add of no bytes. -/
theorem memAdd_nil (m : Nat) (base : Int) (w : World) :
  Calls Tryz.prog 68 #[.pointer (some ⟨m, 0, none⟩), .int .u64 base, .slice none 0 0] w fun e w' => e = .returned (.bool false) ∧ w' = w := by
 go_enter Tryz.func68, Tryz.ntmps68
 go_wp2
 go_ret
 exact ⟨rfl, rfl⟩
/-- maps.New without maps. -/
theorem mapsNew0_any (m : Nat) (w : World) :
  Calls Tryz.prog 69 #[.pointer (some ⟨m, 0, none⟩), .slice none 0 0] w fun e w' => e = .returned (.tuple #[.pointer (some ⟨w.heap.size, 0, none⟩), .int .i64 0]) ∧ w' = w.alloc (.cells #[.slice none 0 0, .pointer (some ⟨m, 0, none⟩)] 111) := by
 go_enter Tryz.func69, Tryz.ntmps69
 go_wp2
 go_loop [19] (fun i => i = .int .i64 0) (fun _ => 0)
 case atStart => rfl
 case round =>
  subst hrel
  go_wp2
  go_ret2
  exact ⟨rfl, rfl⟩
end Go.Proofs.YtmnbalbiehlkpaaGreatDoor


set_option linter.unusedVariables false
set_option linter.unusedSimpArgs false
namespace Go.Proofs.YtmnbalbiehlkpaaGreatDoor
open Go.RowKit Go.Lib

/-- The bytes of a stack. -/
def z512 : Array Value := madeCells (Value.cells (.int .u8 0)) (512 * 1)
theorem run_mk512 (W : World) : (Instr.makeSlice 26 (.int .i64 512) (.int .i64 512)).run Tryz.prog W = .ok (.slice (some ⟨W.heap.size, 0, none⟩) 512 512) (W.alloc (.cells z512 5)) := by
  obtain ⟨i, hi, hz⟩ := Option.map_eq_some_iff.1 (tyB.hi : (Tryz.prog.info? 5).map _ = _)
  simp only [Prod.mk.injEq] at hz
  have h := run_makeSlice (P := Tryz.prog) (w := W) 26 5 i (.int .u8 0) tyB.ht hi hz.1 .i64 .i64 512 512 (by omega) (by omega) (by rw [hz.2.1]; decide) (by rw [hz.2.2]; decide) (by omega)
  rw [hz.2.1] at h
  exact h
theorem z512_at (i : Nat) (h : i < 512) : z512[i]? = some (.int .u8 0) := by
  unfold z512 madeCells
  simp [h]
  rw [show (Value.int IntKind.u8 0).cells = #[Value.int IntKind.u8 0] from rfl]
  simp [Nat.mod_one]
theorem isB512 {W W' : World} (he : Ext (W.alloc (.cells z512 5)) W') : IsB W' (.slice (some ⟨W.heap.size, 0, none⟩) 512 512) (List.replicate 512 0) := by
  have hl : (List.replicate 512 (0 : Int)).length = 512 := List.length_replicate
  refine IsB.ext ⟨_, 512, by rw [hl], ⟨by rw [hl]; exact Nat.le_refl _, by simp only [maxLen]; omega⟩, by rw [hl]; omega, (fun h => by cases h), fun i x hx => ⟨W.heap.size, 0, rfl, ?_⟩⟩ he
  have hi : i < 512 := by have := (List.getElem?_eq_some_iff.1 hx).1; rwa [hl] at this
  obtain rfl : x = 0 := by
    rw [List.getElem?_replicate, if_pos hi] at hx
    exact (Option.some.inj hx).symm
  exact ⟨by simp [z512_at i hi], by decide, by decide⟩
/-- The cells of a state at its start. -/
def stV (vm vt : Value) (k q f a : Int) : List Value := [vm, vt, .int .u64 0, .int .u64 8589934592, .int .u64 0, .int .u64 0, .int .u64 0, .int .u64 0, .int .u64 0, .int .u64 0, .int .u64 0, .int .u64 0, .int .u64 4294967808, .int .i64 k, .int .u64 q, .int .i64 f, .int .i64 a]
def st0 (vm vt : Value) (a b c : Int) : List Value := [vm, vt, .int .u64 0, .int .u64 a, .int .u64 b, .int .u64 0, .int .u64 0, .int .u64 0, .int .u64 0, .int .u64 0, .int .u64 0, .int .u64 0, .int .u64 c, .int .i64 2, .int .u64 0, .int .i64 0, .int .i64 0]
/-- What start leaves. -/
def StartP (w : World) (e : Ending) (w' : World) : Prop := ∃ s vm vt, e = .returned (.tuple #[.pointer (some ⟨s, 0, none⟩), .int .i64 0]) ∧ RowV w' s 68 (stV vm vt 2 0 0 0) ∧ w.heap.size ≤ s ∧ Ext w w'
set_option maxRecDepth 40000 in
set_option maxHeartbeats 8000000 in
theorem symStart0_any (A : Option Addr) (n c : Nat) (fu : Int) (w : World) :
    Calls Tryz.prog 34 #[.agg #[.slice none 0 0, .slice A n c], .agg #[.slice none 0 0, .slice none 0 0, .int .i64 fu]] w (StartP w) := by
  have HN := hx (memNew_any)
  obtain ⟨W0, hW0⟩ : ∃ W0, W0 = ((w.alloc (.cells #[.slice none 0 0, .slice A n c] 25)).alloc (.cells #[.slice none 0 0, .slice none 0 0, .int .i64 fu] 29)) := ⟨_, rfl⟩
  have e0 : Ext w W0 := by rw [hW0]; exact (Ext.new w _).alloc _
  have r0 : RowV W0 w.heap.size 25 [.slice none 0 0, .slice A n c] := by rw [hW0]; exact (RowV.new _ _ _).ext (Ext.new _ _)
  have r1 : RowV W0 (w.heap.size + 1) 29 [.slice none 0 0, .slice none 0 0, .int .i64 fu] := by
    rw [hW0]
    have h := RowV.new (w.alloc (.cells #[.slice none 0 0, .slice A n c] 25)) [.slice none 0 0, .slice none 0 0, .int .i64 fu] 29
    rwa [World.size_alloc] at h
  have HW0 := hx hW0
  clear hW0
  go_enter Tryz.func34, Tryz.ntmps34
  go_wp2_with fail
  rw [← HW0.out]
  refine (HN.out _).mono ?_
  rintro e w1 ⟨rfl, hw1⟩
  obtain ⟨m, hm⟩ : ∃ m, m = W0.heap.size := ⟨_, rfl⟩
  rw [← hm]
  have m1 : RowV w1 m 200 [.slice none 0 0, .func (.func 101) #[] #[]] := by rw [hw1, hm]; exact RowV.new _ _ _
  have e1 : Ext W0 w1 := by rw [hw1]; exact Ext.new _ _
  have M1 := hx m1
  have E1 := hx (e0.trans e1)
  have R0 := hx (r0.ext e1)
  have R1 := hx (r1.ext e1)
  have HB := hx (show w.heap.size + 2 ≤ m by rw [hm, HW0.out]; simp)
  clear hw1 hm r0 r1 e0 e1 m1 HN
  go_upto_region 6 with fail
  obtain ⟨s, hs⟩ : ∃ s, s = w1.heap.size := ⟨_, rfl⟩
  obtain ⟨W2, hW2⟩ : ∃ W2, W2 = w1.alloc (.cells #[.pointer (some ⟨m, 0, none⟩), .pointer none, .int .u64 0, .int .u64 0, .int .u64 0, .int .u64 0, .int .u64 0, .int .u64 0, .int .u64 0, .int .u64 0, .int .u64 0, .int .u64 0, .int .u64 0, .int .i64 2, .int .u64 0, .int .i64 0, .int .i64 0] 68) := ⟨_, rfl⟩
  have HS := hx (show m < s by rw [hs]; exact M1.out.lt)
  have s2 : RowV W2 s 68 (st0 (.pointer (some ⟨m, 0, none⟩)) (.pointer none) 0 0 0) := by rw [hW2, hs]; exact RowV.new _ _ _
  have m2 := M1.out.ext (show Ext w1 W2 by rw [hW2]; exact Ext.new _ _)
  have E2 := hx (E1.out.trans (show Ext w1 W2 by rw [hW2]; exact Ext.new _ _))
  have R02 := hx (R0.out.ext (show Ext w1 W2 by rw [hW2]; exact Ext.new _ _))
  have R12 := hx (R1.out.ext (show Ext w1 W2 by rw [hW2]; exact Ext.new _ _))
  have S2 := hx s2
  have M2 := hx m2
  rw [← hW2, ← hs]
  clear hW2 hs s2 m2 M1 R0 R1 E1
  have hr2 : Ext W2 W2 := Ext.refl _
  have hd2 : Ext W2 W2.drew := (Ext.refl _).drew
  have hmk := run_mk512
  have HA := hx fun (W W1 : World) (hW : Ext W2 W) (h1 : Ext (W.alloc (.cells z512 5)) W1) => memAdd_first m (some ⟨W.heap.size, 0, none⟩) 512 512 4294967296 (List.replicate 512 0) W1 (M2.out.ext ((hW.alloc _).trans h1)) (isB512 h1) (by omega) (by omega) (by omega) (by omega)
  go_region_held3 (fun w' => w'.cell? ⟨s, 0, none⟩ = some (.pointer (some ⟨m, 0, none⟩))) (first | exact (S2.out.ext (by assumption)).cell (i := 0) rfl | exact (S2.out.ext (Ext.alloc (by assumption) _)).cell (i := 0) rfl | exact hcs)
    (first
      | (go_at_call 68; refine (HA.out _ _ (by assumption) (by first | exact Ext.refl _ | exact (Ext.refl _).drew)).mono ?_; rintro e wB ⟨rfl, vB, mB, gB⟩
         have sB : RowV wB s 68 (st0 (.pointer (some ⟨m, 0, none⟩)) (.pointer none) 0 0 0) := RowV.keep (S2.out.ext (by repeat (first | exact Ext.refl _ | apply Ext.drew | apply Ext.alloc))) gB (by have := HS.out; simp; omega)
         have pB : RowV wB w.heap.size 25 [.slice none 0 0, .slice A n c] := RowV.keep (R02.out.ext (by repeat (first | exact Ext.refl _ | apply Ext.drew | apply Ext.alloc))) gB (by have := HB.out; simp; omega)
         have iB : RowV wB (w.heap.size + 1) 29 [.slice none 0 0, .slice none 0 0, .int .i64 fu] := RowV.keep (R12.out.ext (by repeat (first | exact Ext.refl _ | apply Ext.drew | apply Ext.alloc))) gB (by have := HB.out; simp; omega)
         have xB : Ext w wB := Ext.grown (E2.out.trans (by repeat (first | exact Ext.refl _ | apply Ext.drew | apply Ext.alloc))) gB (fun k hk => by cases hk; have := HB.out; omega)
         have hcs := sB.cell (i := 0) rfl
         clear HA))
  all_goals
    clear hmk hr2 hd2 S2 M2 R02 R12 E2 gB
    have SB := hx sB
    have PB := hx pB
    have IB := hx iB
    have XB := hx xB
    have q1 := iB.cell (i := 0) rfl
    have HL := hx fun (W : World) (hW : Ext wB W) => And.intro ((SB.out.ext hW).cell (i := 0) rfl) ((IB.out.ext hW).cell (i := 0) rfl)
    have HZ := hx fun W => memAdd_nil m 8589934592 W
    clear sB pB iB xB
    have hr2 : Ext wB wB := Ext.refl _
    have hd2 : Ext wB wB.drew := (Ext.refl _).drew
    go_upto_region 7 with fail
    go_region_held3 (fun w' => w'.cell? ⟨s, 0, none⟩ = some (.pointer (some ⟨m, 0, none⟩)) ∧ w'.cell? ⟨w.heap.size + 1, 0, none⟩ = some (.slice none 0 0)) (exact HL.out _ (by assumption))
      (first
        | (go_at_call 68; refine (HZ.out _).mono ?_; rintro e wC ⟨rfl, hwC⟩; have xC : Ext wB wC := (by rw [hwC]; exact (Ext.refl _).drew); clear hwC HZ))
    all_goals
      have SC := hx (SB.out.ext xC)
      have PC := hx (PB.out.ext xC)
      have IC := hx (IB.out.ext xC)
      have XC := hx (XB.out.trans xC)
      clear SB PB IB XB hr2 hd2 q1 hcs HL xC mB
      have HK := hx fun W => mapsNew0_any m W
      have HL := hx fun (W : World) (hW : Ext wC W) => And.intro ((SC.out.ext hW).cell (i := 0) rfl) ((PC.out.ext hW).cell (i := 0) rfl)
      have hr2 : Ext wC wC := Ext.refl _
      have hd2 : Ext wC wC.drew := (Ext.refl _).drew
      go_upto_region 8 with fail
      go_region_held3 (fun w' => w'.cell? ⟨s, 0, none⟩ = some (.pointer (some ⟨m, 0, none⟩)) ∧ w'.cell? ⟨w.heap.size, 0, none⟩ = some (.slice none 0 0)) (first | exact HL.out _ (by assumption))
        (first
          | (go_at_call 69; refine (HK.out _).mono ?_; rintro e wD ⟨rfl, hwD⟩; have xD : Ext wC wD := by (rw [hwD]; exact Ext.alloc (by assumption) _)
             clear HK hwD))
      all_goals
        have SD := hx (SC.out.ext xD)
        have ID := hx (IC.out.ext xD)
        have XD := hx (XC.out.trans xD)
        have q1 := ID.out.cell (i := 1) rfl
        clear SC PC IC XC hr2 hd2 HL xD
        have z1 := SD.out.frozen 1
        have c1 := SD.out.cell (i := 1) rfl
        have p0 := ID.out.cell (i := 0) rfl
        obtain ⟨tm, htm⟩ : ∃ tm, tm = wC.heap.size := ⟨_, rfl⟩
        rw [← htm]
        clear htm
        go_wp2
        go_loop [57] (fun i => i = .int .i64 0) (fun _ => 0)
        case atStart => rfl
        case round =>
          subst hrel
          go_upto_region 22 with fail
          have s4 := SD.out.set 1 (.pointer (some ⟨tm, 0, none⟩))
          have i4 := ID.out.keep (setCell_grown wD s 1 (.pointer (some ⟨tm, 0, none⟩))) (by have := HB.out; have := HS.out; simp; omega)
          have x4 := XD.out.setCell (a := ⟨s, 1, none⟩) (.pointer (some ⟨tm, 0, none⟩)) (by have := HB.out; have := HS.out; simp; omega)
          obtain ⟨W4, hW4⟩ : ∃ W4, W4 = wD.setCell ⟨s, 1, none⟩ (.pointer (some ⟨tm, 0, none⟩)) := ⟨_, rfl⟩
          rw [← hW4] at s4 i4 x4 ⊢
          have X4 := hx x4
          have S4 := hx s4
          have z3 := s4.frozen 3
          have z4 := s4.frozen 4
          have z12 := s4.frozen 12
          have c3 := s4.cell (i := 3) rfl
          have c4 := s4.cell (i := 4) rfl
          have c12 := s4.cell (i := 12) rfl
          have p4 := i4.cell (i := 0) rfl
          clear hW4 s4 i4 x4 z1 c1 p0 q1 SD ID XD
          go_region_with (fail)
          all_goals
            go_wp2
            go_ret2
            refine ⟨s, .pointer (some ⟨m, 0, none⟩), .pointer (some ⟨tm, 0, none⟩), rfl, ?_, by have := HB.out; have := HS.out; omega, (Ext.setCell (Ext.setCell (Ext.setCell X4.out _ (by have := HB.out; have := HS.out; simp; omega)) _ (by have := HB.out; have := HS.out; simp; omega)) _ (by have := HB.out; have := HS.out; simp; omega)).drew⟩
            first | exact (((S4.out.set 3 _).set 4 _).set 12 _).ext ((Ext.refl _).drew) | exact (((S4.out.set 3 _).set 12 _).set 4 _).ext ((Ext.refl _).drew) | exact (((S4.out.set 4 _).set 3 _).set 12 _).ext ((Ext.refl _).drew) | exact (((S4.out.set 4 _).set 12 _).set 3 _).ext ((Ext.refl _).drew) | exact (((S4.out.set 12 _).set 3 _).set 4 _).ext ((Ext.refl _).drew) | exact (((S4.out.set 12 _).set 4 _).set 3 _).ext ((Ext.refl _).drew)
end Go.Proofs.YtmnbalbiehlkpaaGreatDoor


set_option linter.unusedVariables false
set_option linter.unusedSimpArgs false
namespace Go.Proofs.YtmnbalbiehlkpaaGreatDoor
open Go.RowKit Go.Lib

theorem condGo_any (x : Ins) (a b : Int) (w : World) (hf : formN x.op = 3) (hi : I64 x.op) (hO : OpsN w) :
  Calls Tryz.prog 119 #[x.v, .int .u64 a, .int .u64 b] w fun e w' => e = .returned (.bool true) ∧ Ext w w' := by
 obtain ⟨op, reg, n1, n2, n3, n4⟩ := x
 dsimp only at hf hi
 have HF := hx fun (W : World) (hW : Ext w W) => opForm_any op W hi (hO.ext hW)
 rw [hf] at HF
 unfold Ins.v
 clear hf hi hO
 go_enter Tryz.func119, Tryz.ntmps119
 go_wp2_with fail
 refine (HF.out _ (Ext.new _ _)).mono ?_
 rintro e w1 ⟨rfl, e1⟩
 have x1 := (Ext.new w _).trans e1
 go_wp2
 go_ret
 exact ⟨rfl, x1⟩
/-- The action of a jump. -/
def GoAt (w : World) (v : Value) (x : Ins) (tgt nxt : Int) : Prop := ∃ b c d, v = .func (.func 118) #[] #[.pointer (some ⟨b, 0, none⟩), .pointer (some ⟨c, 0, none⟩), .pointer (some ⟨d, 0, none⟩)] ∧ RowV w b 53 x.enc ∧ RowV w c 3 [.int .i64 tgt] ∧ RowV w d 3 [.int .i64 nxt]
/-- Its variables lie behind n. -/
def GoLo (n : Nat) (v : Value) : Prop := ∀ b c d, v = .func (.func 118) #[] #[.pointer (some ⟨b, 0, none⟩), .pointer (some ⟨c, 0, none⟩), .pointer (some ⟨d, 0, none⟩)] → n ≤ b ∧ n ≤ c ∧ n ≤ d
def CompP (w : World) (x : Ins) (tgt nxt : Int) (e : Ending) (w' : World) : Prop := ∃ v, e = .returned v ∧ GoAt w' v x tgt nxt ∧ GoLo w.heap.size v ∧ Ext w w'
set_option maxRecDepth 40000 in
set_option maxHeartbeats 4000000 in
theorem compGo_any (x : Ins) (i tgt h : Int) (w : World) (hf : formN x.op = 3) (hi : I64 x.op) (hii : 0 ≤ i ∧ i ≤ 1000000) (hO : OpsN w) :
  Calls Tryz.prog 73 #[x.v, .int .i64 i, .int .i64 tgt, .int .u64 h] w (CompP w x tgt (i + 1)) := by
 obtain ⟨op, reg, n1, n2, n3, n4⟩ := x
 dsimp only at hf hi
 have HF := hx fun (W : World) (hW : Ext w W) => opForm_any op W hi (hO.ext hW)
 rw [hf] at HF
 unfold Ins.v
 obtain ⟨hi0, hi1⟩ := hii
 clear hf hi hO
 obtain ⟨W1, hW1⟩ : ∃ W1, W1 = (((((w.alloc (.cells #[.int .i64 op, .bool reg, .int .i64 n1, .int .i64 n2, .int .i64 n3, .int .i64 n4] 53)).alloc (.cells #[.int .i64 i] 3)).alloc (.cells #[.int .i64 tgt] 3)).alloc (.cells #[.int .u64 h] 33)).alloc (.cells #[.int .i64 (i + 1)] 3)) := ⟨_, rfl⟩
 have x1 : Ext w W1 := by rw [hW1]; exact ((((Ext.new _ _).alloc _).alloc _).alloc _).alloc _
 have r1 : RowV W1 w.heap.size 53 [.int .i64 op, .bool reg, .int .i64 n1, .int .i64 n2, .int .i64 n3, .int .i64 n4] := by rw [hW1]; exact (RowV.new _ _ _).ext ((((Ext.new _ _).alloc _).alloc _).alloc _)
 have r2 : RowV W1 (w.heap.size + 1 + 1) 3 [.int .i64 tgt] := by
  rw [hW1]
  have h := RowV.new ((w.alloc (.cells #[.int .i64 op, .bool reg, .int .i64 n1, .int .i64 n2, .int .i64 n3, .int .i64 n4] 53)).alloc (.cells #[.int .i64 i] 3)) [.int .i64 tgt] 3
  rw [World.size_alloc, World.size_alloc] at h
  exact h.ext ((Ext.new _ _).alloc _)
 have r3 : RowV W1 (w.heap.size + 1 + 1 + 1 + 1) 3 [.int .i64 (i + 1)] := by
  rw [hW1]
  have h := RowV.new ((((w.alloc (.cells #[.int .i64 op, .bool reg, .int .i64 n1, .int .i64 n2, .int .i64 n3, .int .i64 n4] 53)).alloc (.cells #[.int .i64 i] 3)).alloc (.cells #[.int .i64 tgt] 3)).alloc (.cells #[.int .u64 h] 33)) [.int .i64 (i + 1)] 3
  rw [World.size_alloc, World.size_alloc, World.size_alloc, World.size_alloc] at h
  exact h
 have HW1 := hx hW1
 have X1 := hx x1
 clear hW1 x1
 go_enter Tryz.func73, Tryz.ntmps73
 go_wp2_with fail
 rw [← HW1.out]
 refine (HF.out _ X1.out).mono ?_
 rintro e w2 ⟨rfl, e2⟩
 have r1' := hx (r1.ext e2)
 have r2' := hx (r2.ext e2)
 have r3' := hx (r3.ext e2)
 have X2 := hx (X1.out.trans e2)
 clear r1 r2 r3 e2
 go_wp2
 go_ret
 exact ⟨_, rfl, ⟨_, _, _, rfl, r1'.out, r2'.out, r3'.out⟩, (fun b c d h => by
  cases h
  omega), X2.out⟩
set_option maxRecDepth 40000 in
set_option maxHeartbeats 4000000 in
theorem compExit_any (x : Ins) (i tgt h : Int) (w : World) (hf : formN x.op = 6) (hi : I64 x.op) (hii : 0 ≤ i ∧ i ≤ 1000000) (hO : OpsN w) :
  Calls Tryz.prog 73 #[x.v, .int .i64 i, .int .i64 tgt, .int .u64 h] w fun e w' => e = .returned (.func (.func 122) #[] #[]) ∧ Ext w w' := by
 obtain ⟨op, reg, n1, n2, n3, n4⟩ := x
 dsimp only at hf hi
 have HF := hx fun (W : World) (hW : Ext w W) => opForm_any op W hi (hO.ext hW)
 rw [hf] at HF
 unfold Ins.v
 obtain ⟨hi0, hi1⟩ := hii
 clear hf hi hO
 go_enter Tryz.func73, Tryz.ntmps73
 go_wp2_with fail
 refine (HF.out _ (((((Ext.new _ _).alloc _).alloc _).alloc _).alloc _)).mono ?_
 rintro e w2 ⟨rfl, e2⟩
 have X2 := hx ((((((Ext.new w _).alloc _).alloc _).alloc _).alloc _).trans e2)
 clear e2
 go_wp2
 go_ret
 exact ⟨rfl, X2.out⟩
/-- The action of a jump, performed. -/
theorem runGo_any (s b c d : Nat) (vm vt : Value) (k q f a : Int) (op : Int) (tgt nxt : Int) (w : World) (hf : formN op = 3) (hi : I64 op) (hs : RowV w s 68 (stV vm vt k q f a))
  (h1 : RowV w b 53 [.int .i64 op, .bool false, .int .i64 0, .int .i64 0, .int .i64 0, .int .i64 0]) (h2 : RowV w c 3 [.int .i64 tgt]) (h3 : RowV w d 3 [.int .i64 nxt]) (hO : OpsN w) :
  Calls Tryz.prog 118 #[.pointer (some ⟨s, 0, none⟩), .pointer (some ⟨b, 0, none⟩), .pointer (some ⟨c, 0, none⟩), .pointer (some ⟨d, 0, none⟩)] w fun e w' => e = .returned (.int .i64 tgt) ∧ Ext w w' := by
 have HC := hx fun (W : World) (hW : Ext w W) => condGo_any ⟨op, false, 0, 0, 0, 0⟩ 0 0 W hf hi (hO.ext hW)
 unfold Ins.v at HC
 have q2 := hs.cell (i := 2) rfl
 have b0 := h1.cell (i := 0) rfl
 have b1 := h1.cell (i := 1) rfl
 have b2 := h1.cell (i := 2) rfl
 have b3 := h1.cell (i := 3) rfl
 have b4 := h1.cell (i := 4) rfl
 have b5 := h1.cell (i := 5) rfl
 have H2 := hx h2
 have hr2 : Ext w w := Ext.refl _
 have hd2 : Ext w w.drew := (Ext.refl _).drew
 have HL := hx fun (W : World) (hW : Ext w W) => And.intro (hW.cell q2) (And.intro (hW.cell b0) (And.intro (hW.cell b1) (And.intro (hW.cell b2) (And.intro (hW.cell b3) (And.intro (hW.cell b4) (hW.cell b5))))))
 clear hs h1 h2 h3 hf hi hO q2 b0 b1 b2 b3 b4 b5
 go_enter Tryz.func118, Tryz.ntmps118
 go_upto_region 1 with fail
 go_region_held3 (fun w' => w'.cell? ⟨s, 2, none⟩ = some (.int .u64 0) ∧ w'.cell? ⟨b, 0, none⟩ = some (.int .i64 op) ∧ w'.cell? ⟨b, 1, none⟩ = some (.bool false) ∧ w'.cell? ⟨b, 2, none⟩ = some (.int .i64 0) ∧ w'.cell? ⟨b, 3, none⟩ = some (.int .i64 0) ∧ w'.cell? ⟨b, 4, none⟩ = some (.int .i64 0) ∧ w'.cell? ⟨b, 5, none⟩ = some (.int .i64 0)) (first | exact HL.out _ (by assumption))
  (first
   | (go_at_call 119; refine (HC.out _ (by assumption)).mono ?_; rintro e wA ⟨rfl, eA⟩; have fA : Ext w wA := Ext.trans (by assumption) eA; clear HC))
 all_goals
  have c0 := (H2.out.ext fA).cell (i := 0) rfl
  go_wp2
  go_ret
  exact ⟨rfl, fA⟩
/-- The action of an exit, performed. -/
theorem runExit_any (s : Nat) (vm vt : Value) (k q f a : Int) (w : World) (hs : RowV w s 68 (stV vm vt k q f a)) :
  Calls Tryz.prog 122 #[.pointer (some ⟨s, 0, none⟩)] w fun e w' => e = .returned (.int .i64 (-1)) ∧ RowV w' s 68 (stV vm vt 0 0 0 0) ∧ w.grownBy w' (some s) := by
 have q2 := hs.cell (i := 2) rfl
 have q13 := hs.cell (i := 13) rfl
 have q14 := hs.cell (i := 14) rfl
 have q15 := hs.cell (i := 15) rfl
 have q16 := hs.cell (i := 16) rfl
 have z13 := hs.frozen 13
 have z14 := hs.frozen 14
 have z15 := hs.frozen 15
 have z16 := hs.frozen 16
 have HS := hx hs
 clear hs
 go_enter Tryz.func122, Tryz.ntmps122
 go_wp2
 go_ret
 exact ⟨rfl, ((((HS.out.set 13 _).set 14 _).set 15 _).set 16 _), (((setCell_grown w s 13 _).trans (setCell_grown _ s 14 _)).trans (setCell_grown _ s 15 _)).trans (setCell_grown _ s 16 _)⟩
end Go.Proofs.YtmnbalbiehlkpaaGreatDoor


set_option linter.unusedVariables false
set_option linter.unusedSimpArgs false
namespace Go.Proofs.YtmnbalbiehlkpaaGreatDoor
open Go.RowKit

end Go.Proofs.YtmnbalbiehlkpaaGreatDoor


set_option linter.unusedVariables false
set_option linter.unusedSimpArgs false
namespace Go.Proofs.YtmnbalbiehlkpaaGreatDoor
open Go.RowKit

end Go.Proofs.YtmnbalbiehlkpaaGreatDoor


set_option linter.unusedVariables false
namespace Go.Proofs.YtmnbalbiehlkpaaGreatDoor
open Go.RowKit
end Go.Proofs.YtmnbalbiehlkpaaGreatDoor


set_option linter.unusedVariables false
set_option linter.unusedSimpArgs false
namespace Go.Proofs.YtmnbalbiehlkpaaGreatDoor
open Go.RowKit

theorem fBad_key (u : Bool) (n : Int) : (u = false ∧ (n == 0) = false ∧ (n != 0) = true ∧ fBad u n = true) ∨ (u = true ∧ fBad u n = false) ∨ (u = false ∧ n = 0 ∧ fBad u n = false) := by
 cases u with
 | true => exact .inr (.inl ⟨rfl, rfl⟩)
 | false =>
  by_cases h : n = 0
  ·exact .inr (.inr ⟨rfl, h, by subst h; rfl⟩)
  ·exact .inl ⟨rfl, by simpa using h, by simpa using h, by simp [fBad, h]⟩
theorem rule1_any (n : Int) (w : World) : Calls Tryz.prog 256 #[.int .i64 n] w fun e w' => e = .returned (.bool (regOk n)) ∧ w' = w := by
 by_cases h0 : 0 ≤ n
 ·have d0 : decide (n ≥ 0) = true := decide_eq_true h0
  by_cases h1 : n < 11
  ·have d1 : decide (n < 11) = true := decide_eq_true h1
   have hr : regOk n = true := decide_eq_true ⟨h0, by omega⟩
   rw [hr]
   go_enter Tryz.func256, Tryz.ntmps256
   go_wp2
   go_ret
   exact ⟨rfl, rfl⟩
  ·have d1 : decide (n < 11) = false := decide_eq_false h1
   have hr : regOk n = false := decide_eq_false (by omega)
   rw [hr]
   go_enter Tryz.func256, Tryz.ntmps256
   go_wp2
   go_ret
   exact ⟨rfl, rfl⟩
 ·have d0 : decide (n ≥ 0) = false := decide_eq_false h0
  have hr : regOk n = false := decide_eq_false (by omega)
  rw [hr]
  go_enter Tryz.func256, Tryz.ntmps256
  go_wp2
  go_ret
  exact ⟨rfl, rfl⟩
abbrev xCells (x : Ins) : Obj := .cells #[.int .i64 x.op, .bool x.reg, .int .i64 x.dst, .int .i64 x.src, .int .i64 x.off, .int .i64 x.imm] 53
abbrev fCells (u1 u2 u3 u4 : Bool) : Obj := .cells #[.bool u1, .bool u2, .bool u3, .bool u4] 290
abbrev fV (u1 u2 u3 u4 : Bool) : Value := .agg #[.bool u1, .bool u2, .bool u3, .bool u4]
set_option maxRecDepth 40000 in
set_option maxHeartbeats 4000000 in
theorem rule2_any (x : Ins) (u1 u2 u3 u4 : Bool) (w : World) (hx0 : x.Ok) (hO : OpsQ x.op w) :
  Calls Tryz.prog 257 #[x.v, fV u1 u2 u3 u4] w fun e w' => e = .returned (.bool (decide (formN x.op < 0))) ∧ Ext w w' := by
 have e0 := (Ext.new w (xCells x)).alloc (fCells u1 u2 u3 u4)
 have hc := opForm_any x.op _ hx0.op (hO.ext e0)
 unfold Ins.v
 have E0 := hx e0
 have H := hx hc
 generalize formN x.op = F at *
 clear hc hO hx0 e0
 go_enter Tryz.func257, Tryz.ntmps257
 go_wp2_with (go_at_call 65; refine H.out.mono ?_; rintro e w1 ⟨rfl, e1⟩)
 go_ret
 exact ⟨rfl, E0.out.trans e1⟩
set_option maxRecDepth 40000 in
set_option maxHeartbeats 4000000 in
theorem rule3_any (x : Ins) (u1 u2 u3 u4 : Bool) (w : World) (hx0 : x.Ok) (hO : OpsQ x.op w) :
  Calls Tryz.prog 258 #[x.v, fV u1 u2 u3 u4] w fun e w' => e = .returned (.bool (regBad x)) ∧ Ext w w' := by
 obtain ⟨op, reg, n1, n2, n3, n4⟩ := x
 have e0 := (Ext.new w (.cells #[.int .i64 op, .bool reg, .int .i64 n1, .int .i64 n2, .int .i64 n3, .int .i64 n4] 53)).alloc (fCells u1 u2 u3 u4)
 have HC := hx fun (W : World) (hW : Ext w W) => opForm_any op W hx0.op (hO.ext hW)
 unfold Ins.v
 have HB : Hx (regBad ⟨op, reg, n1, n2, n3, n4⟩ = (reg && !(formN op == 0) && !(formN op == 4))) := hx rfl
 have r0 := (RowV.new w [.int .i64 op, .bool reg, .int .i64 n1, .int .i64 n2, .int .i64 n3, .int .i64 n4] 53).ext (Ext.new _ (fCells u1 u2 u3 u4))
 have K0 := hx (r0.cell (i := 0) rfl)
 generalize formN op = F at *
 have E0 := hx e0
 clear hO hx0 e0 r0
 cases reg with
 | false =>
  go_enter Tryz.func258, Tryz.ntmps258
  go_wp2
  go_ret
  exact ⟨ret_bool (by rw [HB.out]; rfl), E0.out⟩
 | true =>
  by_cases h0 : F = 0
  ·subst h0
   go_enter Tryz.func258, Tryz.ntmps258
   go_wp2_with fail
   refine (HC.out _ E0.out).mono ?_
   rintro e w1 ⟨rfl, e1⟩
   go_wp2
   go_ret
   exact ⟨ret_bool (by rw [HB.out]; rfl), E0.out.trans e1⟩
  ·have d0 : (F == 0) = false := by simpa using h0
   have d0' : (F != 0) = true := by simpa using h0
   have D0 := hx d0
   clear h0
   go_enter Tryz.func258, Tryz.ntmps258
   go_wp2_with fail
   refine (HC.out _ E0.out).mono ?_
   rintro e w1 ⟨rfl, e1⟩
   have k1 := e1.cell K0.out
   go_wp2_with fail
   refine (HC.out _ (E0.out.trans e1)).mono ?_
   rintro e w2 ⟨rfl, e2⟩
   go_wp2
   go_ret
   exact ⟨ret_bool (by rw [HB.out, D0.out]; rfl), (E0.out.trans e1).trans e2⟩
set_option maxRecDepth 40000 in
set_option maxHeartbeats 8000000 in
theorem rule4_any (x : Ins) (u1 u2 u3 u4 : Bool) (w : World) :
  Calls Tryz.prog 259 #[x.v, fV u1 u2 u3 u4] w fun e w' => e = .returned (.bool (fBad u1 x.dst || fBad u2 x.src || fBad u3 x.off || fBad u4 x.imm)) ∧ Ext w w' := by
 have E0 := hx ((Ext.new w (xCells x)).alloc (fCells u1 u2 u3 u4))
 obtain ⟨op, reg, n1, n2, n3, n4⟩ := x
 unfold Ins.v
 dsimp only at *
 rcases fBad_key u1 n1 with ⟨rfl, z1, y1, b1⟩ | ⟨rfl, b1⟩ | ⟨rfl, rfl, b1⟩
 ·have B1 := hx b1
  clear b1
  go_enter Tryz.func259, Tryz.ntmps259
  go_wp2
  go_ret
  exact ⟨ret_bool (by rw [B1.out]; rfl), E0.out⟩
 all_goals
  rcases fBad_key u2 n2 with ⟨rfl, z2, y2, b2⟩ | ⟨rfl, b2⟩ | ⟨rfl, rfl, b2⟩
  ·have B1 := hx b1
   have B2 := hx b2
   clear b1 b2
   go_enter Tryz.func259, Tryz.ntmps259
   go_wp2
   go_ret
   exact ⟨ret_bool (by simp [B1.out, B2.out]), E0.out⟩
  all_goals
   rcases fBad_key u3 n3 with ⟨rfl, z3, y3, b3⟩ | ⟨rfl, b3⟩ | ⟨rfl, rfl, b3⟩
   ·have B1 := hx b1
    have B2 := hx b2
    have B3 := hx b3
    clear b1 b2 b3
    go_enter Tryz.func259, Tryz.ntmps259
    go_wp2
    go_ret
    exact ⟨ret_bool (by simp [B1.out, B2.out, B3.out]), E0.out⟩
   all_goals
    rcases fBad_key u4 n4 with ⟨rfl, z4, y4, b4⟩ | ⟨rfl, b4⟩ | ⟨rfl, rfl, b4⟩
    all_goals
     have B1 := hx b1
     have B2 := hx b2
     have B3 := hx b3
     have B4 := hx b4
     clear b1 b2 b3 b4
     go_enter Tryz.func259, Tryz.ntmps259
     go_wp2
     go_ret
     exact ⟨ret_bool (by simp [B1.out, B2.out, B3.out, B4.out]), E0.out⟩
set_option maxRecDepth 40000 in
set_option maxHeartbeats 4000000 in
theorem rule5_any (x : Ins) (u1 u2 u3 u4 : Bool) (g : Nat) (w : World) (hg : OneC w g (.func (.func 256) #[] #[]) 149) :
  Calls Tryz.prog 260 #[x.v, fV u1 u2 u3 u4, .pointer (some ⟨g, 0, none⟩)] w fun e w' => e = .returned (.bool (!(regOk x.dst && regOk x.src))) ∧ Ext w w' := by
 have e0 := (Ext.new w (xCells x)).alloc (fCells u1 u2 u3 u4)
 have kg := (hg.ext e0).cell
 have H1 := hx (fun W => rule1_any x.dst W)
 have H2 := hx (fun W => rule1_any x.src W)
 have E0 := hx e0
 unfold Ins.v
 generalize regOk x.dst = b1 at *
 generalize regOk x.src = b2 at *
 clear e0 hg
 cases b1 with
 | false =>
  go_enter Tryz.func260, Tryz.ntmps260
  go_wp2_with fail
  refine (H1.out _).mono ?_
  rintro e w1 ⟨rfl, rfl⟩
  go_wp2
  go_ret
  exact ⟨ret_bool rfl, E0.out⟩
 | true =>
  go_enter Tryz.func260, Tryz.ntmps260
  go_wp2_with fail
  refine (H1.out _).mono ?_
  rintro e w1 ⟨rfl, rfl⟩
  go_wp2_with fail
  refine (H2.out _).mono ?_
  rintro e w1 ⟨rfl, rfl⟩
  go_wp2
  go_ret
  exact ⟨ret_bool (by simp), E0.out⟩
end Go.Proofs.YtmnbalbiehlkpaaGreatDoor


set_option linter.unusedVariables false
set_option linter.unusedSimpArgs false
namespace Go.Proofs.YtmnbalbiehlkpaaGreatDoor
open Go.RowKit

set_option maxRecDepth 40000 in
set_option maxHeartbeats 4000000 in
theorem insnFits_any (x : Ins) (w : World) (hx0 : x.Ok) (hO : OpsQ x.op w) (hW : WidN w) :
    Calls Tryz.prog 263 #[x.v] w fun e w' => e = .returned (.bool (immOk x)) ∧ Ext w w' := by
  have e0 := Ext.new w (xCells x)
  have hc := opForm_any x.op _ hx0.op (hO.ext e0)
  have HN := hx fun (W : World) (h : Ext w W) => numFits32 x.imm W (hW.ext h) hx0.imm
  have hi : immOk x = if formN x.op = 10 then true else if formN x.op = 5 then decide (1 ≤ x.imm ∧ x.imm ≤ 3) else if formN x.op = 11 then decide (0 ≤ x.imm ∧ x.imm < 255) else fits32 x.imm := rfl
  have k5 : ((w.alloc (xCells x)).cell? ⟨w.heap.size, 5, none⟩ = some (.int .i64 x.imm)) := by simp
  unfold Ins.v
  generalize fits32 x.imm = FB at *
  have K5 := hx k5
  have E0 := hx e0
  clear hO hx0 e0 hW k5
  rcases form_cases x.op with h | h | h | h | h | h | h | h | h | h | h | h | h
  all_goals
    rw [h] at hc hi
    have H := hx hc
    have HI := hx hi
    clear hc hi h
  case inr.inr.inr.inr.inr.inr.inl =>
    by_cases h1 : x.imm ≥ 1
    · have d1 : decide (x.imm ≥ 1) = true := decide_eq_true h1
      by_cases h2 : x.imm ≤ 3
      · have d2 : decide (x.imm ≤ 3) = true := decide_eq_true h2
        have HR := hx (HI.out.trans (by simp; omega : _ = true))
        clear HI
        go_enter Tryz.func263, Tryz.ntmps263
        go_wp2_with (go_at_call 65; refine H.out.mono ?_; rintro e w1 ⟨rfl, e1⟩; have k5 := e1.cell K5.out)
        go_ret
        exact ⟨ret_bool HR.out.symm, E0.out.trans e1⟩
      · have d2 : decide (x.imm ≤ 3) = false := decide_eq_false h2
        have HR := hx (HI.out.trans (by simp; omega : _ = false))
        clear HI
        go_enter Tryz.func263, Tryz.ntmps263
        go_wp2_with (go_at_call 65; refine H.out.mono ?_; rintro e w1 ⟨rfl, e1⟩; have k5 := e1.cell K5.out)
        go_ret
        exact ⟨ret_bool HR.out.symm, E0.out.trans e1⟩
    · have d1 : decide (x.imm ≥ 1) = false := decide_eq_false h1
      have HR := hx (HI.out.trans (by simp; omega : _ = false))
      clear HI
      go_enter Tryz.func263, Tryz.ntmps263
      go_wp2_with (go_at_call 65; refine H.out.mono ?_; rintro e w1 ⟨rfl, e1⟩; have k5 := e1.cell K5.out)
      go_ret
      exact ⟨ret_bool HR.out.symm, E0.out.trans e1⟩
  case inr.inr.inr.inr.inr.inr.inr.inr.inr.inr.inr.inr =>
    by_cases h1 : x.imm ≥ 0
    · have d1 : decide (x.imm ≥ 0) = true := decide_eq_true h1
      by_cases h2 : x.imm < 255
      · have d2 : decide (x.imm < 255) = true := decide_eq_true h2
        have HR := hx (HI.out.trans (by simp; omega : _ = true))
        clear HI
        go_enter Tryz.func263, Tryz.ntmps263
        go_wp2_with (go_at_call 65; refine H.out.mono ?_; rintro e w1 ⟨rfl, e1⟩; have k5 := e1.cell K5.out)
        go_ret
        exact ⟨ret_bool HR.out.symm, E0.out.trans e1⟩
      · have d2 : decide (x.imm < 255) = false := decide_eq_false h2
        have HR := hx (HI.out.trans (by simp; omega : _ = false))
        clear HI
        go_enter Tryz.func263, Tryz.ntmps263
        go_wp2_with (go_at_call 65; refine H.out.mono ?_; rintro e w1 ⟨rfl, e1⟩; have k5 := e1.cell K5.out)
        go_ret
        exact ⟨ret_bool HR.out.symm, E0.out.trans e1⟩
    · have d1 : decide (x.imm ≥ 0) = false := decide_eq_false h1
      have HR := hx (HI.out.trans (by simp; omega : _ = false))
      clear HI
      go_enter Tryz.func263, Tryz.ntmps263
      go_wp2_with (go_at_call 65; refine H.out.mono ?_; rintro e w1 ⟨rfl, e1⟩; have k5 := e1.cell K5.out)
      go_ret
      exact ⟨ret_bool HR.out.symm, E0.out.trans e1⟩
  case inr.inr.inr.inr.inr.inr.inr.inr.inr.inr.inr.inl =>
    have HR := hx (HI.out.trans (by simp : _ = true))
    clear HI
    go_enter Tryz.func263, Tryz.ntmps263
    go_wp2_with (go_at_call 65; refine H.out.mono ?_; rintro e w1 ⟨rfl, e1⟩; have k5 := e1.cell K5.out)
    go_ret
    exact ⟨ret_bool HR.out.symm, E0.out.trans e1⟩
  all_goals
    have HR := hx (HI.out.trans (by simp : _ = FB))
    clear HI
    go_enter Tryz.func263, Tryz.ntmps263
    go_wp2_with fail
    refine H.out.mono ?_
    rintro e w1 ⟨rfl, e1⟩
    have k5 := e1.cell K5.out
    go_wp2_with fail
    refine (HN.out _ (E0.out.trans e1)).mono ?_
    rintro e w2 ⟨rfl, rfl⟩
    go_wp2
    go_ret
    exact ⟨ret_bool HR.out.symm, E0.out.trans e1⟩
set_option maxRecDepth 40000 in
set_option maxHeartbeats 4000000 in
theorem rule6_any (x : Ins) (u1 u2 u3 u4 : Bool) (w : World) (hx0 : x.Ok) (hO : OpsQ x.op w) (hW : WidN w) :
    Calls Tryz.prog 261 #[x.v, fV u1 u2 u3 u4] w fun e w' => e = .returned (.bool (!(fits16 x.off && immOk x))) ∧ Ext w w' := by
  have e0 := (Ext.new w (xCells x)).alloc (fCells u1 u2 u3 u4)
  have hn := numFits16 x.off _ (hW.ext e0) hx0.off
  have hf := insnFits_any x _ hx0 (hO.ext e0) (hW.ext e0)
  unfold Ins.v at *
  have E0 := hx e0
  generalize fits16 x.off = b1 at *
  generalize immOk x = b2 at *
  have HN := hx hn
  have HF := hx hf
  clear e0 hO hW hx0 hn hf
  cases b1 with
  | false =>
    go_enter Tryz.func261, Tryz.ntmps261
    go_wp2_with (go_at_call 262; refine HN.out.mono ?_; rintro e w1 ⟨rfl, rfl⟩)
    go_ret
    exact ⟨ret_bool rfl, E0.out⟩
  | true =>
    go_enter Tryz.func261, Tryz.ntmps261
    go_wp2_with fail
    refine HN.out.mono ?_
    rintro e w1 ⟨rfl, rfl⟩
    go_wp2_with fail
    refine HF.out.mono ?_
    rintro e w2 ⟨rfl, e2⟩
    go_wp2
    go_ret
    exact ⟨ret_bool (by simp), E0.out.trans e2⟩
/-- The list of the rules as it lies in memory. -/
def ruleCells (g : Nat) : List Value :=
  [.func (.func 257) #[] #[], .int .i64 6, .func (.func 258) #[] #[], .int .i64 12, .func (.func 259) #[] #[], .int .i64 12,
   .func (.func 260) #[] #[.pointer (some ⟨g, 0, none⟩)], .int .i64 5, .func (.func 261) #[] #[], .int .i64 4]
set_option maxRecDepth 40000 in
set_option maxHeartbeats 4000000 in
theorem insRules_any (w : World) :
    Calls Tryz.prog 216 #[] w fun e w' => ∃ b, e = .returned (.slice (some ⟨b, 0, none⟩) 5 5) ∧ OneC w' w.heap.size (.func (.func 256) #[] #[]) 149 ∧ RowV w' b 296 (ruleCells w.heap.size) ∧ Ext w w' := by
  go_enter Tryz.func216, Tryz.ntmps216
  go_wp2
  go_ret
  have hs : ∀ o, (w.alloc o).heap.size = w.heap.size + 1 := fun o => by simp
  refine ⟨w.heap.size + 1, rfl, (OneC.new w _ _).ext (Ext.new _ _), ?_, (Ext.new w _).alloc _⟩
  have h := RowV.new (w.alloc (.cells #[.func (.func 256) #[] #[]] 149)) (ruleCells w.heap.size) 296
  rw [hs] at h
  exact h
end Go.Proofs.YtmnbalbiehlkpaaGreatDoor
