/- The layer prog: each, at maps and at statements. -/
import Derived.Test.YtiaddncjghkajaaGreatDoorJChk
import Derived.Laws.EntriesVeiled
set_option linter.unusedVariables false
set_option linter.unusedSimpArgs false
namespace Go.Proofs.YtiaddncjghkajaaGreatDoor
open Go.RowKit Go.Lib

set_option maxRecDepth 20000 in
set_option maxHeartbeats 1000000 in
theorem eachDef_any (f1 f2 : Nat) (w : World) :
    Calls Tryz.prog 162 #[.func (.func f1) #[] #[], .func (.func f2) #[] #[]] w fun e w' => e = .returned (.agg #[.func (.func 187) #[] #[.pointer (some ⟨w.heap.size, 0, none⟩), .pointer (some ⟨w.heap.size + 1, 0, none⟩)]]) ∧ Ext w w' ∧
      w'.cell? ⟨w.heap.size, 0, none⟩ = some (.func (.func f1) #[] #[]) ∧ w'.cell? ⟨w.heap.size + 1, 0, none⟩ = some (.func (.func f2) #[] #[]) := by
  go_enter Tryz.func162, Tryz.ntmps162
  go_wp2
  have hb := heap_alloc_new ((w.alloc (.cells #[.func (.func f1) #[] #[]] 215)).alloc (.cells #[.func (.func f2) #[] #[]] 216)) (.cells #[.func (.func 187) #[] #[.pointer (some ⟨w.heap.size, 0, none⟩), .pointer (some ⟨w.heap.size + 1, 0, none⟩)]] 184)
  rw [World.size_alloc, World.size_alloc] at hb
  refine bodyPost_ret (results_cell_row rfl _ _ (w.heap.size + 1 + 1) 184 _ _ _ rfl hb Tryz.underlying184 rfl (by kernel_rfl)) rfl ?_
  have k1 : (w.alloc (.cells #[.func (.func f1) #[] #[]] 215)).cell? ⟨w.heap.size, 0, none⟩ = some (.func (.func f1) #[] #[]) := by simp
  have k2 : ((w.alloc (.cells #[.func (.func f1) #[] #[]] 215)).alloc (.cells #[.func (.func f2) #[] #[]] 216)).cell? ⟨w.heap.size + 1, 0, none⟩ = some (.func (.func f2) #[] #[]) := by simp
  exact ⟨rfl, ((Ext.new _ _).alloc _).alloc _, ((Ext.new _ _).alloc _).cell k1, (Ext.new _ _).cell k2⟩
set_option maxRecDepth 20000 in
set_option maxHeartbeats 1000000 in
theorem eachStmt_any (f1 f2 : Nat) (w : World) :
    Calls Tryz.prog 165 #[.func (.func f1) #[] #[], .func (.func f2) #[] #[]] w fun e w' => e = .returned (.agg #[.func (.func 190) #[] #[.pointer (some ⟨w.heap.size, 0, none⟩), .pointer (some ⟨w.heap.size + 1, 0, none⟩)]]) ∧ Ext w w' ∧
      w'.cell? ⟨w.heap.size, 0, none⟩ = some (.func (.func f1) #[] #[]) ∧ w'.cell? ⟨w.heap.size + 1, 0, none⟩ = some (.func (.func f2) #[] #[]) := by
  go_enter Tryz.func165, Tryz.ntmps165
  go_wp2
  have hb := heap_alloc_new ((w.alloc (.cells #[.func (.func f1) #[] #[]] 218)).alloc (.cells #[.func (.func f2) #[] #[]] 219)) (.cells #[.func (.func 190) #[] #[.pointer (some ⟨w.heap.size, 0, none⟩), .pointer (some ⟨w.heap.size + 1, 0, none⟩)]] 184)
  rw [World.size_alloc, World.size_alloc] at hb
  refine bodyPost_ret (results_cell_row rfl _ _ (w.heap.size + 1 + 1) 184 _ _ _ rfl hb Tryz.underlying184 rfl (by kernel_rfl)) rfl ?_
  have k1 : (w.alloc (.cells #[.func (.func f1) #[] #[]] 218)).cell? ⟨w.heap.size, 0, none⟩ = some (.func (.func f1) #[] #[]) := by simp
  have k2 : ((w.alloc (.cells #[.func (.func f1) #[] #[]] 218)).alloc (.cells #[.func (.func f2) #[] #[]] 219)).cell? ⟨w.heap.size + 1, 0, none⟩ = some (.func (.func f2) #[] #[]) := by simp
  exact ⟨rfl, ((Ext.new _ _).alloc _).alloc _, ((Ext.new _ _).alloc _).cell k1, (Ext.new _ _).cell k2⟩
end Go.Proofs.YtiaddncjghkajaaGreatDoor


set_option linter.unusedVariables false
set_option linter.unusedSimpArgs false
namespace Go.Proofs.YtiaddncjghkajaaGreatDoor
open Go.RowKit Go.Lib

/-- The first element with an error, and the error. -/
def findA (chk : Int → Def → Int) : Int → List Def → Int × Int
  | _, [] => (0, 0)
  | i, d :: l => if chk i d = 0 then findA chk (i + 1) l else (i, chk i d)
def findV (r : Int × Int) : Value := .agg #[.int .i64 r.1, .int .i64 r.2]

theorem two_set {W : World} {g : Nat} {a b : Value} {t : TypeId} (x y : Value) (h : W.heap[g]? = some (.cells #[a, b] t (0, 0))) : ((W.setCell ⟨g, 0, none⟩ x).setCell ⟨g, 1, none⟩ y).heap[g]? = some (.cells #[x, y] t (0, 0)) := by
  simp [World.setCell, Array.getElem?_modify, h]
set_option maxRecDepth 20000 in
set_option maxHeartbeats 1000000 in
theorem eachDef1_any (B1 B2 : Nat) (v1 : Value) (A2 : Option Addr) (n2 c2 : Nat) (l : List Def) (chk : Int → Def → Int) (w : World) (hl : l.length ≤ 100000) (hv : IsDefs w v1 l)
    (h1 : w.cell? ⟨B1, 0, none⟩ = some (.func (.func 163) #[] #[])) (h2 : w.cell? ⟨B2, 0, none⟩ = some (.func (.func 164) #[] #[]))
    (hn1 : w.cell? ⟨0, 0, none⟩ = some (.int .i64 0)) (hn2 : w.cell? ⟨0, 1, none⟩ = some (.int .i64 0))
    (hc : ∀ (i : Int) (d : Def) (W : World), Ext w W → d ∈ l → Calls Tryz.prog 164 #[.agg #[v1, .slice A2 n2 c2], .int .i64 i, .agg #[.string d.name, .int .i64 d.key, .int .i64 d.val, .int .i64 d.ents]] W fun e w' => e = .returned (.int .i64 (chk i d)) ∧ Ext W w') :
    Calls Tryz.prog 187 #[.agg #[v1, .slice A2 n2 c2], .pointer (some ⟨B1, 0, none⟩), .pointer (some ⟨B2, 0, none⟩)] w fun e w' => e = .returned (findV (findA chk 0 l)) ∧ Ext w w' := by
  obtain ⟨A, c, rfl, -, -, hv'⟩ := hv.form
  have e0 := (Ext.new w (.cells #[.slice A l.length c, .slice A2 n2 c2] 50)).alloc (.cells #[.int .i64 0, .int .i64 0] 139)
  have k1 := e0.cell h1
  have hm := maps_any A A2 l.length c n2 c2 ((w.alloc (.cells #[.slice A l.length c, .slice A2 n2 c2] 50)).alloc (.cells #[.int .i64 0, .int .i64 0] 139))
  have HC := hx hc
  clear hc
  go_enter Tryz.func187, Tryz.ntmps187
  have p1 : ((w.alloc (.cells #[.slice A l.length c, .slice A2 n2 c2] 50)).alloc (.cells #[.int .i64 0, .int .i64 0] 139)).cell? ⟨w.heap.size, 0, none⟩ = some (.slice A l.length c) := by simp
  have p2 : ((w.alloc (.cells #[.slice A l.length c, .slice A2 n2 c2] 50)).alloc (.cells #[.int .i64 0, .int .i64 0] 139)).cell? ⟨w.heap.size, 1, none⟩ = some (.slice A2 n2 c2) := by simp
  have p3 := heap_alloc_new (w.alloc (.cells #[.slice A l.length c, .slice A2 n2 c2] 50)) (.cells #[.int .i64 0, .int .i64 0] 139)
  rw [World.size_alloc] at p3
  generalize hW0 : (w.alloc (.cells #[.slice A l.length c, .slice A2 n2 c2] 50)).alloc (.cells #[.int .i64 0, .int .i64 0] 139) = W0 at e0 p1 p2 p3
  have HW0 := hx hW0
  clear hW0
  go_wp2_with (first | (go_at_call 163; refine hm.mono ?_; rintro e w1 ⟨rfl, e1⟩))
  rw [HW0.out] at e1
  go_loopw [12] (fun i wr => ∃ pre suf : List Def, l = pre ++ suf ∧ i = .int .i64 (pre.length : Nat) ∧ findA chk 0 l = findA chk pre.length suf ∧ Ext W0 wr) (fun i _ => l.length - (RowKit.intOf i).toNat)
  case atStart => exact ⟨[], l, rfl, rfl, rfl, e1⟩
  case round =>
    clear e1
    obtain ⟨pre, suf, hl', rfl, hr, he⟩ := hrel
    have HR := hx hr
    clear hr
    have q1 := he.cell p1
    have q2 := he.cell p2
    have q3 := he.obj p3
    have ew := e0.trans he
    have b2 := ew.cell h2
    have g1 := ew.cell hn1
    have g2 := ew.cell hn2
    have z1 : wr.cell? ⟨w.heap.size + 1, 0, none⟩ = some (.int .i64 0) := by simp [World.cell?, q3]
    have z2 : wr.cell? ⟨w.heap.size + 1, 1, none⟩ = some (.int .i64 0) := by simp [World.cell?, q3]
    have y1 : wr.frozen? ⟨w.heap.size + 1, 0, none⟩ = false := by simp [World.frozen?, q3]
    have y2 : wr.frozen? ⟨w.heap.size + 1, 1, none⟩ = false := by simp [World.frozen?, q3]
    cases suf with
    | cons x suf =>
      have hlt : pre.length < l.length := by rw [hl']; simp
      have hmem : x ∈ l := by rw [hl']; simp
      have hvx := hv'
      rw [hl'] at hvx
      obtain ⟨b, o, rfl, ⟨d1, d2, d3, d4⟩, -⟩ := hvx.at
      replace d1 := ew.cell d1
      replace d2 := ew.cell d2
      replace d3 := ew.cell d3
      replace d4 := ew.cell d4
      have HL := hx hl'; clear hl' hvx
      have hcx := HC.out pre.length x _ (ew.alloc (.cells #[.string x.name, .int .i64 x.key, .int .i64 x.val, .int .i64 x.ents] 81)) hmem
      have b2' := (Ext.new wr (.cells #[.string x.name, .int .i64 x.key, .int .i64 x.val, .int .i64 x.ents] 81)).cell b2
      have q1' := (Ext.new wr (.cells #[.string x.name, .int .i64 x.key, .int .i64 x.val, .int .i64 x.ents] 81)).cell q1
      have q2' := (Ext.new wr (.cells #[.string x.name, .int .i64 x.key, .int .i64 x.val, .int .i64 x.ents] 81)).cell q2
      by_cases hch : chk pre.length x = 0
      · have hf := hx (show findA chk pre.length (x :: suf) = findA chk (pre.length + 1) suf by rw [findA, if_pos hch])
        rw [hch] at hcx
        clear hch
        go_wp2_with (first | (go_at_call 164; refine hcx.mono ?_; rintro e w2 ⟨rfl, e2⟩; replace e2 := (Ext.new wr _).trans e2; have q4 := e2.obj q3; have z1' := e2.cell z1; have z2' := e2.cell z2; have y1' : w2.frozen? ⟨w.heap.size + 1, 0, none⟩ = false := (by simp [World.frozen?, q4]); have y2' : w2.frozen? ⟨w.heap.size + 1, 1, none⟩ = false := (by simp [World.frozen?, q4])))
        go_roundw
        case rel => exact ⟨pre ++ [x], suf, by simp [HL.out], by simp, by rw [HR.out, hf.out]; simp, he.trans e2⟩
        case measure => simp [RowKit.intOf]; omega
      · have hne : (chk (pre.length : Int) x != 0) = true := by simpa using hch
        go_wp2_with (first | (go_at_call 164; refine hcx.mono ?_; rintro e w2 ⟨rfl, e2⟩; replace e2 := (Ext.new wr _).trans e2; have q4 := e2.obj q3; have z1' := e2.cell z1; have z2' := e2.cell z2; have y1' : w2.frozen? ⟨w.heap.size + 1, 0, none⟩ = false := (by simp [World.frozen?, q4]); have y2' : w2.frozen? ⟨w.heap.size + 1, 1, none⟩ = false := (by simp [World.frozen?, q4])))
        refine bodyPost_ret (results_cell_row rfl _ _ (w.heap.size + 1) 139 _ _ _ rfl (two_set _ _ q4) Tryz.underlying139 rfl (by kernel_rfl)) rfl ?_
        exact ⟨by rw [HR.out, findA, if_neg hch]; rfl, ((ew.trans e2).setCell (a := ⟨w.heap.size + 1, 0, none⟩) _ (by simp)).setCell (a := ⟨w.heap.size + 1, 1, none⟩) _ (by simp)⟩
    | nil =>
      obtain rfl : l = pre := by simpa using hl'
      clear hl'
      have hlt : ¬ l.length < l.length := by omega
      go_wp2
      refine bodyPost_ret (results_cell_row rfl _ _ (w.heap.size + 1) 139 _ _ _ rfl (two_set _ _ q3) Tryz.underlying139 rfl (by kernel_rfl)) rfl ?_
      exact ⟨by rw [HR.out]; rfl, (ew.setCell (a := ⟨w.heap.size + 1, 0, none⟩) _ (by simp)).setCell (a := ⟨w.heap.size + 1, 1, none⟩) _ (by simp)⟩
end Go.Proofs.YtiaddncjghkajaaGreatDoor


set_option linter.unusedVariables false
set_option linter.unusedSimpArgs false
namespace Go.Proofs.YtiaddncjghkajaaGreatDoor
open Go.RowKit Go.Lib

set_option maxRecDepth 20000 in
set_option maxHeartbeats 1000000 in
theorem eachDefR1_any (B1 B2 : Nat) (v1 : Value) (A2 : Option Addr) (n2 c2 : Nat) (l : List Def) (chk : Int → Def → Int) (w : World) (hl : l.length ≤ 100000) (hv : IsDefs w v1 l)
    (h1 : w.cell? ⟨B1, 0, none⟩ = some (.func (.func 163) #[] #[])) (h2 : w.cell? ⟨B2, 0, none⟩ = some (.func (.func 168) #[] #[]))
    (hn1 : w.cell? ⟨0, 0, none⟩ = some (.int .i64 0)) (hn2 : w.cell? ⟨0, 1, none⟩ = some (.int .i64 0))
    (hc : ∀ (i : Int) (d : Def) (W : World), Ext w W → d ∈ l → Calls Tryz.prog 168 #[.agg #[v1, .slice A2 n2 c2], .int .i64 i, .agg #[.string d.name, .int .i64 d.key, .int .i64 d.val, .int .i64 d.ents]] W fun e w' => e = .returned (.int .i64 (chk i d)) ∧ Ext W w') :
    Calls Tryz.prog 187 #[.agg #[v1, .slice A2 n2 c2], .pointer (some ⟨B1, 0, none⟩), .pointer (some ⟨B2, 0, none⟩)] w fun e w' => e = .returned (findV (findA chk 0 l)) ∧ Ext w w' := by
  obtain ⟨A, c, rfl, -, -, hv'⟩ := hv.form
  have e0 := (Ext.new w (.cells #[.slice A l.length c, .slice A2 n2 c2] 50)).alloc (.cells #[.int .i64 0, .int .i64 0] 139)
  have k1 := e0.cell h1
  have hm := maps_any A A2 l.length c n2 c2 ((w.alloc (.cells #[.slice A l.length c, .slice A2 n2 c2] 50)).alloc (.cells #[.int .i64 0, .int .i64 0] 139))
  have HC := hx hc
  clear hc
  go_enter Tryz.func187, Tryz.ntmps187
  have p1 : ((w.alloc (.cells #[.slice A l.length c, .slice A2 n2 c2] 50)).alloc (.cells #[.int .i64 0, .int .i64 0] 139)).cell? ⟨w.heap.size, 0, none⟩ = some (.slice A l.length c) := by simp
  have p2 : ((w.alloc (.cells #[.slice A l.length c, .slice A2 n2 c2] 50)).alloc (.cells #[.int .i64 0, .int .i64 0] 139)).cell? ⟨w.heap.size, 1, none⟩ = some (.slice A2 n2 c2) := by simp
  have p3 := heap_alloc_new (w.alloc (.cells #[.slice A l.length c, .slice A2 n2 c2] 50)) (.cells #[.int .i64 0, .int .i64 0] 139)
  rw [World.size_alloc] at p3
  generalize hW0 : (w.alloc (.cells #[.slice A l.length c, .slice A2 n2 c2] 50)).alloc (.cells #[.int .i64 0, .int .i64 0] 139) = W0 at e0 p1 p2 p3
  have HW0 := hx hW0
  clear hW0
  go_wp2_with (first | (go_at_call 163; refine hm.mono ?_; rintro e w1 ⟨rfl, e1⟩))
  rw [HW0.out] at e1
  go_loopw [12] (fun i wr => ∃ pre suf : List Def, l = pre ++ suf ∧ i = .int .i64 (pre.length : Nat) ∧ findA chk 0 l = findA chk pre.length suf ∧ Ext W0 wr) (fun i _ => l.length - (RowKit.intOf i).toNat)
  case atStart => exact ⟨[], l, rfl, rfl, rfl, e1⟩
  case round =>
    clear e1
    obtain ⟨pre, suf, hl', rfl, hr, he⟩ := hrel
    have HR := hx hr
    clear hr
    have q1 := he.cell p1
    have q2 := he.cell p2
    have q3 := he.obj p3
    have ew := e0.trans he
    have b2 := ew.cell h2
    have g1 := ew.cell hn1
    have g2 := ew.cell hn2
    have z1 : wr.cell? ⟨w.heap.size + 1, 0, none⟩ = some (.int .i64 0) := by simp [World.cell?, q3]
    have z2 : wr.cell? ⟨w.heap.size + 1, 1, none⟩ = some (.int .i64 0) := by simp [World.cell?, q3]
    have y1 : wr.frozen? ⟨w.heap.size + 1, 0, none⟩ = false := by simp [World.frozen?, q3]
    have y2 : wr.frozen? ⟨w.heap.size + 1, 1, none⟩ = false := by simp [World.frozen?, q3]
    cases suf with
    | cons x suf =>
      have hlt : pre.length < l.length := by rw [hl']; simp
      have hmem : x ∈ l := by rw [hl']; simp
      have hvx := hv'
      rw [hl'] at hvx
      obtain ⟨b, o, rfl, ⟨d1, d2, d3, d4⟩, -⟩ := hvx.at
      replace d1 := ew.cell d1
      replace d2 := ew.cell d2
      replace d3 := ew.cell d3
      replace d4 := ew.cell d4
      have HL := hx hl'; clear hl' hvx
      have hcx := HC.out pre.length x _ (ew.alloc (.cells #[.string x.name, .int .i64 x.key, .int .i64 x.val, .int .i64 x.ents] 81)) hmem
      have b2' := (Ext.new wr (.cells #[.string x.name, .int .i64 x.key, .int .i64 x.val, .int .i64 x.ents] 81)).cell b2
      have q1' := (Ext.new wr (.cells #[.string x.name, .int .i64 x.key, .int .i64 x.val, .int .i64 x.ents] 81)).cell q1
      have q2' := (Ext.new wr (.cells #[.string x.name, .int .i64 x.key, .int .i64 x.val, .int .i64 x.ents] 81)).cell q2
      by_cases hch : chk pre.length x = 0
      · have hf := hx (show findA chk pre.length (x :: suf) = findA chk (pre.length + 1) suf by rw [findA, if_pos hch])
        rw [hch] at hcx
        clear hch
        go_wp2_with (first | (go_at_call 168; refine hcx.mono ?_; rintro e w2 ⟨rfl, e2⟩; replace e2 := (Ext.new wr _).trans e2; have q4 := e2.obj q3; have z1' := e2.cell z1; have z2' := e2.cell z2; have y1' : w2.frozen? ⟨w.heap.size + 1, 0, none⟩ = false := (by simp [World.frozen?, q4]); have y2' : w2.frozen? ⟨w.heap.size + 1, 1, none⟩ = false := (by simp [World.frozen?, q4])))
        go_roundw
        case rel => exact ⟨pre ++ [x], suf, by simp [HL.out], by simp, by rw [HR.out, hf.out]; simp, he.trans e2⟩
        case measure => simp [RowKit.intOf]; omega
      · have hne : (chk (pre.length : Int) x != 0) = true := by simpa using hch
        go_wp2_with (first | (go_at_call 168; refine hcx.mono ?_; rintro e w2 ⟨rfl, e2⟩; replace e2 := (Ext.new wr _).trans e2; have q4 := e2.obj q3; have z1' := e2.cell z1; have z2' := e2.cell z2; have y1' : w2.frozen? ⟨w.heap.size + 1, 0, none⟩ = false := (by simp [World.frozen?, q4]); have y2' : w2.frozen? ⟨w.heap.size + 1, 1, none⟩ = false := (by simp [World.frozen?, q4])))
        refine bodyPost_ret (results_cell_row rfl _ _ (w.heap.size + 1) 139 _ _ _ rfl (two_set _ _ q4) Tryz.underlying139 rfl (by kernel_rfl)) rfl ?_
        exact ⟨by rw [HR.out, findA, if_neg hch]; rfl, ((ew.trans e2).setCell (a := ⟨w.heap.size + 1, 0, none⟩) _ (by simp)).setCell (a := ⟨w.heap.size + 1, 1, none⟩) _ (by simp)⟩
    | nil =>
      obtain rfl : l = pre := by simpa using hl'
      clear hl'
      have hlt : ¬ l.length < l.length := by omega
      go_wp2
      refine bodyPost_ret (results_cell_row rfl _ _ (w.heap.size + 1) 139 _ _ _ rfl (two_set _ _ q3) Tryz.underlying139 rfl (by kernel_rfl)) rfl ?_
      exact ⟨by rw [HR.out]; rfl, (ew.setCell (a := ⟨w.heap.size + 1, 0, none⟩) _ (by simp)).setCell (a := ⟨w.heap.size + 1, 1, none⟩) _ (by simp)⟩
set_option maxRecDepth 20000 in
set_option maxHeartbeats 1000000 in
theorem eachDefR2_any (B1 B2 : Nat) (v1 : Value) (A2 : Option Addr) (n2 c2 : Nat) (l : List Def) (chk : Int → Def → Int) (w : World) (hl : l.length ≤ 100000) (hv : IsDefs w v1 l)
    (h1 : w.cell? ⟨B1, 0, none⟩ = some (.func (.func 163) #[] #[])) (h2 : w.cell? ⟨B2, 0, none⟩ = some (.func (.func 170) #[] #[]))
    (hn1 : w.cell? ⟨0, 0, none⟩ = some (.int .i64 0)) (hn2 : w.cell? ⟨0, 1, none⟩ = some (.int .i64 0))
    (hc : ∀ (i : Int) (d : Def) (W : World), Ext w W → d ∈ l → Calls Tryz.prog 170 #[.agg #[v1, .slice A2 n2 c2], .int .i64 i, .agg #[.string d.name, .int .i64 d.key, .int .i64 d.val, .int .i64 d.ents]] W fun e w' => e = .returned (.int .i64 (chk i d)) ∧ Ext W w') :
    Calls Tryz.prog 187 #[.agg #[v1, .slice A2 n2 c2], .pointer (some ⟨B1, 0, none⟩), .pointer (some ⟨B2, 0, none⟩)] w fun e w' => e = .returned (findV (findA chk 0 l)) ∧ Ext w w' := by
  obtain ⟨A, c, rfl, -, -, hv'⟩ := hv.form
  have e0 := (Ext.new w (.cells #[.slice A l.length c, .slice A2 n2 c2] 50)).alloc (.cells #[.int .i64 0, .int .i64 0] 139)
  have k1 := e0.cell h1
  have hm := maps_any A A2 l.length c n2 c2 ((w.alloc (.cells #[.slice A l.length c, .slice A2 n2 c2] 50)).alloc (.cells #[.int .i64 0, .int .i64 0] 139))
  have HC := hx hc
  clear hc
  go_enter Tryz.func187, Tryz.ntmps187
  have p1 : ((w.alloc (.cells #[.slice A l.length c, .slice A2 n2 c2] 50)).alloc (.cells #[.int .i64 0, .int .i64 0] 139)).cell? ⟨w.heap.size, 0, none⟩ = some (.slice A l.length c) := by simp
  have p2 : ((w.alloc (.cells #[.slice A l.length c, .slice A2 n2 c2] 50)).alloc (.cells #[.int .i64 0, .int .i64 0] 139)).cell? ⟨w.heap.size, 1, none⟩ = some (.slice A2 n2 c2) := by simp
  have p3 := heap_alloc_new (w.alloc (.cells #[.slice A l.length c, .slice A2 n2 c2] 50)) (.cells #[.int .i64 0, .int .i64 0] 139)
  rw [World.size_alloc] at p3
  generalize hW0 : (w.alloc (.cells #[.slice A l.length c, .slice A2 n2 c2] 50)).alloc (.cells #[.int .i64 0, .int .i64 0] 139) = W0 at e0 p1 p2 p3
  have HW0 := hx hW0
  clear hW0
  go_wp2_with (first | (go_at_call 163; refine hm.mono ?_; rintro e w1 ⟨rfl, e1⟩))
  rw [HW0.out] at e1
  go_loopw [12] (fun i wr => ∃ pre suf : List Def, l = pre ++ suf ∧ i = .int .i64 (pre.length : Nat) ∧ findA chk 0 l = findA chk pre.length suf ∧ Ext W0 wr) (fun i _ => l.length - (RowKit.intOf i).toNat)
  case atStart => exact ⟨[], l, rfl, rfl, rfl, e1⟩
  case round =>
    clear e1
    obtain ⟨pre, suf, hl', rfl, hr, he⟩ := hrel
    have HR := hx hr
    clear hr
    have q1 := he.cell p1
    have q2 := he.cell p2
    have q3 := he.obj p3
    have ew := e0.trans he
    have b2 := ew.cell h2
    have g1 := ew.cell hn1
    have g2 := ew.cell hn2
    have z1 : wr.cell? ⟨w.heap.size + 1, 0, none⟩ = some (.int .i64 0) := by simp [World.cell?, q3]
    have z2 : wr.cell? ⟨w.heap.size + 1, 1, none⟩ = some (.int .i64 0) := by simp [World.cell?, q3]
    have y1 : wr.frozen? ⟨w.heap.size + 1, 0, none⟩ = false := by simp [World.frozen?, q3]
    have y2 : wr.frozen? ⟨w.heap.size + 1, 1, none⟩ = false := by simp [World.frozen?, q3]
    cases suf with
    | cons x suf =>
      have hlt : pre.length < l.length := by rw [hl']; simp
      have hmem : x ∈ l := by rw [hl']; simp
      have hvx := hv'
      rw [hl'] at hvx
      obtain ⟨b, o, rfl, ⟨d1, d2, d3, d4⟩, -⟩ := hvx.at
      replace d1 := ew.cell d1
      replace d2 := ew.cell d2
      replace d3 := ew.cell d3
      replace d4 := ew.cell d4
      have HL := hx hl'; clear hl' hvx
      have hcx := HC.out pre.length x _ (ew.alloc (.cells #[.string x.name, .int .i64 x.key, .int .i64 x.val, .int .i64 x.ents] 81)) hmem
      have b2' := (Ext.new wr (.cells #[.string x.name, .int .i64 x.key, .int .i64 x.val, .int .i64 x.ents] 81)).cell b2
      have q1' := (Ext.new wr (.cells #[.string x.name, .int .i64 x.key, .int .i64 x.val, .int .i64 x.ents] 81)).cell q1
      have q2' := (Ext.new wr (.cells #[.string x.name, .int .i64 x.key, .int .i64 x.val, .int .i64 x.ents] 81)).cell q2
      by_cases hch : chk pre.length x = 0
      · have hf := hx (show findA chk pre.length (x :: suf) = findA chk (pre.length + 1) suf by rw [findA, if_pos hch])
        rw [hch] at hcx
        clear hch
        go_wp2_with (first | (go_at_call 170; refine hcx.mono ?_; rintro e w2 ⟨rfl, e2⟩; replace e2 := (Ext.new wr _).trans e2; have q4 := e2.obj q3; have z1' := e2.cell z1; have z2' := e2.cell z2; have y1' : w2.frozen? ⟨w.heap.size + 1, 0, none⟩ = false := (by simp [World.frozen?, q4]); have y2' : w2.frozen? ⟨w.heap.size + 1, 1, none⟩ = false := (by simp [World.frozen?, q4])))
        go_roundw
        case rel => exact ⟨pre ++ [x], suf, by simp [HL.out], by simp, by rw [HR.out, hf.out]; simp, he.trans e2⟩
        case measure => simp [RowKit.intOf]; omega
      · have hne : (chk (pre.length : Int) x != 0) = true := by simpa using hch
        go_wp2_with (first | (go_at_call 170; refine hcx.mono ?_; rintro e w2 ⟨rfl, e2⟩; replace e2 := (Ext.new wr _).trans e2; have q4 := e2.obj q3; have z1' := e2.cell z1; have z2' := e2.cell z2; have y1' : w2.frozen? ⟨w.heap.size + 1, 0, none⟩ = false := (by simp [World.frozen?, q4]); have y2' : w2.frozen? ⟨w.heap.size + 1, 1, none⟩ = false := (by simp [World.frozen?, q4])))
        refine bodyPost_ret (results_cell_row rfl _ _ (w.heap.size + 1) 139 _ _ _ rfl (two_set _ _ q4) Tryz.underlying139 rfl (by kernel_rfl)) rfl ?_
        exact ⟨by rw [HR.out, findA, if_neg hch]; rfl, ((ew.trans e2).setCell (a := ⟨w.heap.size + 1, 0, none⟩) _ (by simp)).setCell (a := ⟨w.heap.size + 1, 1, none⟩) _ (by simp)⟩
    | nil =>
      obtain rfl : l = pre := by simpa using hl'
      clear hl'
      have hlt : ¬ l.length < l.length := by omega
      go_wp2
      refine bodyPost_ret (results_cell_row rfl _ _ (w.heap.size + 1) 139 _ _ _ rfl (two_set _ _ q3) Tryz.underlying139 rfl (by kernel_rfl)) rfl ?_
      exact ⟨by rw [HR.out]; rfl, (ew.setCell (a := ⟨w.heap.size + 1, 0, none⟩) _ (by simp)).setCell (a := ⟨w.heap.size + 1, 1, none⟩) _ (by simp)⟩
end Go.Proofs.YtiaddncjghkajaaGreatDoor


set_option linter.unusedVariables false
set_option linter.unusedSimpArgs false
namespace Go.Proofs.YtiaddncjghkajaaGreatDoor
open Go.RowKit Go.Lib

set_option maxRecDepth 20000 in
set_option maxHeartbeats 1000000 in
theorem eachStmt1_none (B1 B2 : Nat) (A1 A2 : Option Addr) (n1 c1 c2 : Nat) (w : World)
    (h1 : w.cell? ⟨B1, 0, none⟩ = some (.func (.func 166) #[] #[])) 
    (hn1 : w.cell? ⟨0, 0, none⟩ = some (.int .i64 0)) (hn2 : w.cell? ⟨0, 1, none⟩ = some (.int .i64 0)) :
    Calls Tryz.prog 190 #[.agg #[.slice A1 n1 c1, .slice A2 0 c2], .pointer (some ⟨B1, 0, none⟩), .pointer (some ⟨B2, 0, none⟩)] w fun e w' => e = .returned (findV (0, 0)) ∧ Ext w w' := by
  have e0 := (Ext.new w (.cells #[.slice A1 n1 c1, .slice A2 0 c2] 50)).alloc (.cells #[.int .i64 0, .int .i64 0] 139)
  have k1 := e0.cell h1
  have hm := stmts_any A1 A2 n1 c1 0 c2 ((w.alloc (.cells #[.slice A1 n1 c1, .slice A2 0 c2] 50)).alloc (.cells #[.int .i64 0, .int .i64 0] 139))
  have p3 := heap_alloc_new (w.alloc (.cells #[.slice A1 n1 c1, .slice A2 0 c2] 50)) (.cells #[.int .i64 0, .int .i64 0] 139)
  rw [World.size_alloc] at p3
  go_enter Tryz.func190, Tryz.ntmps190
  go_wp2_with (first | (go_at_call 166; refine hm.mono ?_; rintro e w1 ⟨rfl, e1⟩))
  have q3 := e1.obj p3
  have ew := e0.trans e1
  have g1 := ew.cell hn1
  have g2 := ew.cell hn2
  have z1 : w1.cell? ⟨w.heap.size + 1, 0, none⟩ = some (.int .i64 0) := by simp [World.cell?, q3]
  have z2 : w1.cell? ⟨w.heap.size + 1, 1, none⟩ = some (.int .i64 0) := by simp [World.cell?, q3]
  have y1 : w1.frozen? ⟨w.heap.size + 1, 0, none⟩ = false := by simp [World.frozen?, q3]
  have y2 : w1.frozen? ⟨w.heap.size + 1, 1, none⟩ = false := by simp [World.frozen?, q3]
  go_loopw [12] (fun i wr => i = .int .i64 0 ∧ wr = w1) (fun i _ => 0)
  case atStart => exact ⟨rfl, rfl⟩
  case round =>
    obtain ⟨rfl, rfl⟩ := hrel
    go_wp2
    refine bodyPost_ret (results_cell_row rfl _ _ (w.heap.size + 1) 139 _ _ _ rfl (two_set _ _ q3) Tryz.underlying139 rfl (by kernel_rfl)) rfl ?_
    exact ⟨rfl, (ew.setCell (a := ⟨w.heap.size + 1, 0, none⟩) _ (by simp)).setCell (a := ⟨w.heap.size + 1, 1, none⟩) _ (by simp)⟩

set_option maxRecDepth 20000 in
set_option maxHeartbeats 1000000 in
theorem rules3_none (A1 A2 : Option Addr) (n1 c1 c2 : Nat) (w : World) :
    Calls Tryz.prog 173 #[.agg #[.slice A1 n1 c1, .slice A2 0 c2]] w fun e w' => e = .returned (findV (0, 15)) ∧ Ext w w' := by
  have hw := fun W => when_any true 15 W
  have p3 := heap_alloc_new (w.alloc (.cells #[.slice A1 n1 c1, .slice A2 0 c2] 50)) (.cells #[.int .i64 0, .int .i64 15] 139)
  rw [World.size_alloc] at p3
  have e0 := (Ext.new w (.cells #[.slice A1 n1 c1, .slice A2 0 c2] 50)).alloc (.cells #[.int .i64 0, .int .i64 15] 139)
  go_enter Tryz.func173, Tryz.ntmps173
  go_wp2_with (first | (go_at_call 169; refine (hw _).mono ?_; rintro e w' ⟨rfl, rfl⟩))
  refine bodyPost_ret (results_cell_row rfl _ _ (w.heap.size + 1) 139 _ _ _ rfl p3 Tryz.underlying139 rfl (by kernel_rfl)) rfl ?_
  exact ⟨rfl, e0⟩

set_option maxRecDepth 20000 in
set_option maxHeartbeats 1000000 in
theorem labelsOnce_none (A1 A2 : Option Addr) (n1 c1 c2 : Nat) (w : World)
    (hn1 : w.cell? ⟨0, 0, none⟩ = some (.int .i64 0)) (hn2 : w.cell? ⟨0, 1, none⟩ = some (.int .i64 0)) :
    Calls Tryz.prog 172 #[.agg #[.slice A1 n1 c1, .slice A2 0 c2]] w fun e w' => e = .returned (findV (0, 0)) ∧ Ext w w' := by
  have hmm := @run_makeMap Tryz.prog
  have e0 := ((Ext.new w (.cells #[.slice A1 n1 c1, .slice A2 0 c2] 50)).alloc (.cells #[.int .i64 0, .int .i64 0] 139)).alloc (.map #[] 0)
  have p3 := heap_alloc_new (w.alloc (.cells #[.slice A1 n1 c1, .slice A2 0 c2] 50)) (.cells #[.int .i64 0, .int .i64 0] 139)
  rw [World.size_alloc] at p3
  have q3 := (Ext.new _ (.map #[] 0)).obj p3
  obtain ⟨w1, hw1⟩ : ∃ w1, w1 = ((w.alloc (.cells #[.slice A1 n1 c1, .slice A2 0 c2] 50)).alloc (.cells #[.int .i64 0, .int .i64 0] 139)).alloc (.map #[] 0) := ⟨_, rfl⟩
  rw [← hw1] at e0 q3
  have HW := hx hw1
  have g1 := e0.cell hn1
  have g2 := e0.cell hn2
  have z1 : w1.cell? ⟨w.heap.size + 1, 0, none⟩ = some (.int .i64 0) := by simp [World.cell?, q3]
  have z2 : w1.cell? ⟨w.heap.size + 1, 1, none⟩ = some (.int .i64 0) := by simp [World.cell?, q3]
  have y1 : w1.frozen? ⟨w.heap.size + 1, 0, none⟩ = false := by simp [World.frozen?, q3]
  have y2 : w1.frozen? ⟨w.heap.size + 1, 1, none⟩ = false := by simp [World.frozen?, q3]
  clear hw1
  go_enter Tryz.func172, Tryz.ntmps172
  go_wp2
  rw [← HW.out]
  clear hmm
  go_loopw [12] (fun i wr => i = .int .i64 0 ∧ wr = w1) (fun i _ => 0)
  case atStart => exact ⟨rfl, rfl⟩
  case round =>
    obtain ⟨rfl, rfl⟩ := hrel
    go_wp2
    refine bodyPost_ret (results_cell_row rfl _ _ (w.heap.size + 1) 139 _ _ _ rfl (two_set _ _ q3) Tryz.underlying139 rfl (by kernel_rfl)) rfl ?_
    exact ⟨rfl, (e0.setCell (a := ⟨w.heap.size + 1, 0, none⟩) _ (by simp)).setCell (a := ⟨w.heap.size + 1, 1, none⟩) _ (by simp)⟩
end Go.Proofs.YtiaddncjghkajaaGreatDoor
