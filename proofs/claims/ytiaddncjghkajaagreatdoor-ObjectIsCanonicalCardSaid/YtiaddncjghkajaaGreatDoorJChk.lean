/- The layer prog: the small functions of its rules. -/
import Derived.Test.YtiaddncjghkajaaGreatDoorJRep
import Derived.Test.YtiaddncjghkajaaGreatDoorJTab
set_option linter.unusedVariables false
set_option linter.unusedSimpArgs false
namespace Go.Proofs.YtiaddncjghkajaaGreatDoor
open Go.RowKit Go.Lib

def whenN (b : Bool) (e : Int) : Int := if b then e else 0
set_option maxHeartbeats 400000 in
theorem when_any (b : Bool) (x : Int) (w : World) : Calls Tryz.prog 169 #[.bool b, .int .i64 x] w fun e w' => e = .returned (.int .i64 (whenN b x)) ∧ w' = w := by
  cases b with
  | true =>
    go_enter Tryz.func169, Tryz.ntmps169
    go_wp2
    go_ret
    exact ⟨rfl, rfl⟩
  | false =>
    go_enter Tryz.func169, Tryz.ntmps169
    go_wp2
    go_ret
    exact ⟨rfl, rfl⟩
def inRg (n m : Int) : Bool := decide (1 ≤ n ∧ n ≤ m)
set_option maxHeartbeats 400000 in
theorem inRange_any (n m : Int) (w : World) : Calls Tryz.prog 189 #[.int .i64 n, .int .i64 m] w fun e w' => e = .returned (.bool (inRg n m)) ∧ w' = w := by
  by_cases h : 1 ≤ n
  · by_cases h2 : n ≤ m
    · have hs : inRg n m = true := by unfold inRg; simp; omega
      rw [hs]; clear hs
      go_enter Tryz.func189, Tryz.ntmps189
      go_wp2
      go_ret
      exact ⟨ret_bool (by simp), rfl⟩
    · have hs : inRg n m = false := by unfold inRg; simp; omega
      rw [hs]; clear hs
      go_enter Tryz.func189, Tryz.ntmps189
      go_wp2
      go_ret
      exact ⟨ret_bool (by simp), rfl⟩
  · have hs : inRg n m = false := by unfold inRg; simp; omega
    rw [hs]; clear hs
    go_enter Tryz.func189, Tryz.ntmps189
    go_wp2
    go_ret
    exact ⟨rfl, rfl⟩
/-- What a map's declaration has wrong. -/
def mapE (d : Def) : Int := if idB d.name then whenN (!sizesB d) 9 else 7
theorem sizesB_eq (d : Def) : (!sizesB d) = (!inRg d.key 64 || !inRg d.val 256 || !inRg d.ents 1024) := by
  unfold sizesB inRg
  rw [← Bool.not_and, ← Bool.not_and]
  simp only [← Bool.decide_and]
  congr 2
  simp only [and_assoc]

set_option maxRecDepth 20000 in
set_option maxHeartbeats 2000000 in
theorem checkMap_any (A1 A2 : Option Addr) (n1 c1 n2 c2 : Nat) (i : Int) (d : Def) (hd : d.Ok) (w : World) (hG : Glob w) :
    Calls Tryz.prog 164 #[.agg #[.slice A1 n1 c1, .slice A2 n2 c2], .int .i64 i, .agg #[.string d.name, .int .i64 d.key, .int .i64 d.val, .int .i64 d.ents]] w fun e w' => e = .returned (.int .i64 (mapE d)) ∧ Ext w w' := by
  have hV := fun W (h : Ext w W) => ident_Valid_any d.name W (by have := hd.name; omega) (hG.ext h)
  have HV := hx hV
  clear hV hG
  have e0 := (Ext.new w (.cells #[.slice A1 n1 c1, .slice A2 n2 c2] 50)).alloc (.cells #[.string d.name, .int .i64 d.key, .int .i64 d.val, .int .i64 d.ents] 81)
  have hV1 := HV.out _ e0
  cases hid : idB d.name with
  | false =>
    rw [hid] at hV1
    have hm : mapE d = 7 := by unfold mapE; rw [hid]; rfl
    rw [hm]; clear hm
    go_enter Tryz.func164, Tryz.ntmps164
    go_wp2_with (first | (go_at_call 188; refine hV1.mono ?_; rintro e w1 ⟨rfl, e1⟩; replace e1 := e0.trans e1))
    go_ret
    exact ⟨rfl, e1⟩
  | true =>
    rw [hid] at hV1
    have hm := hx (show mapE d = whenN (!inRg d.key 64 || !inRg d.val 256 || !inRg d.ents 1024) 9 by unfold mapE; rw [hid, sizesB_eq]; rfl)
    have c1' : ∀ w1, Ext ((w.alloc (.cells #[.slice A1 n1 c1, .slice A2 n2 c2] 50)).alloc (.cells #[.string d.name, .int .i64 d.key, .int .i64 d.val, .int .i64 d.ents] 81)) w1 →
        w1.cell? ⟨w.heap.size + 1, 1, none⟩ = some (.int .i64 d.key) ∧ w1.cell? ⟨w.heap.size + 1, 2, none⟩ = some (.int .i64 d.val) ∧ w1.cell? ⟨w.heap.size + 1, 3, none⟩ = some (.int .i64 d.ents) := fun w1 h => by
      refine ⟨h.cell ?_, h.cell ?_, h.cell ?_⟩ <;> simp
    have C1 := hx c1'
    clear c1'
    have hr1 := fun W => inRange_any d.key 64 W
    have hr2 := fun W => inRange_any d.val 256 W
    have hr3 := fun W => inRange_any d.ents 1024 W
    obtain ⟨B1, hB1⟩ : ∃ B, B = inRg d.key 64 := ⟨_, rfl⟩
    obtain ⟨B2, hB2⟩ : ∃ B, B = inRg d.val 256 := ⟨_, rfl⟩
    obtain ⟨B3, hB3⟩ : ∃ B, B = inRg d.ents 1024 := ⟨_, rfl⟩
    rw [← hB1] at hr1 hm
    rw [← hB2] at hr2 hm
    rw [← hB3] at hr3 hm
    clear hB1 hB2 hB3
    cases B1 with
    | false =>
      go_enter Tryz.func164, Tryz.ntmps164
      go_wp2_with (first
        | (go_at_call 188; refine hV1.mono ?_; rintro e w1 ⟨rfl, e1⟩; obtain ⟨k1, k2, k3⟩ := C1.out _ e1; replace e1 := e0.trans e1)
        | (go_at_call 189; refine (hr1 _).mono ?_; clear hr1; rintro e w' ⟨rfl, rfl⟩)
        | (go_at_call 189; refine (hr2 _).mono ?_; clear hr2; rintro e w' ⟨rfl, rfl⟩)
        | (go_at_call 189; refine (hr3 _).mono ?_; clear hr3; rintro e w' ⟨rfl, rfl⟩)
        | (go_at_call 169; refine (when_any _ _ _).mono ?_; rintro e w' ⟨rfl, rfl⟩))
      go_ret
      exact ⟨ret_int (by rw [hm.out]; rfl), e1⟩
    | true =>
      cases B2 with
      | false =>
        go_enter Tryz.func164, Tryz.ntmps164
        go_wp2_with (first
        | (go_at_call 188; refine hV1.mono ?_; rintro e w1 ⟨rfl, e1⟩; obtain ⟨k1, k2, k3⟩ := C1.out _ e1; replace e1 := e0.trans e1)
        | (go_at_call 189; refine (hr1 _).mono ?_; clear hr1; rintro e w' ⟨rfl, rfl⟩)
        | (go_at_call 189; refine (hr2 _).mono ?_; clear hr2; rintro e w' ⟨rfl, rfl⟩)
        | (go_at_call 189; refine (hr3 _).mono ?_; clear hr3; rintro e w' ⟨rfl, rfl⟩)
        | (go_at_call 169; refine (when_any _ _ _).mono ?_; rintro e w' ⟨rfl, rfl⟩))
        go_ret
        exact ⟨ret_int (by rw [hm.out]; rfl), e1⟩
      | true =>
        go_enter Tryz.func164, Tryz.ntmps164
        go_wp2_with (first
        | (go_at_call 188; refine hV1.mono ?_; rintro e w1 ⟨rfl, e1⟩; obtain ⟨k1, k2, k3⟩ := C1.out _ e1; replace e1 := e0.trans e1)
        | (go_at_call 189; refine (hr1 _).mono ?_; clear hr1; rintro e w' ⟨rfl, rfl⟩)
        | (go_at_call 189; refine (hr2 _).mono ?_; clear hr2; rintro e w' ⟨rfl, rfl⟩)
        | (go_at_call 189; refine (hr3 _).mono ?_; clear hr3; rintro e w' ⟨rfl, rfl⟩)
        | (go_at_call 169; refine (when_any _ _ _).mono ?_; rintro e w' ⟨rfl, rfl⟩))
        go_ret
        exact ⟨ret_int (by rw [hm.out]; rfl), e1⟩
end Go.Proofs.YtiaddncjghkajaaGreatDoor


set_option linter.unusedVariables false
set_option linter.unusedSimpArgs false
namespace Go.Proofs.YtiaddncjghkajaaGreatDoor
open Go.RowKit Go.Lib

set_option maxHeartbeats 400000 in
theorem maps_any (A1 A2 : Option Addr) (n1 c1 n2 c2 : Nat) (w : World) : Calls Tryz.prog 163 #[.agg #[.slice A1 n1 c1, .slice A2 n2 c2]] w fun e w' => e = .returned (.slice A1 n1 c1) ∧ Ext w w' := by
  go_enter Tryz.func163, Tryz.ntmps163
  go_wp2
  go_ret
  exact ⟨rfl, Ext.new _ _⟩
set_option maxHeartbeats 400000 in
theorem stmts_any (A1 A2 : Option Addr) (n1 c1 n2 c2 : Nat) (w : World) : Calls Tryz.prog 166 #[.agg #[.slice A1 n1 c1, .slice A2 n2 c2]] w fun e w' => e = .returned (.slice A2 n2 c2) ∧ Ext w w' := by
  go_enter Tryz.func166, Tryz.ntmps166
  go_wp2
  go_ret
  exact ⟨rfl, Ext.new _ _⟩

set_option maxRecDepth 20000 in
set_option maxHeartbeats 1000000 in
theorem repeated_any (v1 : Value) (A2 : Option Addr) (n2 c2 : Nat) (l : List Def) (w : World) (hl : l.length ≤ 100000) (hv : IsDefs w v1 l) :
    Calls Tryz.prog 171 #[.agg #[v1, .slice A2 n2 c2]] w fun e w' => e = .returned (.int .i64 (repN (l.map (·.name)))) ∧ Ext w w' := by
  obtain ⟨A, c, rfl, -, -, hv'⟩ := hv.form
  go_enter Tryz.func171, Tryz.ntmps171
  go_wp2
  go_loopw [3, 9] (fun u i wr => ∃ (pre suf : List Def) (ns : List ByteArray), l = pre ++ suf ∧ i = .int .i64 (pre.length : Nat) ∧ ns = pre.map (·.name) ∧ ns.length = pre.length ∧ OwnS wr w.heap.size u ns ∧ Ext w wr) (fun _ i _ => l.length - (RowKit.intOf i).toNat)
  case atStart => exact ⟨[], l, [], rfl, rfl, rfl, rfl, Own.nil _ _ _ _ _, Ext.new _ _⟩
  case round =>
    obtain ⟨pre, suf, ns, hl', rfl, hns, hnl, ho, he⟩ := hrel
    have HNS := hx hns
    have HNL := hx hnl
    clear hns hnl
    have hpl : pre.length ≤ 100000 := by have := congrArg List.length hl'; simp at this; omega
    have hsz := he.size
    obtain ⟨A3, c3, rfl⟩ := ho.slice
    cases suf with
    | cons x suf =>
      have hlt : pre.length < l.length := by rw [hl']; simp
      have hvx := hv'
      rw [hl'] at hvx
      obtain ⟨b, o, rfl, ⟨d1, d2, d3, d4⟩, -⟩ := hvx.at
      replace d1 := he.cell d1
      replace d2 := he.cell d2
      replace d3 := he.cell d3
      replace d4 := he.cell d4
      have HL := hx hl'; clear hl' hvx
      have o1 := ho.alloc (.cells #[.string x.name, .int .i64 x.key, .int .i64 x.val, .int .i64 x.ents] 81)
      go_wp2_with (at_builtin; refine wp_app1 tyS encS_ok o1 x.name rfl rfl rfl rfl (by rw [World.size_alloc]; rfl) (by simp; omega) (by decide) (by have := HNL.out; omega) ?_; intro g cap w1 o2 g2 a2 b2; have e2 := (he.alloc _).grown g2 o1.base_le)
      clear ho o1 he
      go_roundw
      case rel => exact ⟨pre ++ [x], suf, ns ++ [x.name], by simp [HL.out], by simp, by rw [HNS.out]; simp, by simp [HNL.out], o2, e2⟩
      case measure => simp [RowKit.intOf]; omega
    | nil =>
      obtain rfl : l = pre := by simpa using hl'
      clear hl'
      have hlt : ¬ l.length < l.length := by omega
      have hnb := hv'.all (p := fun d => d.name.size ≤ 140737488355328) (fun b o x h => h.2.name)
      have hrd : IsStrs wr (.slice A3 ns.length c3) ns := ho.read (fun s hs => by
        rw [HNS.out] at hs
        obtain ⟨d, hd, rfl⟩ := List.mem_map.1 hs
        exact hnb d hd) (by have := HNL.out; omega)
      have hc := ident_Repeated_any _ ns wr (by have := HNL.out; omega) hrd
      rw [show repN ns = repN (l.map (·.name)) by rw [HNS.out]] at hc
      clear hnb hrd
      go_wp2_with (first | (go_at_call 191; refine hc.mono ?_; rintro e w1 ⟨rfl, e1⟩))
      go_ret
      exact ⟨rfl, he.trans e1⟩
end Go.Proofs.YtiaddncjghkajaaGreatDoor


set_option linter.unusedVariables false
set_option linter.unusedSimpArgs false
namespace Go.Proofs.YtiaddncjghkajaaGreatDoor
open Go.RowKit Go.Lib

set_option maxRecDepth 20000 in
set_option maxHeartbeats 1000000 in
theorem rules1_any (A1 A2 : Option Addr) (n1 c1 n2 c2 : Nat) (i : Int) (d : Def) (w : World) :
    Calls Tryz.prog 168 #[.agg #[.slice A1 n1 c1, .slice A2 n2 c2], .int .i64 i, .agg #[.string d.name, .int .i64 d.key, .int .i64 d.val, .int .i64 d.ents]] w fun e w' => e = .returned (.int .i64 (whenN (decide (255 ≤ i)) 16)) ∧ Ext w w' := by
  obtain ⟨B, hB⟩ : ∃ B, B = decide (255 ≤ i) := ⟨_, rfl⟩
  have hw := fun W => when_any B 16 W
  rw [← hB]
  have HB := hx hB
  rw [hB] at hw
  clear hB
  go_enter Tryz.func168, Tryz.ntmps168
  go_wp2_with (first | (go_at_call 169; refine (hw _).mono ?_; rintro e w' ⟨rfl, rfl⟩))
  go_ret
  exact ⟨by rw [HB.out]; rfl, ((Ext.new _ _).alloc _)⟩
set_option maxRecDepth 20000 in
set_option maxHeartbeats 1000000 in
theorem rules2_any (v1 : Value) (A2 : Option Addr) (n2 c2 : Nat) (l : List Def) (i : Int) (d : Def) (w : World) (hl : l.length ≤ 100000) (hv : IsDefs w v1 l) :
    Calls Tryz.prog 170 #[.agg #[v1, .slice A2 n2 c2], .int .i64 i, .agg #[.string d.name, .int .i64 d.key, .int .i64 d.val, .int .i64 d.ents]] w fun e w' => e = .returned (.int .i64 (whenN (repN (l.map (·.name)) == i) 10)) ∧ Ext w w' := by
  have hr := fun W (h : Ext w W) => repeated_any v1 A2 n2 c2 l W hl (IsDefs.ext hv h)
  obtain ⟨A, c, rfl, -, -, hv'⟩ := hv.form
  have e0 := (Ext.new w (.cells #[.slice A l.length c, .slice A2 n2 c2] 50)).alloc (.cells #[.string d.name, .int .i64 d.key, .int .i64 d.val, .int .i64 d.ents] 81)
  have hr1 := hr _ e0
  clear hr
  generalize repN (l.map (·.name)) = R at *
  have hw := fun W => when_any (R == i) 10 W
  go_enter Tryz.func170, Tryz.ntmps170
  go_wp2_with (first | (go_at_call 171; refine hr1.mono ?_; rintro e w1 ⟨rfl, e1⟩; replace e1 := e0.trans e1) | (go_at_call 169; refine (hw _).mono ?_; rintro e w' ⟨rfl, rfl⟩))
  go_ret
  exact ⟨rfl, e1⟩
end Go.Proofs.YtiaddncjghkajaaGreatDoor
