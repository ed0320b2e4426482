/- The layer ident: Repeated of the program: over a map. -/
import Derived.Test.YtmnbalbiehlkpaaGreatDoorJRefChkE
import Derived.Maps.OwnOps
import Derived.Maps.OwnSet
import Derived.Test.YtmnbalbiehlkpaaGreatDoorJTab
import Derived.Laws.EntriesVeiled
set_option linter.unusedVariables false
set_option linter.unusedSimpArgs false
namespace Go.Proofs.YtmnbalbiehlkpaaGreatDoor
open Go.RowKit Go.Lib

theorem zeroBool (w : World) : (zeroValue 4).run Tryz.prog w = .ok (.bool false) w := by
 have h : (Tryz.prog.info? 4).map (fun i => i.zero) = some (some (.bool false)) := by kernel_rfl
 obtain ⟨i, hi, hz⟩ := Option.map_eq_some_iff.1 h
 simp [zeroValue, typeInfo, hi, hz]
def keyS (s : ByteArray) : Lit := .string s.data.toList
theorem keyS_inj {a b : ByteArray} (h : keyS a = keyS b) : a = b := by
 unfold keyS at h
 injection h with h
 exact ByteArray.ext (Array.ext' h)
/-- A map from texts to booleans, true just at some texts. -/
def SetS (w : World) (b n : Nat) (p : ByteArray → Bool) : Prop :=
 ∃ D : DataW Unit, w.ownsMap Tryz.prog 9 (plainElem Tryz.prog 4) b n D ∧ ∀ s, D.atKey (keyS s) (.lit (.bool false)) = .lit (.bool (p s))
theorem SetS.made (w : World) : SetS (w.alloc (.map #[] 0)) w.heap.size 0 (fun _ => false) := ⟨.map [], World.ownsMap_made _ _ _ _, fun s => rfl⟩
theorem SetS.ext {w w' : World} {b n : Nat} {p : ByteArray → Bool} (h : SetS w b n p) (he : Ext w w') : SetS w' b n p := by
 obtain ⟨D, h1, h2⟩ := h
 exact ⟨D, h1.kept (he.toGrown none) (by simp), h2⟩
set_option maxRecDepth 20000 in
theorem plainBool_inv {v : Value} {z : DataW Unit × List MemPlace} (h : plainElem Tryz.prog 4 v = some z) : ∃ x, v = .bool x ∧ z = (.lit (.bool x), []) := by
 unfold plainElem at h
 rw [Tryz.underlying4] at h
 cases v <;> simp at h
 exact ⟨_, rfl, h.symm⟩
set_option maxRecDepth 20000 in
theorem SetS.look {w : World} {b n : Nat} {p : ByteArray → Bool} (h : SetS w b n p) (s : ByteArray) (hs : s.size ≤ 140737488355328) :
  (Instr.lookup 271 (.map (some b)) (.string s) false).run Tryz.prog w = .ok (.bool (p s)) w := by
 obtain ⟨D, h1, h2⟩ := h
 obtain ⟨v, ps, hr, hv⟩ := h1.lookup (Maps.string_keyed Tryz.underlying9) Tryz.underlying271 (zeroBool w) (plainElem_bool Tryz.underlying4 false) (WideMaps.keyOf_string_mk Tryz.underlying9 (s := s) (by simp only [maxLen]; omega))
 obtain ⟨x, rfl, hx⟩ := plainBool_inv hv
 have h3 : (DataW.lit (.bool (p s)) : DataW Unit) = .lit (.bool x) := by rw [← h2 s]; exact congrArg Prod.fst hx
 injection h3 with h3
 injection h3 with h3
 rw [hr, h3]
set_option maxRecDepth 20000 in
theorem SetS.upd {w : World} {b n : Nat} {p : ByteArray → Bool} (h : SetS w b n p) (s : ByteArray) (hs : s.size ≤ 140737488355328) (hn : n < 1000000000) (x : Bool) :
  ∃ w', (Instr.mapUpdate 271 (.map (some b)) (.string s) (.bool x)).run Tryz.prog w = .ok () w' ∧ SetS w' b (n + 1) (fun y => if y = s then x else p y) ∧ w.grownBy w' (some b) := by
 obtain ⟨D, h1, h2⟩ := h
 obtain ⟨w', hr, h3, h4⟩ := h1.update (Maps.string_keyed Tryz.underlying9) Tryz.underlying271 (by simp only [maxLen]; omega) (WideMaps.keyOf_string_mk Tryz.underlying9 (s := s) (by simp only [maxLen]; omega)) (plainElem_bool Tryz.underlying4 x)
 refine ⟨w', hr, ⟨_, h3, fun y => ?_⟩, h4⟩
 by_cases hy : y = s
 ·subst hy
  show _ = DataW.lit (Lit.bool (if y = y then x else p y))
  rw [if_pos rfl]
  exact Maps.atKey_put_same h1.isMap (by trivial) _ _
 ·show _ = DataW.lit (Lit.bool (if y = s then x else p y))
  rw [if_neg hy, ← h2 y]
  exact Maps.atKey_put_other (fun e => hy (keyS_inj e)) _ _
/-- m[s] = x, as an operation. -/
theorem wp_mapUpd {ops : Array Oper} {rest : List Oper} {o : Oper} {a : Act} {Q : Exit → Act → World → Prop} {w : World} {b n : Nat} {p : ByteArray → Bool} (h : SetS w b n p) (s : ByteArray) (hs : s.size ≤ 140737488355328) (hn : n < 1000000000) (x : Bool) (hgd : o.guard = none) {m k v : Operand}
  (ho : o.op = .mapUpdate 271 m k v) (hm : a.eval m = .map (some b)) (hk : a.eval k = .string s) (hv : a.eval v = .bool x)
  (hK : ∀ w', SetS w' b (n + 1) (fun y => if y = s then x else p y) → w.grownBy w' (some b) → wpList Tryz.prog ops Q rest (a.put o.dst undef) w') : wpList Tryz.prog ops Q (o :: rest) a w := by
 refine wpList_plain hgd fun K hK' => ?_
 obtain ⟨w', hr, h1, h2⟩ := h.upd s hs hn x
 unfold Oper.wp
 simp [execOp, ho, hm, hk, hv, hr, Result.andThen]
 exact hK' _ _ (hK w' h1 h2)

set_option maxRecDepth 20000 in
set_option maxHeartbeats 1000000 in
theorem ident_Repeated_any (v : Value) (l : List ByteArray) (w : World) (hl : l.length ≤ 1000000) (hv : IsStrs w v l) :
  Calls Tryz.prog 200 #[v] w fun e w' => e = .returned (.int .i64 (repN l)) ∧ Ext w w' := by
 obtain ⟨A, c, rfl, -, -, hv'⟩ := hv.form
 have hmm := @run_makeMap Tryz.prog
 go_enter Tryz.func200, Tryz.ntmps200
 go_wp2
 clear hmm
 go_loopw [9] (fun i wr => ∃ pre suf : List ByteArray, l = pre ++ suf ∧ i = .int .i64 (pre.length : Nat) ∧ repN l = repA pre suf ∧ SetS wr w.heap.size pre.length (fun x => pre.any (fun y => decide (y = x))) ∧ Ext w wr) (fun i _ => l.length - (RowKit.intOf i).toNat)
 case atStart => exact ⟨[], l, rfl, rfl, rfl, SetS.made w, Ext.new _ _⟩
 case round =>
  obtain ⟨pre, suf, hl', rfl, hr, hm, he⟩ := hrel
  have HR := hx hr
  clear hr
  cases suf with
  | cons x suf =>
   have hlt : pre.length < l.length := by rw [hl']; simp
   have hvx := hv'
   rw [hl'] at hvx
   obtain ⟨b, o, rfl, d1⟩ := hvx.at
   have hxs := d1.2
   replace d1 := he.cell d1.1
   rw [Nat.mul_one] at d1
   have HL := hx hl'; clear hl' hvx
   have hlk := hm.look x hxs
   cases hany : pre.any (fun y => decide (y = x)) with
   | true =>
    rw [hany] at hlk
    have hrep := hx (show repA pre (x :: suf) = pre.length by rw [repA, if_pos hany])
    clear hany
    go_wp2
    go_ret
    exact ⟨ret_int (by rw [HR.out, hrep.out]), he⟩
   | false =>
    rw [hany] at hlk
    have hrep := hx (show repA pre (x :: suf) = repA (pre ++ [x]) suf by rw [repA, if_neg (by rw [hany]; simp)])
    clear hany
    go_wp2_with (refine wp_mapUpd hm x hxs (by omega) true rfl rfl (by rfl) (by rfl) (by rfl) ?_; intro w1 m1 g1)
    have e1 := he.grown g1 (fun k hk => by cases hk; exact Nat.le_refl _)
    clear hm he g1 hlk
    go_roundw
    case rel => exact ⟨pre ++ [x], suf, by simp [HL.out], by simp, by rw [HR.out, hrep.out], by
     have e : (fun y => if y = x then true else pre.any (fun z => decide (z = y))) = (fun y => (pre ++ [x]).any (fun z => decide (z = y))) := by
      funext y
      by_cases h : y = x
      ·subst h; simp
      ·have h' : ¬ x = y := fun e => h e.symm
       simp [h, h']
     rw [e] at m1
     simpa using m1, e1⟩
    case measure => simp [RowKit.intOf]; omega
  | nil =>
   obtain rfl : l = pre := by simpa using hl'
   clear hl'
   have hlt : ¬ l.length < l.length := by omega
   go_wp2
   go_ret
   exact ⟨ret_int (by rw [HR.out]; rfl), he⟩
end Go.Proofs.YtmnbalbiehlkpaaGreatDoor


set_option linter.unusedVariables false
set_option linter.unusedSimpArgs false
namespace Go.Proofs.YtmnbalbiehlkpaaGreatDoor
open Go.RowKit Go.Lib

def sizesB (d : Def) : Bool := decide (1 ≤ d.key ∧ d.key ≤ 64 ∧ 1 ≤ d.val ∧ d.val ≤ 256 ∧ 1 ≤ d.ents ∧ d.ents ≤ 1024)
def Def.v (d : Def) : Value := .agg #[.string d.name, .int .i64 d.key, .int .i64 d.val, .int .i64 d.ents]

set_option maxRecDepth 20000 in
set_option maxHeartbeats 1000000 in
theorem ref09_Sizes_any (d : Def) (w : World) :
  Calls Tryz.prog 42 #[.agg #[.string d.name, .int .i64 d.key, .int .i64 d.val, .int .i64 d.ents]] w fun e w' => e = .returned (.bool (sizesB d)) ∧ Ext w w' := by
 by_cases a1 : 1 ≤ d.key
 case neg =>
  have hs : sizesB d = false := by unfold sizesB; simp; omega
  rw [hs]; clear hs
  go_enter Tryz.func42, Tryz.ntmps42
  go_wp2
  go_ret
  exact ⟨rfl, Ext.new _ _⟩
 by_cases a2 : d.key ≤ 64
 case neg =>
  have hs : sizesB d = false := by unfold sizesB; simp; omega
  rw [hs]; clear hs
  go_enter Tryz.func42, Tryz.ntmps42
  go_wp2
  go_ret
  exact ⟨rfl, Ext.new _ _⟩
 by_cases a3 : 1 ≤ d.val
 case neg =>
  have hs : sizesB d = false := by unfold sizesB; simp; omega
  rw [hs]; clear hs
  go_enter Tryz.func42, Tryz.ntmps42
  go_wp2
  go_ret
  exact ⟨rfl, Ext.new _ _⟩
 by_cases a4 : d.val ≤ 256
 case neg =>
  have hs : sizesB d = false := by unfold sizesB; simp; omega
  rw [hs]; clear hs
  go_enter Tryz.func42, Tryz.ntmps42
  go_wp2
  go_ret
  exact ⟨rfl, Ext.new _ _⟩
 by_cases a5 : 1 ≤ d.ents
 case neg =>
  have hs : sizesB d = false := by unfold sizesB; simp; omega
  rw [hs]; clear hs
  go_enter Tryz.func42, Tryz.ntmps42
  go_wp2
  go_ret
  exact ⟨rfl, Ext.new _ _⟩
 by_cases a6 : d.ents ≤ 1024
 case neg =>
  have hs : sizesB d = false := by unfold sizesB; simp; omega
  rw [hs]; clear hs
  go_enter Tryz.func42, Tryz.ntmps42
  go_wp2
  go_ret
  exact ⟨rfl, Ext.new _ _⟩
 have hs : sizesB d = true := by unfold sizesB; simp; omega
 rw [hs]; clear hs
 go_enter Tryz.func42, Tryz.ntmps42
 go_wp2
 go_ret
 exact ⟨rfl, Ext.new _ _⟩
end Go.Proofs.YtmnbalbiehlkpaaGreatDoor


set_option linter.unusedVariables false
set_option linter.unusedSimpArgs false
namespace Go.Proofs.YtmnbalbiehlkpaaGreatDoor
open Go.RowKit Go.Lib

def whenN (b : Bool) (e : Int) : Int := if b then e else 0
set_option maxHeartbeats 400000 in
theorem when_any (b : Bool) (x : Int) (w : World) : Calls Tryz.prog 159 #[.bool b, .int .i64 x] w fun e w' => e = .returned (.int .i64 (whenN b x)) ∧ w' = w := by
 cases b with
 | true =>
  go_enter Tryz.func159, Tryz.ntmps159
  go_wp2
  go_ret
  exact ⟨rfl, rfl⟩
 | false =>
  go_enter Tryz.func159, Tryz.ntmps159
  go_wp2
  go_ret
  exact ⟨rfl, rfl⟩
def inRg (n m : Int) : Bool := decide (1 ≤ n ∧ n ≤ m)
set_option maxHeartbeats 400000 in
theorem inRange_any (n m : Int) (w : World) : Calls Tryz.prog 197 #[.int .i64 n, .int .i64 m] w fun e w' => e = .returned (.bool (inRg n m)) ∧ w' = w := by
 by_cases h : 1 ≤ n
 ·by_cases h2 : n ≤ m
  ·have hs : inRg n m = true := by unfold inRg; simp; omega
   rw [hs]; clear hs
   go_enter Tryz.func197, Tryz.ntmps197
   go_wp2
   go_ret
   exact ⟨ret_bool (by simp), rfl⟩
  ·have hs : inRg n m = false := by unfold inRg; simp; omega
   rw [hs]; clear hs
   go_enter Tryz.func197, Tryz.ntmps197
   go_wp2
   go_ret
   exact ⟨ret_bool (by simp), rfl⟩
 ·have hs : inRg n m = false := by unfold inRg; simp; omega
  rw [hs]; clear hs
  go_enter Tryz.func197, Tryz.ntmps197
  go_wp2
  go_ret
  exact ⟨rfl, rfl⟩
/-- What a map's declaration has wrong. -/
def mapE (d : Def) : Int := if idB d.name then whenN (!sizesB d) 9 else 7
theorem sizesB_eq (d : Def) : (!sizesB d) = (!inRg d.key 64 || !inRg d.val 256 || !inRg d.ents 1024) := by
 unfold sizesB inRg
 rw [← Bool.not_and, ← Bool.not_and]
 simp only [← Bool.decide_and]
 congr 2
 simp only [and_assoc]

set_option maxRecDepth 20000 in
set_option maxHeartbeats 2000000 in
theorem checkMap_any (A1 A2 : Option Addr) (n1 c1 n2 c2 : Nat) (i : Int) (d : Def) (hd : d.Ok) (w : World) (hG : GlobQ [d.name] w) :
  Calls Tryz.prog 154 #[.agg #[.slice A1 n1 c1, .slice A2 n2 c2], .int .i64 i, .agg #[.string d.name, .int .i64 d.key, .int .i64 d.val, .int .i64 d.ents]] w fun e w' => e = .returned (.int .i64 (mapE d)) ∧ Ext w w' := by
 have hV := fun W (h : Ext w W) => ident_Valid_any d.name W (by have := hd.name; omega) (hG.ext h)
 have HV := hx hV
 clear hV hG
 have e0 := (Ext.new w (.cells #[.slice A1 n1 c1, .slice A2 n2 c2] 25)).alloc (.cells #[.string d.name, .int .i64 d.key, .int .i64 d.val, .int .i64 d.ents] 100)
 have hV1 := HV.out _ e0
 cases hid : idB d.name with
 | false =>
  rw [hid] at hV1
  have hm : mapE d = 7 := by unfold mapE; rw [hid]; rfl
  rw [hm]; clear hm
  go_enter Tryz.func154, Tryz.ntmps154
  go_wp2_with (first | (go_at_call 196; refine hV1.mono ?_; rintro e w1 ⟨rfl, e1⟩; replace e1 := e0.trans e1))
  go_ret
  exact ⟨rfl, e1⟩
 | true =>
  rw [hid] at hV1
  have hm := hx (show mapE d = whenN (!inRg d.key 64 || !inRg d.val 256 || !inRg d.ents 1024) 9 by unfold mapE; rw [hid, sizesB_eq]; rfl)
  have c1' : ∀ w1, Ext ((w.alloc (.cells #[.slice A1 n1 c1, .slice A2 n2 c2] 25)).alloc (.cells #[.string d.name, .int .i64 d.key, .int .i64 d.val, .int .i64 d.ents] 100)) w1 →
    w1.cell? ⟨w.heap.size + 1, 1, none⟩ = some (.int .i64 d.key) ∧ w1.cell? ⟨w.heap.size + 1, 2, none⟩ = some (.int .i64 d.val) ∧ w1.cell? ⟨w.heap.size + 1, 3, none⟩ = some (.int .i64 d.ents) := fun w1 h => by
   refine ⟨h.cell ?_, h.cell ?_, h.cell ?_⟩ <;> simp
  have C1 := hx c1'
  clear c1'
  have hr1 := fun W => inRange_any d.key 64 W
  have hr2 := fun W => inRange_any d.val 256 W
  have hr3 := fun W => inRange_any d.ents 1024 W
  obtain ⟨B1, hB1⟩ : ∃ B, B = inRg d.key 64 := ⟨_, rfl⟩
  obtain ⟨B2, hB2⟩ : ∃ B, B = inRg d.val 256 := ⟨_, rfl⟩
  obtain ⟨B3, hB3⟩ : ∃ B, B = inRg d.ents 1024 := ⟨_, rfl⟩
  rw [← hB1] at hr1 hm
  rw [← hB2] at hr2 hm
  rw [← hB3] at hr3 hm
  clear hB1 hB2 hB3
  cases B1 with
  | false =>
   go_enter Tryz.func154, Tryz.ntmps154
   go_wp2_with (first
    | (go_at_call 196; refine hV1.mono ?_; rintro e w1 ⟨rfl, e1⟩; obtain ⟨k1, k2, k3⟩ := C1.out _ e1; replace e1 := e0.trans e1)
    | (go_at_call 197; refine (hr1 _).mono ?_; clear hr1; rintro e w' ⟨rfl, rfl⟩)
    | (go_at_call 197; refine (hr2 _).mono ?_; clear hr2; rintro e w' ⟨rfl, rfl⟩)
    | (go_at_call 197; refine (hr3 _).mono ?_; clear hr3; rintro e w' ⟨rfl, rfl⟩)
    | (go_at_call 159; refine (when_any _ _ _).mono ?_; rintro e w' ⟨rfl, rfl⟩))
   go_ret
   exact ⟨ret_int (by rw [hm.out]; rfl), e1⟩
  | true =>
   cases B2 with
   | false =>
    go_enter Tryz.func154, Tryz.ntmps154
    go_wp2_with (first
    | (go_at_call 196; refine hV1.mono ?_; rintro e w1 ⟨rfl, e1⟩; obtain ⟨k1, k2, k3⟩ := C1.out _ e1; replace e1 := e0.trans e1)
    | (go_at_call 197; refine (hr1 _).mono ?_; clear hr1; rintro e w' ⟨rfl, rfl⟩)
    | (go_at_call 197; refine (hr2 _).mono ?_; clear hr2; rintro e w' ⟨rfl, rfl⟩)
    | (go_at_call 197; refine (hr3 _).mono ?_; clear hr3; rintro e w' ⟨rfl, rfl⟩)
    | (go_at_call 159; refine (when_any _ _ _).mono ?_; rintro e w' ⟨rfl, rfl⟩))
    go_ret
    exact ⟨ret_int (by rw [hm.out]; rfl), e1⟩
   | true =>
    go_enter Tryz.func154, Tryz.ntmps154
    go_wp2_with (first
    | (go_at_call 196; refine hV1.mono ?_; rintro e w1 ⟨rfl, e1⟩; obtain ⟨k1, k2, k3⟩ := C1.out _ e1; replace e1 := e0.trans e1)
    | (go_at_call 197; refine (hr1 _).mono ?_; clear hr1; rintro e w' ⟨rfl, rfl⟩)
    | (go_at_call 197; refine (hr2 _).mono ?_; clear hr2; rintro e w' ⟨rfl, rfl⟩)
    | (go_at_call 197; refine (hr3 _).mono ?_; clear hr3; rintro e w' ⟨rfl, rfl⟩)
    | (go_at_call 159; refine (when_any _ _ _).mono ?_; rintro e w' ⟨rfl, rfl⟩))
    go_ret
    exact ⟨ret_int (by rw [hm.out]; rfl), e1⟩
end Go.Proofs.YtmnbalbiehlkpaaGreatDoor


set_option linter.unusedVariables false
set_option linter.unusedSimpArgs false
namespace Go.Proofs.YtmnbalbiehlkpaaGreatDoor
open Go.RowKit Go.Lib

set_option maxHeartbeats 400000 in
theorem maps_any (A1 A2 : Option Addr) (n1 c1 n2 c2 : Nat) (w : World) : Calls Tryz.prog 153 #[.agg #[.slice A1 n1 c1, .slice A2 n2 c2]] w fun e w' => e = .returned (.slice A1 n1 c1) ∧ Ext w w' := by
 go_enter Tryz.func153, Tryz.ntmps153
 go_wp2
 go_ret
 exact ⟨rfl, Ext.new _ _⟩
set_option maxHeartbeats 400000 in
theorem stmts_any (A1 A2 : Option Addr) (n1 c1 n2 c2 : Nat) (w : World) : Calls Tryz.prog 156 #[.agg #[.slice A1 n1 c1, .slice A2 n2 c2]] w fun e w' => e = .returned (.slice A2 n2 c2) ∧ Ext w w' := by
 go_enter Tryz.func156, Tryz.ntmps156
 go_wp2
 go_ret
 exact ⟨rfl, Ext.new _ _⟩

set_option maxRecDepth 20000 in
set_option maxHeartbeats 1000000 in
theorem repeated_any (v1 : Value) (A2 : Option Addr) (n2 c2 : Nat) (l : List Def) (w : World) (hl : l.length ≤ 100000) (hv : IsDefs w v1 l) :
  Calls Tryz.prog 161 #[.agg #[v1, .slice A2 n2 c2]] w fun e w' => e = .returned (.int .i64 (repN (l.map (·.name)))) ∧ Ext w w' := by
 obtain ⟨A, c, rfl, -, -, hv'⟩ := hv.form
 go_enter Tryz.func161, Tryz.ntmps161
 go_wp2
 go_loopw [3, 9] (fun u i wr => ∃ (pre suf : List Def) (ns : List ByteArray), l = pre ++ suf ∧ i = .int .i64 (pre.length : Nat) ∧ ns = pre.map (·.name) ∧ ns.length = pre.length ∧ OwnS wr w.heap.size u ns ∧ Ext w wr) (fun _ i _ => l.length - (RowKit.intOf i).toNat)
 case atStart => exact ⟨[], l, [], rfl, rfl, rfl, rfl, Own.nil _ _ _ _ _, Ext.new _ _⟩
 case round =>
  obtain ⟨pre, suf, ns, hl', rfl, hns, hnl, ho, he⟩ := hrel
  have HNS := hx hns
  have HNL := hx hnl
  clear hns hnl
  have hpl : pre.length ≤ 100000 := by have := congrArg List.length hl'; simp at this; omega
  have hsz := he.size
  obtain ⟨A3, c3, rfl⟩ := ho.slice
  cases suf with
  | cons x suf =>
   have hlt : pre.length < l.length := by rw [hl']; simp
   have hvx := hv'
   rw [hl'] at hvx
   obtain ⟨b, o, rfl, ⟨d1, d2, d3, d4⟩, -⟩ := hvx.at
   replace d1 := he.cell d1
   replace d2 := he.cell d2
   replace d3 := he.cell d3
   replace d4 := he.cell d4
   have HL := hx hl'; clear hl' hvx
   have o1 := ho.alloc (.cells #[.string x.name, .int .i64 x.key, .int .i64 x.val, .int .i64 x.ents] 100)
   go_wp2_with (at_builtin; refine wp_app1 tyS encS_ok o1 x.name rfl rfl rfl rfl (by rw [World.size_alloc]; rfl) (by simp; omega) (by decide) (by have := HNL.out; omega) ?_; intro g cap w1 o2 g2 a2 b2; have e2 := (he.alloc _).grown g2 o1.base_le)
   clear ho o1 he
   go_roundw
   case rel => exact ⟨pre ++ [x], suf, ns ++ [x.name], by simp [HL.out], by simp, by rw [HNS.out]; simp, by simp [HNL.out], o2, e2⟩
   case measure => simp [RowKit.intOf]; omega
  | nil =>
   obtain rfl : l = pre := by simpa using hl'
   clear hl'
   have hlt : ¬ l.length < l.length := by omega
   have hnb := hv'.all (p := fun d => d.name.size ≤ 140737488355328) (fun b o x h => h.2.name)
   have hrd : IsStrs wr (.slice A3 ns.length c3) ns := ho.read (fun s hs => by
    rw [HNS.out] at hs
    obtain ⟨d, hd, rfl⟩ := List.mem_map.1 hs
    exact hnb d hd) (by have := HNL.out; omega)
   have hc := ident_Repeated_any _ ns wr (by have := HNL.out; omega) hrd
   rw [show repN ns = repN (l.map (·.name)) by rw [HNS.out]] at hc
   clear hnb hrd
   go_wp2_with (first | (go_at_call 200; refine hc.mono ?_; rintro e w1 ⟨rfl, e1⟩))
   go_ret
   exact ⟨rfl, he.trans e1⟩
end Go.Proofs.YtmnbalbiehlkpaaGreatDoor


set_option linter.unusedVariables false
set_option linter.unusedSimpArgs false
namespace Go.Proofs.YtmnbalbiehlkpaaGreatDoor
open Go.RowKit Go.Lib

set_option maxRecDepth 20000 in
set_option maxHeartbeats 1000000 in
theorem rules1_any (A1 A2 : Option Addr) (n1 c1 n2 c2 : Nat) (i : Int) (d : Def) (w : World) :
  Calls Tryz.prog 158 #[.agg #[.slice A1 n1 c1, .slice A2 n2 c2], .int .i64 i, .agg #[.string d.name, .int .i64 d.key, .int .i64 d.val, .int .i64 d.ents]] w fun e w' => e = .returned (.int .i64 (whenN (decide (255 ≤ i)) 16)) ∧ Ext w w' := by
 obtain ⟨B, hB⟩ : ∃ B, B = decide (255 ≤ i) := ⟨_, rfl⟩
 have hw := fun W => when_any B 16 W
 rw [← hB]
 have HB := hx hB
 rw [hB] at hw
 clear hB
 go_enter Tryz.func158, Tryz.ntmps158
 go_wp2_with (first | (go_at_call 159; refine (hw _).mono ?_; rintro e w' ⟨rfl, rfl⟩))
 go_ret
 exact ⟨by rw [HB.out]; rfl, ((Ext.new _ _).alloc _)⟩
set_option maxRecDepth 20000 in
set_option maxHeartbeats 1000000 in
theorem rules2_any (v1 : Value) (A2 : Option Addr) (n2 c2 : Nat) (l : List Def) (i : Int) (d : Def) (w : World) (hl : l.length ≤ 100000) (hv : IsDefs w v1 l) :
  Calls Tryz.prog 160 #[.agg #[v1, .slice A2 n2 c2], .int .i64 i, .agg #[.string d.name, .int .i64 d.key, .int .i64 d.val, .int .i64 d.ents]] w fun e w' => e = .returned (.int .i64 (whenN (repN (l.map (·.name)) == i) 10)) ∧ Ext w w' := by
 have hr := fun W (h : Ext w W) => repeated_any v1 A2 n2 c2 l W hl (IsDefs.ext hv h)
 obtain ⟨A, c, rfl, -, -, hv'⟩ := hv.form
 have e0 := (Ext.new w (.cells #[.slice A l.length c, .slice A2 n2 c2] 25)).alloc (.cells #[.string d.name, .int .i64 d.key, .int .i64 d.val, .int .i64 d.ents] 100)
 have hr1 := hr _ e0
 clear hr
 generalize repN (l.map (·.name)) = R at *
 have hw := fun W => when_any (R == i) 10 W
 go_enter Tryz.func160, Tryz.ntmps160
 go_wp2_with (first | (go_at_call 161; refine hr1.mono ?_; rintro e w1 ⟨rfl, e1⟩; replace e1 := e0.trans e1) | (go_at_call 159; refine (hw _).mono ?_; rintro e w' ⟨rfl, rfl⟩))
 go_ret
 exact ⟨rfl, e1⟩
end Go.Proofs.YtmnbalbiehlkpaaGreatDoor


set_option linter.unusedVariables false
set_option linter.unusedSimpArgs false
namespace Go.Proofs.YtmnbalbiehlkpaaGreatDoor
open Go.RowKit Go.Lib

set_option maxRecDepth 20000 in
set_option maxHeartbeats 1000000 in
theorem eachDef_any (f1 f2 : Nat) (w : World) :
  Calls Tryz.prog 152 #[.func (.func f1) #[] #[], .func (.func f2) #[] #[]] w fun e w' => e = .returned (.agg #[.func (.func 195) #[] #[.pointer (some ⟨w.heap.size, 0, none⟩), .pointer (some ⟨w.heap.size + 1, 0, none⟩)]]) ∧ Ext w w' ∧
   w'.cell? ⟨w.heap.size, 0, none⟩ = some (.func (.func f1) #[] #[]) ∧ w'.cell? ⟨w.heap.size + 1, 0, none⟩ = some (.func (.func f2) #[] #[]) := by
 go_enter Tryz.func152, Tryz.ntmps152
 go_wp2
 have hb := heap_alloc_new ((w.alloc (.cells #[.func (.func f1) #[] #[]] 233)).alloc (.cells #[.func (.func f2) #[] #[]] 234)) (.cells #[.func (.func 195) #[] #[.pointer (some ⟨w.heap.size, 0, none⟩), .pointer (some ⟨w.heap.size + 1, 0, none⟩)]] 188)
 rw [World.size_alloc, World.size_alloc] at hb
 refine bodyPost_ret (results_cell_row rfl _ _ (w.heap.size + 1 + 1) 188 _ _ _ rfl hb Tryz.underlying188 rfl (by kernel_rfl)) rfl ?_
 have k1 : (w.alloc (.cells #[.func (.func f1) #[] #[]] 233)).cell? ⟨w.heap.size, 0, none⟩ = some (.func (.func f1) #[] #[]) := by simp
 have k2 : ((w.alloc (.cells #[.func (.func f1) #[] #[]] 233)).alloc (.cells #[.func (.func f2) #[] #[]] 234)).cell? ⟨w.heap.size + 1, 0, none⟩ = some (.func (.func f2) #[] #[]) := by simp
 exact ⟨rfl, ((Ext.new _ _).alloc _).alloc _, ((Ext.new _ _).alloc _).cell k1, (Ext.new _ _).cell k2⟩
set_option maxRecDepth 20000 in
set_option maxHeartbeats 1000000 in
theorem eachStmt_any (f1 f2 : Nat) (w : World) :
  Calls Tryz.prog 155 #[.func (.func f1) #[] #[], .func (.func f2) #[] #[]] w fun e w' => e = .returned (.agg #[.func (.func 198) #[] #[.pointer (some ⟨w.heap.size, 0, none⟩), .pointer (some ⟨w.heap.size + 1, 0, none⟩)]]) ∧ Ext w w' ∧
   w'.cell? ⟨w.heap.size, 0, none⟩ = some (.func (.func f1) #[] #[]) ∧ w'.cell? ⟨w.heap.size + 1, 0, none⟩ = some (.func (.func f2) #[] #[]) := by
 go_enter Tryz.func155, Tryz.ntmps155
 go_wp2
 have hb := heap_alloc_new ((w.alloc (.cells #[.func (.func f1) #[] #[]] 236)).alloc (.cells #[.func (.func f2) #[] #[]] 237)) (.cells #[.func (.func 198) #[] #[.pointer (some ⟨w.heap.size, 0, none⟩), .pointer (some ⟨w.heap.size + 1, 0, none⟩)]] 188)
 rw [World.size_alloc, World.size_alloc] at hb
 refine bodyPost_ret (results_cell_row rfl _ _ (w.heap.size + 1 + 1) 188 _ _ _ rfl hb Tryz.underlying188 rfl (by kernel_rfl)) rfl ?_
 have k1 : (w.alloc (.cells #[.func (.func f1) #[] #[]] 236)).cell? ⟨w.heap.size, 0, none⟩ = some (.func (.func f1) #[] #[]) := by simp
 have k2 : ((w.alloc (.cells #[.func (.func f1) #[] #[]] 236)).alloc (.cells #[.func (.func f2) #[] #[]] 237)).cell? ⟨w.heap.size + 1, 0, none⟩ = some (.func (.func f2) #[] #[]) := by simp
 exact ⟨rfl, ((Ext.new _ _).alloc _).alloc _, ((Ext.new _ _).alloc _).cell k1, (Ext.new _ _).cell k2⟩
end Go.Proofs.YtmnbalbiehlkpaaGreatDoor


set_option linter.unusedVariables false
set_option linter.unusedSimpArgs false
namespace Go.Proofs.YtmnbalbiehlkpaaGreatDoor
open Go.RowKit Go.Lib

/-- The first element with an error, and the error. -/
def findA (chk : Int → Def → Int) : Int → List Def → Int × Int
 | _, [] => (0, 0)
 | i, d :: l => if chk i d = 0 then findA chk (i + 1) l else (i, chk i d)
def findV (r : Int × Int) : Value := .agg #[.int .i64 r.1, .int .i64 r.2]

theorem two_set {W : World} {g : Nat} {a b : Value} {t : TypeId} (x y : Value) (h : W.heap[g]? = some (.cells #[a, b] t (0, 0))) : ((W.setCell ⟨g, 0, none⟩ x).setCell ⟨g, 1, none⟩ y).heap[g]? = some (.cells #[x, y] t (0, 0)) := by
 simp [World.setCell, Array.getElem?_modify, h]
set_option maxRecDepth 20000 in
set_option maxHeartbeats 1000000 in
theorem eachDef1_any (B1 B2 : Nat) (v1 : Value) (A2 : Option Addr) (n2 c2 : Nat) (l : List Def) (chk : Int → Def → Int) (w : World) (hl : l.length ≤ 100000) (hv : IsDefs w v1 l)
  (h1 : w.cell? ⟨B1, 0, none⟩ = some (.func (.func 153) #[] #[])) (h2 : w.cell? ⟨B2, 0, none⟩ = some (.func (.func 154) #[] #[]))
  (hn1 : w.cell? ⟨0, 0, none⟩ = some (.int .i64 0)) (hn2 : w.cell? ⟨0, 1, none⟩ = some (.int .i64 0))
  (hc : ∀ (i : Int) (d : Def) (W : World), Ext w W → d ∈ l → Calls Tryz.prog 154 #[.agg #[v1, .slice A2 n2 c2], .int .i64 i, .agg #[.string d.name, .int .i64 d.key, .int .i64 d.val, .int .i64 d.ents]] W fun e w' => e = .returned (.int .i64 (chk i d)) ∧ Ext W w') :
  Calls Tryz.prog 195 #[.agg #[v1, .slice A2 n2 c2], .pointer (some ⟨B1, 0, none⟩), .pointer (some ⟨B2, 0, none⟩)] w fun e w' => e = .returned (findV (findA chk 0 l)) ∧ Ext w w' := by
 obtain ⟨A, c, rfl, -, -, hv'⟩ := hv.form
 have e0 := (Ext.new w (.cells #[.slice A l.length c, .slice A2 n2 c2] 25)).alloc (.cells #[.int .i64 0, .int .i64 0] 146)
 have k1 := e0.cell h1
 have hm := maps_any A A2 l.length c n2 c2 ((w.alloc (.cells #[.slice A l.length c, .slice A2 n2 c2] 25)).alloc (.cells #[.int .i64 0, .int .i64 0] 146))
 have HC := hx hc
 clear hc
 go_enter Tryz.func195, Tryz.ntmps195
 have p1 : ((w.alloc (.cells #[.slice A l.length c, .slice A2 n2 c2] 25)).alloc (.cells #[.int .i64 0, .int .i64 0] 146)).cell? ⟨w.heap.size, 0, none⟩ = some (.slice A l.length c) := by simp
 have p2 : ((w.alloc (.cells #[.slice A l.length c, .slice A2 n2 c2] 25)).alloc (.cells #[.int .i64 0, .int .i64 0] 146)).cell? ⟨w.heap.size, 1, none⟩ = some (.slice A2 n2 c2) := by simp
 have p3 := heap_alloc_new (w.alloc (.cells #[.slice A l.length c, .slice A2 n2 c2] 25)) (.cells #[.int .i64 0, .int .i64 0] 146)
 rw [World.size_alloc] at p3
 generalize hW0 : (w.alloc (.cells #[.slice A l.length c, .slice A2 n2 c2] 25)).alloc (.cells #[.int .i64 0, .int .i64 0] 146) = W0 at e0 p1 p2 p3
 have HW0 := hx hW0
 clear hW0
 go_wp2_with (first | (go_at_call 153; refine hm.mono ?_; rintro e w1 ⟨rfl, e1⟩))
 rw [HW0.out] at e1
 go_loopw [12] (fun i wr => ∃ pre suf : List Def, l = pre ++ suf ∧ i = .int .i64 (pre.length : Nat) ∧ findA chk 0 l = findA chk pre.length suf ∧ Ext W0 wr) (fun i _ => l.length - (RowKit.intOf i).toNat)
 case atStart => exact ⟨[], l, rfl, rfl, rfl, e1⟩
 case round =>
  clear e1
  obtain ⟨pre, suf, hl', rfl, hr, he⟩ := hrel
  have HR := hx hr
  clear hr
  have q1 := he.cell p1
  have q2 := he.cell p2
  have q3 := he.obj p3
  have ew := e0.trans he
  have b2 := ew.cell h2
  have g1 := ew.cell hn1
  have g2 := ew.cell hn2
  have z1 : wr.cell? ⟨w.heap.size + 1, 0, none⟩ = some (.int .i64 0) := by simp [World.cell?, q3]
  have z2 : wr.cell? ⟨w.heap.size + 1, 1, none⟩ = some (.int .i64 0) := by simp [World.cell?, q3]
  have y1 : wr.frozen? ⟨w.heap.size + 1, 0, none⟩ = false := by simp [World.frozen?, q3]
  have y2 : wr.frozen? ⟨w.heap.size + 1, 1, none⟩ = false := by simp [World.frozen?, q3]
  cases suf with
  | cons x suf =>
   have hlt : pre.length < l.length := by rw [hl']; simp
   have hmem : x ∈ l := by rw [hl']; simp
   have hvx := hv'
   rw [hl'] at hvx
   obtain ⟨b, o, rfl, ⟨d1, d2, d3, d4⟩, -⟩ := hvx.at
   replace d1 := ew.cell d1
   replace d2 := ew.cell d2
   replace d3 := ew.cell d3
   replace d4 := ew.cell d4
   have HL := hx hl'; clear hl' hvx
   have hcx := HC.out pre.length x _ (ew.alloc (.cells #[.string x.name, .int .i64 x.key, .int .i64 x.val, .int .i64 x.ents] 100)) hmem
   have b2' := (Ext.new wr (.cells #[.string x.name, .int .i64 x.key, .int .i64 x.val, .int .i64 x.ents] 100)).cell b2
   have q1' := (Ext.new wr (.cells #[.string x.name, .int .i64 x.key, .int .i64 x.val, .int .i64 x.ents] 100)).cell q1
   have q2' := (Ext.new wr (.cells #[.string x.name, .int .i64 x.key, .int .i64 x.val, .int .i64 x.ents] 100)).cell q2
   by_cases hch : chk pre.length x = 0
   ·have hf := hx (show findA chk pre.length (x :: suf) = findA chk (pre.length + 1) suf by rw [findA, if_pos hch])
    rw [hch] at hcx
    clear hch
    go_wp2_with (first | (go_at_call 154; refine hcx.mono ?_; rintro e w2 ⟨rfl, e2⟩; replace e2 := (Ext.new wr _).trans e2; have q4 := e2.obj q3; have z1' := e2.cell z1; have z2' := e2.cell z2; have y1' : w2.frozen? ⟨w.heap.size + 1, 0, none⟩ = false := (by simp [World.frozen?, q4]); have y2' : w2.frozen? ⟨w.heap.size + 1, 1, none⟩ = false := (by simp [World.frozen?, q4])))
    go_roundw
    case rel => exact ⟨pre ++ [x], suf, by simp [HL.out], by simp, by rw [HR.out, hf.out]; simp, he.trans e2⟩
    case measure => simp [RowKit.intOf]; omega
   ·have hne : (chk (pre.length : Int) x != 0) = true := by simpa using hch
    go_wp2_with (first | (go_at_call 154; refine hcx.mono ?_; rintro e w2 ⟨rfl, e2⟩; replace e2 := (Ext.new wr _).trans e2; have q4 := e2.obj q3; have z1' := e2.cell z1; have z2' := e2.cell z2; have y1' : w2.frozen? ⟨w.heap.size + 1, 0, none⟩ = false := (by simp [World.frozen?, q4]); have y2' : w2.frozen? ⟨w.heap.size + 1, 1, none⟩ = false := (by simp [World.frozen?, q4])))
    refine bodyPost_ret (results_cell_row rfl _ _ (w.heap.size + 1) 146 _ _ _ rfl (two_set _ _ q4) Tryz.underlying146 rfl (by kernel_rfl)) rfl ?_
    exact ⟨by rw [HR.out, findA, if_neg hch]; rfl, ((ew.trans e2).setCell (a := ⟨w.heap.size + 1, 0, none⟩) _ (by simp)).setCell (a := ⟨w.heap.size + 1, 1, none⟩) _ (by simp)⟩
  | nil =>
   obtain rfl : l = pre := by simpa using hl'
   clear hl'
   have hlt : ¬ l.length < l.length := by omega
   go_wp2
   refine bodyPost_ret (results_cell_row rfl _ _ (w.heap.size + 1) 146 _ _ _ rfl (two_set _ _ q3) Tryz.underlying146 rfl (by kernel_rfl)) rfl ?_
   exact ⟨by rw [HR.out]; rfl, (ew.setCell (a := ⟨w.heap.size + 1, 0, none⟩) _ (by simp)).setCell (a := ⟨w.heap.size + 1, 1, none⟩) _ (by simp)⟩
end Go.Proofs.YtmnbalbiehlkpaaGreatDoor


set_option linter.unusedVariables false
set_option linter.unusedSimpArgs false
namespace Go.Proofs.YtmnbalbiehlkpaaGreatDoor
open Go.RowKit Go.Lib

set_option maxRecDepth 20000 in
set_option maxHeartbeats 1000000 in
theorem eachDefR1_any (B1 B2 : Nat) (v1 : Value) (A2 : Option Addr) (n2 c2 : Nat) (l : List Def) (chk : Int → Def → Int) (w : World) (hl : l.length ≤ 100000) (hv : IsDefs w v1 l)
  (h1 : w.cell? ⟨B1, 0, none⟩ = some (.func (.func 153) #[] #[])) (h2 : w.cell? ⟨B2, 0, none⟩ = some (.func (.func 158) #[] #[]))
  (hn1 : w.cell? ⟨0, 0, none⟩ = some (.int .i64 0)) (hn2 : w.cell? ⟨0, 1, none⟩ = some (.int .i64 0))
  (hc : ∀ (i : Int) (d : Def) (W : World), Ext w W → d ∈ l → Calls Tryz.prog 158 #[.agg #[v1, .slice A2 n2 c2], .int .i64 i, .agg #[.string d.name, .int .i64 d.key, .int .i64 d.val, .int .i64 d.ents]] W fun e w' => e = .returned (.int .i64 (chk i d)) ∧ Ext W w') :
  Calls Tryz.prog 195 #[.agg #[v1, .slice A2 n2 c2], .pointer (some ⟨B1, 0, none⟩), .pointer (some ⟨B2, 0, none⟩)] w fun e w' => e = .returned (findV (findA chk 0 l)) ∧ Ext w w' := by
 obtain ⟨A, c, rfl, -, -, hv'⟩ := hv.form
 have e0 := (Ext.new w (.cells #[.slice A l.length c, .slice A2 n2 c2] 25)).alloc (.cells #[.int .i64 0, .int .i64 0] 146)
 have k1 := e0.cell h1
 have hm := maps_any A A2 l.length c n2 c2 ((w.alloc (.cells #[.slice A l.length c, .slice A2 n2 c2] 25)).alloc (.cells #[.int .i64 0, .int .i64 0] 146))
 have HC := hx hc
 clear hc
 go_enter Tryz.func195, Tryz.ntmps195
 have p1 : ((w.alloc (.cells #[.slice A l.length c, .slice A2 n2 c2] 25)).alloc (.cells #[.int .i64 0, .int .i64 0] 146)).cell? ⟨w.heap.size, 0, none⟩ = some (.slice A l.length c) := by simp
 have p2 : ((w.alloc (.cells #[.slice A l.length c, .slice A2 n2 c2] 25)).alloc (.cells #[.int .i64 0, .int .i64 0] 146)).cell? ⟨w.heap.size, 1, none⟩ = some (.slice A2 n2 c2) := by simp
 have p3 := heap_alloc_new (w.alloc (.cells #[.slice A l.length c, .slice A2 n2 c2] 25)) (.cells #[.int .i64 0, .int .i64 0] 146)
 rw [World.size_alloc] at p3
 generalize hW0 : (w.alloc (.cells #[.slice A l.length c, .slice A2 n2 c2] 25)).alloc (.cells #[.int .i64 0, .int .i64 0] 146) = W0 at e0 p1 p2 p3
 have HW0 := hx hW0
 clear hW0
 go_wp2_with (first | (go_at_call 153; refine hm.mono ?_; rintro e w1 ⟨rfl, e1⟩))
 rw [HW0.out] at e1
 go_loopw [12] (fun i wr => ∃ pre suf : List Def, l = pre ++ suf ∧ i = .int .i64 (pre.length : Nat) ∧ findA chk 0 l = findA chk pre.length suf ∧ Ext W0 wr) (fun i _ => l.length - (RowKit.intOf i).toNat)
 case atStart => exact ⟨[], l, rfl, rfl, rfl, e1⟩
 case round =>
  clear e1
  obtain ⟨pre, suf, hl', rfl, hr, he⟩ := hrel
  have HR := hx hr
  clear hr
  have q1 := he.cell p1
  have q2 := he.cell p2
  have q3 := he.obj p3
  have ew := e0.trans he
  have b2 := ew.cell h2
  have g1 := ew.cell hn1
  have g2 := ew.cell hn2
  have z1 : wr.cell? ⟨w.heap.size + 1, 0, none⟩ = some (.int .i64 0) := by simp [World.cell?, q3]
  have z2 : wr.cell? ⟨w.heap.size + 1, 1, none⟩ = some (.int .i64 0) := by simp [World.cell?, q3]
  have y1 : wr.frozen? ⟨w.heap.size + 1, 0, none⟩ = false := by simp [World.frozen?, q3]
  have y2 : wr.frozen? ⟨w.heap.size + 1, 1, none⟩ = false := by simp [World.frozen?, q3]
  cases suf with
  | cons x suf =>
   have hlt : pre.length < l.length := by rw [hl']; simp
   have hmem : x ∈ l := by rw [hl']; simp
   have hvx := hv'
   rw [hl'] at hvx
   obtain ⟨b, o, rfl, ⟨d1, d2, d3, d4⟩, -⟩ := hvx.at
   replace d1 := ew.cell d1
   replace d2 := ew.cell d2
   replace d3 := ew.cell d3
   replace d4 := ew.cell d4
   have HL := hx hl'; clear hl' hvx
   have hcx := HC.out pre.length x _ (ew.alloc (.cells #[.string x.name, .int .i64 x.key, .int .i64 x.val, .int .i64 x.ents] 100)) hmem
   have b2' := (Ext.new wr (.cells #[.string x.name, .int .i64 x.key, .int .i64 x.val, .int .i64 x.ents] 100)).cell b2
   have q1' := (Ext.new wr (.cells #[.string x.name, .int .i64 x.key, .int .i64 x.val, .int .i64 x.ents] 100)).cell q1
   have q2' := (Ext.new wr (.cells #[.string x.name, .int .i64 x.key, .int .i64 x.val, .int .i64 x.ents] 100)).cell q2
   by_cases hch : chk pre.length x = 0
   ·have hf := hx (show findA chk pre.length (x :: suf) = findA chk (pre.length + 1) suf by rw [findA, if_pos hch])
    rw [hch] at hcx
    clear hch
    go_wp2_with (first | (go_at_call 158; refine hcx.mono ?_; rintro e w2 ⟨rfl, e2⟩; replace e2 := (Ext.new wr _).trans e2; have q4 := e2.obj q3; have z1' := e2.cell z1; have z2' := e2.cell z2; have y1' : w2.frozen? ⟨w.heap.size + 1, 0, none⟩ = false := (by simp [World.frozen?, q4]); have y2' : w2.frozen? ⟨w.heap.size + 1, 1, none⟩ = false := (by simp [World.frozen?, q4])))
    go_roundw
    case rel => exact ⟨pre ++ [x], suf, by simp [HL.out], by simp, by rw [HR.out, hf.out]; simp, he.trans e2⟩
    case measure => simp [RowKit.intOf]; omega
   ·have hne : (chk (pre.length : Int) x != 0) = true := by simpa using hch
    go_wp2_with (first | (go_at_call 158; refine hcx.mono ?_; rintro e w2 ⟨rfl, e2⟩; replace e2 := (Ext.new wr _).trans e2; have q4 := e2.obj q3; have z1' := e2.cell z1; have z2' := e2.cell z2; have y1' : w2.frozen? ⟨w.heap.size + 1, 0, none⟩ = false := (by simp [World.frozen?, q4]); have y2' : w2.frozen? ⟨w.heap.size + 1, 1, none⟩ = false := (by simp [World.frozen?, q4])))
    refine bodyPost_ret (results_cell_row rfl _ _ (w.heap.size + 1) 146 _ _ _ rfl (two_set _ _ q4) Tryz.underlying146 rfl (by kernel_rfl)) rfl ?_
    exact ⟨by rw [HR.out, findA, if_neg hch]; rfl, ((ew.trans e2).setCell (a := ⟨w.heap.size + 1, 0, none⟩) _ (by simp)).setCell (a := ⟨w.heap.size + 1, 1, none⟩) _ (by simp)⟩
  | nil =>
   obtain rfl : l = pre := by simpa using hl'
   clear hl'
   have hlt : ¬ l.length < l.length := by omega
   go_wp2
   refine bodyPost_ret (results_cell_row rfl _ _ (w.heap.size + 1) 146 _ _ _ rfl (two_set _ _ q3) Tryz.underlying146 rfl (by kernel_rfl)) rfl ?_
   exact ⟨by rw [HR.out]; rfl, (ew.setCell (a := ⟨w.heap.size + 1, 0, none⟩) _ (by simp)).setCell (a := ⟨w.heap.size + 1, 1, none⟩) _ (by simp)⟩
set_option maxRecDepth 20000 in
set_option maxHeartbeats 1000000 in
theorem eachDefR2_any (B1 B2 : Nat) (v1 : Value) (A2 : Option Addr) (n2 c2 : Nat) (l : List Def) (chk : Int → Def → Int) (w : World) (hl : l.length ≤ 100000) (hv : IsDefs w v1 l)
  (h1 : w.cell? ⟨B1, 0, none⟩ = some (.func (.func 153) #[] #[])) (h2 : w.cell? ⟨B2, 0, none⟩ = some (.func (.func 160) #[] #[]))
  (hn1 : w.cell? ⟨0, 0, none⟩ = some (.int .i64 0)) (hn2 : w.cell? ⟨0, 1, none⟩ = some (.int .i64 0))
  (hc : ∀ (i : Int) (d : Def) (W : World), Ext w W → d ∈ l → Calls Tryz.prog 160 #[.agg #[v1, .slice A2 n2 c2], .int .i64 i, .agg #[.string d.name, .int .i64 d.key, .int .i64 d.val, .int .i64 d.ents]] W fun e w' => e = .returned (.int .i64 (chk i d)) ∧ Ext W w') :
  Calls Tryz.prog 195 #[.agg #[v1, .slice A2 n2 c2], .pointer (some ⟨B1, 0, none⟩), .pointer (some ⟨B2, 0, none⟩)] w fun e w' => e = .returned (findV (findA chk 0 l)) ∧ Ext w w' := by
 obtain ⟨A, c, rfl, -, -, hv'⟩ := hv.form
 have e0 := (Ext.new w (.cells #[.slice A l.length c, .slice A2 n2 c2] 25)).alloc (.cells #[.int .i64 0, .int .i64 0] 146)
 have k1 := e0.cell h1
 have hm := maps_any A A2 l.length c n2 c2 ((w.alloc (.cells #[.slice A l.length c, .slice A2 n2 c2] 25)).alloc (.cells #[.int .i64 0, .int .i64 0] 146))
 have HC := hx hc
 clear hc
 go_enter Tryz.func195, Tryz.ntmps195
 have p1 : ((w.alloc (.cells #[.slice A l.length c, .slice A2 n2 c2] 25)).alloc (.cells #[.int .i64 0, .int .i64 0] 146)).cell? ⟨w.heap.size, 0, none⟩ = some (.slice A l.length c) := by simp
 have p2 : ((w.alloc (.cells #[.slice A l.length c, .slice A2 n2 c2] 25)).alloc (.cells #[.int .i64 0, .int .i64 0] 146)).cell? ⟨w.heap.size, 1, none⟩ = some (.slice A2 n2 c2) := by simp
 have p3 := heap_alloc_new (w.alloc (.cells #[.slice A l.length c, .slice A2 n2 c2] 25)) (.cells #[.int .i64 0, .int .i64 0] 146)
 rw [World.size_alloc] at p3
 generalize hW0 : (w.alloc (.cells #[.slice A l.length c, .slice A2 n2 c2] 25)).alloc (.cells #[.int .i64 0, .int .i64 0] 146) = W0 at e0 p1 p2 p3
 have HW0 := hx hW0
 clear hW0
 go_wp2_with (first | (go_at_call 153; refine hm.mono ?_; rintro e w1 ⟨rfl, e1⟩))
 rw [HW0.out] at e1
 go_loopw [12] (fun i wr => ∃ pre suf : List Def, l = pre ++ suf ∧ i = .int .i64 (pre.length : Nat) ∧ findA chk 0 l = findA chk pre.length suf ∧ Ext W0 wr) (fun i _ => l.length - (RowKit.intOf i).toNat)
 case atStart => exact ⟨[], l, rfl, rfl, rfl, e1⟩
 case round =>
  clear e1
  obtain ⟨pre, suf, hl', rfl, hr, he⟩ := hrel
  have HR := hx hr
  clear hr
  have q1 := he.cell p1
  have q2 := he.cell p2
  have q3 := he.obj p3
  have ew := e0.trans he
  have b2 := ew.cell h2
  have g1 := ew.cell hn1
  have g2 := ew.cell hn2
  have z1 : wr.cell? ⟨w.heap.size + 1, 0, none⟩ = some (.int .i64 0) := by simp [World.cell?, q3]
  have z2 : wr.cell? ⟨w.heap.size + 1, 1, none⟩ = some (.int .i64 0) := by simp [World.cell?, q3]
  have y1 : wr.frozen? ⟨w.heap.size + 1, 0, none⟩ = false := by simp [World.frozen?, q3]
  have y2 : wr.frozen? ⟨w.heap.size + 1, 1, none⟩ = false := by simp [World.frozen?, q3]
  cases suf with
  | cons x suf =>
   have hlt : pre.length < l.length := by rw [hl']; simp
   have hmem : x ∈ l := by rw [hl']; simp
   have hvx := hv'
   rw [hl'] at hvx
   obtain ⟨b, o, rfl, ⟨d1, d2, d3, d4⟩, -⟩ := hvx.at
   replace d1 := ew.cell d1
   replace d2 := ew.cell d2
   replace d3 := ew.cell d3
   replace d4 := ew.cell d4
   have HL := hx hl'; clear hl' hvx
   have hcx := HC.out pre.length x _ (ew.alloc (.cells #[.string x.name, .int .i64 x.key, .int .i64 x.val, .int .i64 x.ents] 100)) hmem
   have b2' := (Ext.new wr (.cells #[.string x.name, .int .i64 x.key, .int .i64 x.val, .int .i64 x.ents] 100)).cell b2
   have q1' := (Ext.new wr (.cells #[.string x.name, .int .i64 x.key, .int .i64 x.val, .int .i64 x.ents] 100)).cell q1
   have q2' := (Ext.new wr (.cells #[.string x.name, .int .i64 x.key, .int .i64 x.val, .int .i64 x.ents] 100)).cell q2
   by_cases hch : chk pre.length x = 0
   ·have hf := hx (show findA chk pre.length (x :: suf) = findA chk (pre.length + 1) suf by rw [findA, if_pos hch])
    rw [hch] at hcx
    clear hch
    go_wp2_with (first | (go_at_call 160; refine hcx.mono ?_; rintro e w2 ⟨rfl, e2⟩; replace e2 := (Ext.new wr _).trans e2; have q4 := e2.obj q3; have z1' := e2.cell z1; have z2' := e2.cell z2; have y1' : w2.frozen? ⟨w.heap.size + 1, 0, none⟩ = false := (by simp [World.frozen?, q4]); have y2' : w2.frozen? ⟨w.heap.size + 1, 1, none⟩ = false := (by simp [World.frozen?, q4])))
    go_roundw
    case rel => exact ⟨pre ++ [x], suf, by simp [HL.out], by simp, by rw [HR.out, hf.out]; simp, he.trans e2⟩
    case measure => simp [RowKit.intOf]; omega
   ·have hne : (chk (pre.length : Int) x != 0) = true := by simpa using hch
    go_wp2_with (first | (go_at_call 160; refine hcx.mono ?_; rintro e w2 ⟨rfl, e2⟩; replace e2 := (Ext.new wr _).trans e2; have q4 := e2.obj q3; have z1' := e2.cell z1; have z2' := e2.cell z2; have y1' : w2.frozen? ⟨w.heap.size + 1, 0, none⟩ = false := (by simp [World.frozen?, q4]); have y2' : w2.frozen? ⟨w.heap.size + 1, 1, none⟩ = false := (by simp [World.frozen?, q4])))
    refine bodyPost_ret (results_cell_row rfl _ _ (w.heap.size + 1) 146 _ _ _ rfl (two_set _ _ q4) Tryz.underlying146 rfl (by kernel_rfl)) rfl ?_
    exact ⟨by rw [HR.out, findA, if_neg hch]; rfl, ((ew.trans e2).setCell (a := ⟨w.heap.size + 1, 0, none⟩) _ (by simp)).setCell (a := ⟨w.heap.size + 1, 1, none⟩) _ (by simp)⟩
  | nil =>
   obtain rfl : l = pre := by simpa using hl'
   clear hl'
   have hlt : ¬ l.length < l.length := by omega
   go_wp2
   refine bodyPost_ret (results_cell_row rfl _ _ (w.heap.size + 1) 146 _ _ _ rfl (two_set _ _ q3) Tryz.underlying146 rfl (by kernel_rfl)) rfl ?_
   exact ⟨by rw [HR.out]; rfl, (ew.setCell (a := ⟨w.heap.size + 1, 0, none⟩) _ (by simp)).setCell (a := ⟨w.heap.size + 1, 1, none⟩) _ (by simp)⟩
end Go.Proofs.YtmnbalbiehlkpaaGreatDoor


set_option linter.unusedVariables false
set_option linter.unusedSimpArgs false
namespace Go.Proofs.YtmnbalbiehlkpaaGreatDoor
open Go.RowKit Go.Lib

set_option maxRecDepth 20000 in
set_option maxHeartbeats 1000000 in
theorem rules3_none (A1 A2 : Option Addr) (n1 c1 c2 : Nat) (w : World) :
  Calls Tryz.prog 163 #[.agg #[.slice A1 n1 c1, .slice A2 0 c2]] w fun e w' => e = .returned (findV (0, 15)) ∧ Ext w w' := by
 have hw := fun W => when_any true 15 W
 have p3 := heap_alloc_new (w.alloc (.cells #[.slice A1 n1 c1, .slice A2 0 c2] 25)) (.cells #[.int .i64 0, .int .i64 15] 146)
 rw [World.size_alloc] at p3
 have e0 := (Ext.new w (.cells #[.slice A1 n1 c1, .slice A2 0 c2] 25)).alloc (.cells #[.int .i64 0, .int .i64 15] 146)
 go_enter Tryz.func163, Tryz.ntmps163
 go_wp2_with (first | (go_at_call 159; refine (hw _).mono ?_; rintro e w' ⟨rfl, rfl⟩))
 refine bodyPost_ret (results_cell_row rfl _ _ (w.heap.size + 1) 146 _ _ _ rfl p3 Tryz.underlying146 rfl (by kernel_rfl)) rfl ?_
 exact ⟨rfl, e0⟩

end Go.Proofs.YtmnbalbiehlkpaaGreatDoor
