/- The layer ident: Repeated of the reference. -/
import Derived.Test.YtiaddncjghkajaaGreatDoorJReg
import Derived.Deep.QuietTactic
import Derived.BigQuiet
import Derived.Maps.OwnOps
import Derived.Maps.OwnSet
set_option linter.unusedVariables false
set_option linter.unusedSimpArgs false
namespace Go.Proofs.YtiaddncjghkajaaGreatDoor
open Go.RowKit Go.Lib

def repA : List ByteArray → List ByteArray → Int
  | _, [] => -1
  | seen, x :: l => if seen.any (fun y => decide (y = x)) then seen.length else repA (seen ++ [x]) l
/-- The index of the first text that stands before. -/
def repN (l : List ByteArray) : Int := repA [] l
theorem str_beq {x y : ByteArray} (h : x ≠ y) : (x.toList == y.toList) = false := by
  refine beq_eq_false_iff_ne.2 fun e => h ?_
  rw [Go.ByteArray.toList_eq, Go.ByteArray.toList_eq] at e
  exact ByteArray.ext (Array.ext' e)

set_option maxRecDepth 20000 in
set_option maxHeartbeats 1000000 in
theorem ref02_Repeated_any (v : Value) (l : List ByteArray) (w : World) (hl : l.length ≤ 1000000) (hv : IsStrs w v l) :
    Calls Tryz.prog 44 #[v] w fun e w' => e = .returned (.int .i64 (repN l)) ∧ Ext w w' := by
  obtain ⟨A, c, rfl, -, -, hv'⟩ := hv.form
  go_enter Tryz.func44, Tryz.ntmps44
  go_wp2
  go_loopw [3] (fun i wr => ∃ pre suf : List ByteArray, l = pre ++ suf ∧ i = .int .i64 (pre.length : Nat) ∧ repN l = repA pre suf ∧ Ext w wr) (fun i _ => l.length - (RowKit.intOf i).toNat)
  case atStart => exact ⟨[], l, rfl, rfl, rfl, Ext.refl _⟩
  case round =>
    obtain ⟨pre, suf, hl', rfl, hr, he⟩ := hrel
    have HR := hx hr
    clear hr
    cases suf with
    | cons x suf =>
      have hlt : pre.length < l.length := by rw [hl']; simp
      have hvx := hv'
      rw [hl'] at hvx
      obtain ⟨b, o, rfl, d1⟩ := hvx.at
      replace d1 := d1.1
      rw [Nat.mul_one] at d1
      have HL := hx hl'; clear hl' hvx
      obtain ⟨n, hn⟩ : ∃ n, n = pre.length := ⟨_, rfl⟩
      rw [← hn] at d1 hlt ⊢
      have HN := hx hn
      clear hn
      go_wp2
      go_loopw [4] (fun j wr => ∃ k : Nat, j = .int .i64 k ∧ k ≤ n ∧ (∀ i y, i < k → pre[i]? = some y → y ≠ x) ∧ Ext w wr) (fun j _ => n - (RowKit.intOf j).toNat)
      case atStart => exact ⟨0, rfl, by omega, fun i y h => by omega, he⟩
      case round =>
        clear he
        obtain ⟨k, rfl, hk, hno, he⟩ := hrel
        have HNO := hx hno
        clear hno
        have dx := he.cell d1
        by_cases hkn : k < n
        · have hkp : k < pre.length := by rw [← HN.out]; exact hkn
          have hkl : k < l.length := by omega
          obtain ⟨y, hy⟩ : ∃ y, pre[k]? = some y := ⟨_, List.getElem?_eq_getElem hkp⟩
          have hyl : l[k]? = some y := by rw [HL.out, List.getElem?_append_left hkp]; exact hy
          obtain ⟨b2, o2, hb2, hE⟩ := hv'.get hyl
          cases hb2
          have dy := he.cell hE.1
          rw [Nat.mul_one] at dy
          have HY := hx hy
          clear hy hyl hE hkp
          by_cases hxy : x = y
          · subst hxy
            have hany := hx (show repA pre (x :: suf) = n by
              rw [repA, if_pos, ← HN.out]
              rw [List.any_eq_true]
              exact ⟨x, List.mem_of_getElem? HY.out, by simp⟩)
            have hxx : (x.toList == x.toList) = true := by simp
            go_wp2
            go_quiet (fail)
            go_wp2
            go_ret
            exact ⟨ret_int (by rw [HR.out, hany.out]), he.drewN _⟩
          · have hxy2 := str_beq hxy
            have hxy3 : x.toList ≠ y.toList := beq_eq_false_iff_ne.1 hxy2
            have HXY := hx hxy
            clear hxy
            go_wp2
            go_quiet (fail)
            go_wp2
            go_roundw
            case rel => exact ⟨k + 1, by simp, by omega, fun i z hi hz => by
              by_cases h : i = k
              · subst h; rw [HY.out] at hz; cases hz; exact fun e => HXY.out e.symm
              · exact HNO.out i z (by omega) hz, he.drewN _⟩
            case measure => simp [RowKit.intOf]; omega
        · obtain rfl : k = n := by omega
          have hany := hx (show repA pre (x :: suf) = repA (pre ++ [x]) suf by
            rw [repA, if_neg]
            rw [List.any_eq_true]
            rintro ⟨y, hy, hyx⟩
            obtain ⟨i, hi, rfl⟩ := List.mem_iff_getElem.1 hy
            exact HNO.out i _ (by rw [HN.out]; exact hi) (List.getElem?_eq_getElem hi) (by simpa using hyx))
          go_wp2
          go_roundw
          case rel => exact ⟨pre ++ [x], suf, by simp [HL.out], by simp [HN.out], by rw [HR.out, hany.out], he⟩
          case measure => simp [RowKit.intOf]; omega
    | nil =>
      obtain rfl : l = pre := by simpa using hl'
      clear hl'
      have hlt : ¬ l.length < l.length := by omega
      go_wp2
      go_ret
      exact ⟨ret_int (by rw [HR.out]; rfl), he⟩
end Go.Proofs.YtiaddncjghkajaaGreatDoor


set_option linter.unusedVariables false
set_option linter.unusedSimpArgs false
namespace Go.Proofs.YtiaddncjghkajaaGreatDoor
open Go.RowKit Go.Lib

theorem zeroBool (w : World) : (zeroValue 4).run Tryz.prog w = .ok (.bool false) w := by
  have h : (Tryz.prog.info? 4).map (fun i => i.zero) = some (some (.bool false)) := by kernel_rfl
  obtain ⟨i, hi, hz⟩ := Option.map_eq_some_iff.1 h
  simp [zeroValue, typeInfo, hi, hz]
def keyS (s : ByteArray) : Lit := .string s.data.toList
theorem keyS_inj {a b : ByteArray} (h : keyS a = keyS b) : a = b := by
  unfold keyS at h
  injection h with h
  exact ByteArray.ext (Array.ext' h)
/-- A map from texts to booleans, true just at some texts. -/
def SetS (w : World) (b n : Nat) (p : ByteArray → Bool) : Prop :=
  ∃ D : DataW Unit, w.ownsMap Tryz.prog 9 (plainElem Tryz.prog 4) b n D ∧ ∀ s, D.atKey (keyS s) (.lit (.bool false)) = .lit (.bool (p s))
theorem SetS.made (w : World) : SetS (w.alloc (.map #[] 0)) w.heap.size 0 (fun _ => false) := ⟨.map [], World.ownsMap_made _ _ _ _, fun s => rfl⟩
theorem SetS.ext {w w' : World} {b n : Nat} {p : ByteArray → Bool} (h : SetS w b n p) (he : Ext w w') : SetS w' b n p := by
  obtain ⟨D, h1, h2⟩ := h
  exact ⟨D, h1.kept (he.toGrown none) (by simp), h2⟩
set_option maxRecDepth 20000 in
theorem plainBool_inv {v : Value} {z : DataW Unit × List MemPlace} (h : plainElem Tryz.prog 4 v = some z) : ∃ x, v = .bool x ∧ z = (.lit (.bool x), []) := by
  unfold plainElem at h
  rw [Tryz.underlying4] at h
  cases v <;> simp at h
  exact ⟨_, rfl, h.symm⟩
set_option maxRecDepth 20000 in
theorem SetS.look {w : World} {b n : Nat} {p : ByteArray → Bool} (h : SetS w b n p) (s : ByteArray) (hs : s.size ≤ 140737488355328) :
    (Instr.lookup 241 (.map (some b)) (.string s) false).run Tryz.prog w = .ok (.bool (p s)) w := by
  obtain ⟨D, h1, h2⟩ := h
  obtain ⟨v, ps, hr, hv⟩ := h1.lookup (Maps.string_keyed Tryz.underlying9) Tryz.underlying241 (zeroBool w) (plainElem_bool Tryz.underlying4 false) (WideMaps.keyOf_string_mk Tryz.underlying9 (s := s) (by simp only [maxLen]; omega))
  obtain ⟨x, rfl, hx⟩ := plainBool_inv hv
  have h3 : (DataW.lit (.bool (p s)) : DataW Unit) = .lit (.bool x) := by rw [← h2 s]; exact congrArg Prod.fst hx
  injection h3 with h3
  injection h3 with h3
  rw [hr, h3]
set_option maxRecDepth 20000 in
theorem SetS.upd {w : World} {b n : Nat} {p : ByteArray → Bool} (h : SetS w b n p) (s : ByteArray) (hs : s.size ≤ 140737488355328) (hn : n < 1000000000) (x : Bool) :
    ∃ w', (Instr.mapUpdate 241 (.map (some b)) (.string s) (.bool x)).run Tryz.prog w = .ok () w' ∧ SetS w' b (n + 1) (fun y => if y = s then x else p y) ∧ w.grownBy w' (some b) := by
  obtain ⟨D, h1, h2⟩ := h
  obtain ⟨w', hr, h3, h4⟩ := h1.update (Maps.string_keyed Tryz.underlying9) Tryz.underlying241 (by simp only [maxLen]; omega) (WideMaps.keyOf_string_mk Tryz.underlying9 (s := s) (by simp only [maxLen]; omega)) (plainElem_bool Tryz.underlying4 x)
  refine ⟨w', hr, ⟨_, h3, fun y => ?_⟩, h4⟩
  by_cases hy : y = s
  · subst hy
    show _ = DataW.lit (Lit.bool (if y = y then x else p y))
    rw [if_pos rfl]
    exact Maps.atKey_put_same h1.isMap (by trivial) _ _
  · show _ = DataW.lit (Lit.bool (if y = s then x else p y))
    rw [if_neg hy, ← h2 y]
    exact Maps.atKey_put_other (fun e => hy (keyS_inj e)) _ _
/-- m[s] = x, as an operation. -/
theorem wp_mapUpd {ops : Array Oper} {rest : List Oper} {o : Oper} {a : Act} {Q : Exit → Act → World → Prop} {w : World} {b n : Nat} {p : ByteArray → Bool} (h : SetS w b n p) (s : ByteArray) (hs : s.size ≤ 140737488355328) (hn : n < 1000000000) (x : Bool) (hgd : o.guard = none) {m k v : Operand}
    (ho : o.op = .mapUpdate 241 m k v) (hm : a.eval m = .map (some b)) (hk : a.eval k = .string s) (hv : a.eval v = .bool x)
    (hK : ∀ w', SetS w' b (n + 1) (fun y => if y = s then x else p y) → w.grownBy w' (some b) → wpList Tryz.prog ops Q rest (a.put o.dst undef) w') : wpList Tryz.prog ops Q (o :: rest) a w := by
  refine wpList_plain hgd fun K hK' => ?_
  obtain ⟨w', hr, h1, h2⟩ := h.upd s hs hn x
  unfold Oper.wp
  simp [execOp, ho, hm, hk, hv, hr, Result.andThen]
  exact hK' _ _ (hK w' h1 h2)

set_option maxRecDepth 20000 in
set_option maxHeartbeats 1000000 in
theorem ident_Repeated_any (v : Value) (l : List ByteArray) (w : World) (hl : l.length ≤ 1000000) (hv : IsStrs w v l) :
    Calls Tryz.prog 191 #[v] w fun e w' => e = .returned (.int .i64 (repN l)) ∧ Ext w w' := by
  obtain ⟨A, c, rfl, -, -, hv'⟩ := hv.form
  have hmm := @run_makeMap Tryz.prog
  go_enter Tryz.func191, Tryz.ntmps191
  go_wp2
  clear hmm
  go_loopw [9] (fun i wr => ∃ pre suf : List ByteArray, l = pre ++ suf ∧ i = .int .i64 (pre.length : Nat) ∧ repN l = repA pre suf ∧ SetS wr w.heap.size pre.length (fun x => pre.any (fun y => decide (y = x))) ∧ Ext w wr) (fun i _ => l.length - (RowKit.intOf i).toNat)
  case atStart => exact ⟨[], l, rfl, rfl, rfl, SetS.made w, Ext.new _ _⟩
  case round =>
    obtain ⟨pre, suf, hl', rfl, hr, hm, he⟩ := hrel
    have HR := hx hr
    clear hr
    cases suf with
    | cons x suf =>
      have hlt : pre.length < l.length := by rw [hl']; simp
      have hvx := hv'
      rw [hl'] at hvx
      obtain ⟨b, o, rfl, d1⟩ := hvx.at
      have hxs := d1.2
      replace d1 := he.cell d1.1
      rw [Nat.mul_one] at d1
      have HL := hx hl'; clear hl' hvx
      have hlk := hm.look x hxs
      cases hany : pre.any (fun y => decide (y = x)) with
      | true =>
        rw [hany] at hlk
        have hrep := hx (show repA pre (x :: suf) = pre.length by rw [repA, if_pos hany])
        clear hany
        go_wp2
        go_ret
        exact ⟨ret_int (by rw [HR.out, hrep.out]), he⟩
      | false =>
        rw [hany] at hlk
        have hrep := hx (show repA pre (x :: suf) = repA (pre ++ [x]) suf by rw [repA, if_neg (by rw [hany]; simp)])
        clear hany
        go_wp2_with (refine wp_mapUpd hm x hxs (by omega) true rfl rfl (by rfl) (by rfl) (by rfl) ?_; intro w1 m1 g1)
        have e1 := he.grown g1 (fun k hk => by cases hk; exact Nat.le_refl _)
        clear hm he g1 hlk
        go_roundw
        case rel => exact ⟨pre ++ [x], suf, by simp [HL.out], by simp, by rw [HR.out, hrep.out], by
          have e : (fun y => if y = x then true else pre.any (fun z => decide (z = y))) = (fun y => (pre ++ [x]).any (fun z => decide (z = y))) := by
            funext y
            by_cases h : y = x
            · subst h; simp
            · have h' : ¬ x = y := fun e => h e.symm
              simp [h, h']
          rw [e] at m1
          simpa using m1, e1⟩
        case measure => simp [RowKit.intOf]; omega
    | nil =>
      obtain rfl : l = pre := by simpa using hl'
      clear hl'
      have hlt : ¬ l.length < l.length := by omega
      go_wp2
      go_ret
      exact ⟨ret_int (by rw [HR.out]; rfl), he⟩
end Go.Proofs.YtiaddncjghkajaaGreatDoor


set_option linter.unusedVariables false
set_option linter.unusedSimpArgs false
namespace Go.Proofs.YtiaddncjghkajaaGreatDoor
open Go.RowKit Go.Lib

def sizesB (d : Def) : Bool := decide (1 ≤ d.key ∧ d.key ≤ 64 ∧ 1 ≤ d.val ∧ d.val ≤ 256 ∧ 1 ≤ d.ents ∧ d.ents ≤ 1024)
def Def.v (d : Def) : Value := .agg #[.string d.name, .int .i64 d.key, .int .i64 d.val, .int .i64 d.ents]

set_option maxRecDepth 20000 in
set_option maxHeartbeats 1000000 in
theorem ref09_Sizes_any (d : Def) (w : World) :
    Calls Tryz.prog 43 #[.agg #[.string d.name, .int .i64 d.key, .int .i64 d.val, .int .i64 d.ents]] w fun e w' => e = .returned (.bool (sizesB d)) ∧ Ext w w' := by
  by_cases a1 : 1 ≤ d.key
  case neg =>
    have hs : sizesB d = false := by unfold sizesB; simp; omega
    rw [hs]; clear hs
    go_enter Tryz.func43, Tryz.ntmps43
    go_wp2
    go_ret
    exact ⟨rfl, Ext.new _ _⟩
  by_cases a2 : d.key ≤ 64
  case neg =>
    have hs : sizesB d = false := by unfold sizesB; simp; omega
    rw [hs]; clear hs
    go_enter Tryz.func43, Tryz.ntmps43
    go_wp2
    go_ret
    exact ⟨rfl, Ext.new _ _⟩
  by_cases a3 : 1 ≤ d.val
  case neg =>
    have hs : sizesB d = false := by unfold sizesB; simp; omega
    rw [hs]; clear hs
    go_enter Tryz.func43, Tryz.ntmps43
    go_wp2
    go_ret
    exact ⟨rfl, Ext.new _ _⟩
  by_cases a4 : d.val ≤ 256
  case neg =>
    have hs : sizesB d = false := by unfold sizesB; simp; omega
    rw [hs]; clear hs
    go_enter Tryz.func43, Tryz.ntmps43
    go_wp2
    go_ret
    exact ⟨rfl, Ext.new _ _⟩
  by_cases a5 : 1 ≤ d.ents
  case neg =>
    have hs : sizesB d = false := by unfold sizesB; simp; omega
    rw [hs]; clear hs
    go_enter Tryz.func43, Tryz.ntmps43
    go_wp2
    go_ret
    exact ⟨rfl, Ext.new _ _⟩
  by_cases a6 : d.ents ≤ 1024
  case neg =>
    have hs : sizesB d = false := by unfold sizesB; simp; omega
    rw [hs]; clear hs
    go_enter Tryz.func43, Tryz.ntmps43
    go_wp2
    go_ret
    exact ⟨rfl, Ext.new _ _⟩
  have hs : sizesB d = true := by unfold sizesB; simp; omega
  rw [hs]; clear hs
  go_enter Tryz.func43, Tryz.ntmps43
  go_wp2
  go_ret
  exact ⟨rfl, Ext.new _ _⟩
end Go.Proofs.YtiaddncjghkajaaGreatDoor
