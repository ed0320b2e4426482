/- The layer ops: Fixed, matches, Code. -/
import Derived.Test.YtmofdnlefjfcfaaGreatDoorJForm
import Derived.Laws.StructEq
import Derived.BigQuiet
set_option linter.unusedVariables false
set_option linter.unusedSimpArgs false
namespace Go.Proofs.YtmofdnlefjfcfaaGreatDoor
open Go.RowKit

/-- What the rows of the table keep. -/
structure OpRow.Ok (r : OpRow) : Prop where
 form : -1 ≤ r.form ∧ r.form ≤ 11
 code : 0 ≤ r.code ∧ r.code ≤ 220
 src : 0 ≤ r.src ∧ r.src ≤ 1
 off : 0 ≤ r.off ∧ r.off ≤ 32
 imm : 0 ≤ r.imm ∧ r.imm ≤ 64
set_option maxRecDepth 100000 in
theorem rowOf_ok (n : Int) : (rowOf n).Ok := by
 by_cases h : 0 ≤ n ∧ n < 86
 ·obtain ⟨k, rfl⟩ := Int.eq_ofNat_of_zero_le h.1
  have h1 : ∀ k : Fin 86, (-1 ≤ (rowOf (k.val : Nat)).form ∧ (rowOf (k.val : Nat)).form ≤ 11) ∧ (0 ≤ (rowOf (k.val : Nat)).code ∧ (rowOf (k.val : Nat)).code ≤ 220) ∧ (0 ≤ (rowOf (k.val : Nat)).src ∧ (rowOf (k.val : Nat)).src ≤ 1) ∧ (0 ≤ (rowOf (k.val : Nat)).off ∧ (rowOf (k.val : Nat)).off ≤ 32) ∧ (0 ≤ (rowOf (k.val : Nat)).imm ∧ (rowOf (k.val : Nat)).imm ≤ 64) := by decide +kernel
  have := h1 ⟨k, by omega⟩
  exact ⟨this.1, this.2.1, this.2.2.1, this.2.2.2.1, this.2.2.2.2⟩
 ·have hr : rowOf n = noneRow := if_neg h
  rw [hr]
  exact ⟨by decide, by decide, by decide, by decide, by decide⟩
set_option maxRecDepth 100000 in
theorem rowOf_none (n : Int) : (rowOf n = noneRow ∧ formN n = -1) ∨ ((((rowOf n).name == (⟨#[]⟩ : ByteArray)) = false) ∧ formN n ≠ -1) := by
 by_cases h : 0 ≤ n ∧ n < 86
 ·obtain ⟨k, rfl⟩ := Int.eq_ofNat_of_zero_le h.1
  have h1 : ∀ k : Fin 86, ((rowOf (k.val : Nat)).name == (⟨#[]⟩ : ByteArray)) = false ∧ formN (k.val : Nat) ≠ -1 := by decide +kernel
  exact .inr (h1 ⟨k, by omega⟩)
 ·have hr : rowOf n = noneRow := if_neg h
  exact .inl ⟨hr, by unfold formN; rw [hr]; rfl⟩
def fixN (n : Int) : Int × Int × Int := ((rowOf n).src, (rowOf n).off, (rowOf n).imm)
set_option maxRecDepth 40000 in
set_option maxHeartbeats 4000000 in
theorem opFixed_any (n : Int) (w : World) (hn : I64 n) (hO : OpsN w) :
  Calls Tryz.prog 95 #[.int .i64 n] w fun e w' => e = .returned (.tuple #[.int .i64 (fixN n).1, .int .i64 (fixN n).2.1, .int .i64 (fixN n).2.2]) ∧ Ext w w' := by
 have h := opGet_any n w hn hO
 unfold fixN
 generalize rowOf n = r at *
 unfold OpRow.val at h
 have H := hx h
 clear h hO
 go_enter Tryz.func95, Tryz.ntmps95
 go_wp2_with (go_at_call 98; refine H.out.mono ?_; rintro e w1 ⟨rfl, e1⟩)
 go_quiet (fail)
 go_wp2
 refine bodyPost_ret (results_tmp3 rfl _ _ _) rfl ?_
 exact ⟨rfl, (e1.alloc _).drewN _⟩
def matchesN (r : OpRow) (src off imm : Int) : Bool := if r.form = 0 ∨ r.form = 2 then r.off == off else if r.imm ≠ 0 then r.imm == imm else if r.form = 10 ∨ r.form = 11 then r.src == src else true
set_option maxRecDepth 40000 in
set_option maxHeartbeats 4000000 in
theorem opMatches_any (r : OpRow) (src off imm : Int) (w : World) :
  Calls Tryz.prog 175 #[r.val, .int .i64 src, .int .i64 off, .int .i64 imm] w fun e w' => e = .returned (.bool (matchesN r src off imm)) ∧ Ext w w' := by
 have e0 := Ext.new w (.cells #[.string r.name, .int .i64 r.form, .int .i64 r.bits, .int .u8 r.code, .int .i64 r.src, .int .i64 r.off, .int .i64 r.imm] 159)
 unfold OpRow.val
 by_cases h0 : r.form = 0
 ·have a0 : (r.form == 0) = true := beq_iff_eq.2 h0
  have hm : matchesN r src off imm = (r.off == off) := by unfold matchesN; rw [if_pos (.inl h0)]
  rw [hm]
  clear h0 hm
  go_enter Tryz.func175, Tryz.ntmps175
  go_wp2
  go_ret
  exact ⟨rfl, e0⟩
 have a0 : (r.form == 0) = false := beq_eq_false_iff_ne.2 h0
 by_cases h2 : r.form = 2
 ·have a2 : (r.form == 2) = true := beq_iff_eq.2 h2
  have hm : matchesN r src off imm = (r.off == off) := by unfold matchesN; rw [if_pos (.inr h2)]
  rw [hm]
  clear h0 h2 hm
  go_enter Tryz.func175, Tryz.ntmps175
  go_wp2
  go_ret
  exact ⟨rfl, e0⟩
 have a2 : (r.form == 2) = false := beq_eq_false_iff_ne.2 h2
 by_cases hi : r.imm = 0
 case neg =>
  have ai : (r.imm != 0) = true := by simpa using hi
  have hm : matchesN r src off imm = (r.imm == imm) := by unfold matchesN; rw [if_neg (by omega), if_pos hi]
  rw [hm]
  clear h0 h2 hm hi
  go_enter Tryz.func175, Tryz.ntmps175
  go_wp2
  go_ret
  exact ⟨rfl, e0⟩
 have ai : (r.imm != 0) = false := by rw [hi]; rfl
 by_cases h10 : r.form = 10
 ·have a10 : (r.form == 10) = true := beq_iff_eq.2 h10
  have hm : matchesN r src off imm = (r.src == src) := by unfold matchesN; rw [if_neg (by omega), if_neg (by omega), if_pos (.inl h10)]
  rw [hm]
  clear h0 h2 hm hi h10
  go_enter Tryz.func175, Tryz.ntmps175
  go_wp2
  go_ret
  exact ⟨rfl, e0⟩
 have a10 : (r.form == 10) = false := beq_eq_false_iff_ne.2 h10
 by_cases h11 : r.form = 11
 ·have a11 : (r.form == 11) = true := beq_iff_eq.2 h11
  have hm : matchesN r src off imm = (r.src == src) := by unfold matchesN; rw [if_neg (by omega), if_neg (by omega), if_pos (.inr h11)]
  rw [hm]
  clear h0 h2 hm hi h10 h11
  go_enter Tryz.func175, Tryz.ntmps175
  go_wp2
  go_ret
  exact ⟨rfl, e0⟩
 have a11 : (r.form == 11) = false := beq_eq_false_iff_ne.2 h11
 have hm : matchesN r src off imm = true := by unfold matchesN; rw [if_neg (by omega), if_neg (by omega), if_neg (by omega)]
 rw [hm]
 clear h0 h2 hm hi h10 h11
 go_enter Tryz.func175, Tryz.ntmps175
 go_wp2
 go_ret
 exact ⟨rfl, e0⟩
/-- An operation's code, with a register or without. -/
def codeN (n : Int) (reg : Bool) : Int × Bool :=
 if formN n = -1 then (0, false) else if reg = false then ((rowOf n).code, true) else if formN n = 0 ∨ formN n = 4 then ((rowOf n).code + 8, true) else (0, false)
set_option maxRecDepth 40000 in
set_option maxHeartbeats 4000000 in
theorem opCode_any (n : Int) (reg : Bool) (w : World) (hn : I64 n) (hO : OpsN w) :
  Calls Tryz.prog 94 #[.int .i64 n, .bool reg] w fun e w' => e = .returned (.tuple #[.int .u8 (codeN n reg).1, .bool (codeN n reg).2]) ∧ Ext w w' := by
 have h := opGet_any n w hn hO
 have hk := (rowOf_ok n).code
 have hO2 := hx hO
 rcases rowOf_none n with ⟨hr, hf⟩ | ⟨hnm, hf⟩
 ·have hc : codeN n reg = (0, false) := if_pos hf
  rw [hc]
  rw [hr] at h
  unfold OpRow.val noneRow at h
  have H := hx h
  clear h hO hr hf hc hk
  go_enter Tryz.func94, Tryz.ntmps94
  go_wp2_with (go_at_call 98; refine H.out.mono ?_; rintro e w1 ⟨rfl, e1⟩; have e2 := e1.alloc (.cells #[.string ⟨#[]⟩, .int .i64 (-1), .int .i64 0, .int .u8 0, .int .i64 0, .int .i64 0, .int .i64 0] 159); obtain ⟨k0, k1, k2, k3, k4, k5, k6⟩ := hO2.out.ext e2)
  go_ret2
  exact ⟨rfl, e2⟩
 ·have hff : formN n = (rowOf n).form := rfl
  have am : ((rowOf n).form == -1) = false := beq_eq_false_iff_ne.2 hf
  cases reg with
  | false =>
   have hc : codeN n false = ((rowOf n).code, true) := by unfold codeN; rw [if_neg hf, if_pos rfl]
   rw [hc]
   generalize rowOf n = r at *
   unfold OpRow.val at h
   have H := hx h
   clear h hO hf hc hk hff
   go_enter Tryz.func94, Tryz.ntmps94
   go_wp2_with (go_at_call 98; refine H.out.mono ?_; rintro e w1 ⟨rfl, e1⟩; have e2 := e1.alloc (.cells #[.string r.name, .int .i64 r.form, .int .i64 r.bits, .int .u8 r.code, .int .i64 r.src, .int .i64 r.off, .int .i64 r.imm] 159); obtain ⟨k0, k1, k2, k3, k4, k5, k6⟩ := hO2.out.ext e2)
   go_ret2
   exact ⟨rfl, e2⟩
  | true =>
   have w8 : IntKind.u8.wrap ((rowOf n).code + 8) = (rowOf n).code + 8 := by
    have := hk
    simp [IntKind.wrap, IntKind.signed, IntKind.bits]
    omega
   by_cases h0 : (rowOf n).form = 0
   ·have hc : codeN n true = ((rowOf n).code + 8, true) := by unfold codeN; rw [if_neg hf, if_neg (by decide), if_pos (by rw [hff]; exact .inl h0)]
    rw [hc]
    have a0 : ((rowOf n).form == 0) = true := beq_iff_eq.2 h0
    generalize rowOf n = r at *
    unfold OpRow.val at h
    have H := hx h
    clear h hO hf hc hk hff h0
    go_enter Tryz.func94, Tryz.ntmps94
    go_wp2_with (go_at_call 98; refine H.out.mono ?_; rintro e w1 ⟨rfl, e1⟩; have e2 := e1.alloc (.cells #[.string r.name, .int .i64 r.form, .int .i64 r.bits, .int .u8 r.code, .int .i64 r.src, .int .i64 r.off, .int .i64 r.imm] 159); obtain ⟨k0, k1, k2, k3, k4, k5, k6⟩ := hO2.out.ext e2)
    go_ret2
    exact ⟨rfl, e2⟩
   have a0 : ((rowOf n).form == 0) = false := beq_eq_false_iff_ne.2 h0
   by_cases h4 : (rowOf n).form = 4
   ·have hc : codeN n true = ((rowOf n).code + 8, true) := by unfold codeN; rw [if_neg hf, if_neg (by decide), if_pos (by rw [hff]; exact .inr h4)]
    rw [hc]
    have a4 : ((rowOf n).form == 4) = true := beq_iff_eq.2 h4
    generalize rowOf n = r at *
    unfold OpRow.val at h
    have H := hx h
    clear h hO hf hc hk hff h0 h4
    go_enter Tryz.func94, Tryz.ntmps94
    go_wp2_with (go_at_call 98; refine H.out.mono ?_; rintro e w1 ⟨rfl, e1⟩; have e2 := e1.alloc (.cells #[.string r.name, .int .i64 r.form, .int .i64 r.bits, .int .u8 r.code, .int .i64 r.src, .int .i64 r.off, .int .i64 r.imm] 159); obtain ⟨k0, k1, k2, k3, k4, k5, k6⟩ := hO2.out.ext e2)
    go_ret2
    exact ⟨rfl, e2⟩
   ·have hc : codeN n true = (0, false) := by unfold codeN; rw [if_neg hf, if_neg (by decide), if_neg (by rw [hff]; omega)]
    rw [hc]
    have a4 : ((rowOf n).form == 4) = false := beq_eq_false_iff_ne.2 h4
    generalize rowOf n = r at *
    unfold OpRow.val at h
    have H := hx h
    clear h hO hf hc hk hff h0 h4
    go_enter Tryz.func94, Tryz.ntmps94
    go_wp2_with (go_at_call 98; refine H.out.mono ?_; rintro e w1 ⟨rfl, e1⟩; have e2 := e1.alloc (.cells #[.string r.name, .int .i64 r.form, .int .i64 r.bits, .int .u8 r.code, .int .i64 r.src, .int .i64 r.off, .int .i64 r.imm] 159); obtain ⟨k0, k1, k2, k3, k4, k5, k6⟩ := hO2.out.ext e2)
    go_ret2
    exact ⟨rfl, e2⟩
end Go.Proofs.YtmofdnlefjfcfaaGreatDoor

set_option linter.unusedVariables false
set_option linter.unusedSimpArgs false
namespace Go.Proofs.YtmofdnlefjfcfaaGreatDoor
open Go.RowKit

def codesL : List Int := opRows.map (·.code)
set_option maxRecDepth 100000 in
set_option maxHeartbeats 4000000 in
theorem refCodes_any (w : World) : Calls Tryz.prog 114 #[] w fun e w' => e = .returned (.slice (some ⟨w.heap.size, 0, none⟩) 86 86) ∧ w' = w.alloc (.cells (codesL.map (Value.int .u8)).toArray 5) := by
 go_enter Tryz.func114, Tryz.ntmps114
 refine wp_seq (wp_region_list ?_)
 refine Great.wpList_readTo (by rfl) _ rfl (.slice none 0 0) (by kernel_rfl) ?_
 refine wpList_nil ?_
 refine wp_seq (wp_region_list ?_)
 refine Great.wpList_buildSliceTo (by rfl) _ 5 86 _ rfl w.heap.size rfl _ rfl Tryz.underlying28 (codesL.map (Value.int .u8)).toArray (by kernel_rfl) ?_
 refine Great.wpList_readTo (by rfl) _ rfl (.slice (some ⟨w.heap.size, 0, none⟩) 86 86) (by kernel_rfl) ?_
 refine wpList_nil ?_
 refine wp_ret ?_
 exact bodyPost_ret (results_tmp (by rfl) _ _ _) (by rfl) ⟨by rfl, rfl⟩
theorem codes_at (k : Nat) (h : k < 86) : codesL[k]? = some (rowOf (k : Nat)).code := by
 unfold codesL rowOf
 rw [if_pos (by omega), List.getElem?_map, List.getElem?_eq_getElem (by rw [opRows_length]; exact h)]
 simp only [Option.map_some, Int.toNat_natCast, List.getD_eq_getElem?_getD]
 rw [List.getElem?_eq_getElem (by rw [opRows_length]; exact h)]
 rfl
theorem form_right {n : Int} (h : 0 ≤ n ∧ n ≤ 85) : formN n ≠ -1 := by
 rw [formN_eq]
 unfold refF
 repeat' split
 all_goals omega
set_option maxRecDepth 40000 in
set_option maxHeartbeats 4000000 in
theorem refCode_any (n : Int) (reg : Bool) (w : World) (hn : I64 n) :
  Calls Tryz.prog 86 #[.int .i64 n, .bool reg] w fun e w' => e = .returned (.tuple #[.int .u8 (codeN n reg).1, .bool (codeN n reg).2]) ∧ Ext w w' := by
 have hr := right_any n w hn
 have hf := refForm_any n w hn
 rw [← formN_eq] at hf
 have HF := hx hf
 by_cases hi : 0 ≤ n ∧ n ≤ 85
 case neg =>
  have hc : codeN n reg = (0, false) := by
   have : formN n = -1 := by rw [formN_eq]; unfold refF; rw [if_pos (by omega)]
   unfold codeN; rw [if_pos this]
  rw [hc]
  have hR : right n = false := decide_eq_false hi
  rw [hR] at hr
  have HR := hx hr
  clear hr hf hc hi hR
  go_enter Tryz.func86, Tryz.ntmps86
  go_wp2_with (go_at_call 89; refine HR.out.mono ?_; rintro e w1 ⟨rfl, rfl⟩)
  go_ret2
  exact ⟨rfl, Ext.refl _⟩
 have hR : right n = true := decide_eq_true hi
 rw [hR] at hr
 have HR := hx hr
 have h1 := form_right hi
 obtain ⟨k, rfl⟩ := Int.eq_ofNat_of_zero_le hi.1
 have HC := hx ((refCodes_any w).mono (R' := fun e w' => e = .returned (.slice (some ⟨w.heap.size, 0, none⟩) 86 86) ∧ w'.cell? ⟨w.heap.size, k, none⟩ = some (.int .u8 (rowOf (k : Nat)).code) ∧ Ext w w') fun e w' ⟨h1, h2⟩ => ⟨h1, by
  rw [h2]
  have := codes_at k (by omega)
  simp [this], by rw [h2]; exact Ext.new _ _⟩)
 have hk := (rowOf_ok (k : Nat)).code
 have w8 : IntKind.u8.wrap ((rowOf (k : Nat)).code + 8) = (rowOf (k : Nat)).code + 8 := by
  simp [IntKind.wrap, IntKind.signed, IntKind.bits]
  omega
 have hff : formN (k : Nat) = (rowOf (k : Nat)).form := rfl
 have hk86 : (k : Int) < 86 := by omega
 cases reg with
 | false =>
  have hc : codeN k false = ((rowOf (k : Nat)).code, true) := by unfold codeN; rw [if_neg h1, if_pos rfl]
  rw [hc]
  generalize rowOf (k : Nat) = r at *
  clear hr hf hc hi hR h1 hk hff
  go_enter Tryz.func86, Tryz.ntmps86
  go_wp2_with (first | (go_at_call 89; refine HR.out.mono ?_; rintro e w1 ⟨rfl, rfl⟩) | (go_at_call 114; refine HC.out.mono ?_; rintro e w1 ⟨rfl, t1, e1⟩))
  go_ret2
  exact ⟨rfl, e1⟩
 | true =>
  by_cases h0 : formN (k : Nat) = 0
  ·have hc : codeN k true = ((rowOf (k : Nat)).code + 8, true) := by unfold codeN; rw [if_neg h1, if_neg (by decide), if_pos (.inl h0)]
   rw [hc]
   rw [h0] at hf
   have HF := hx hf
   generalize rowOf (k : Nat) = r at *
   clear hr hf hc hi hR h1 hk hff h0
   go_enter Tryz.func86, Tryz.ntmps86
   go_wp2_with (first | (go_at_call 89; refine HR.out.mono ?_; rintro e w1 ⟨rfl, rfl⟩) | (go_at_call 50; refine HF.out.mono ?_; rintro e w1 ⟨rfl, rfl⟩) | (go_at_call 114; refine HC.out.mono ?_; rintro e w1 ⟨rfl, t1, e1⟩))
   go_ret2
   exact ⟨rfl, e1⟩
  by_cases h4 : formN (k : Nat) = 4
  ·have hc : codeN k true = ((rowOf (k : Nat)).code + 8, true) := by unfold codeN; rw [if_neg h1, if_neg (by decide), if_pos (.inr h4)]
   rw [hc]
   rw [h4] at hf
   have HF := hx hf
   generalize rowOf (k : Nat) = r at *
   clear hr hf hc hi hR h1 hk hff h0 h4
   go_enter Tryz.func86, Tryz.ntmps86
   go_wp2_with (first | (go_at_call 89; refine HR.out.mono ?_; rintro e w1 ⟨rfl, rfl⟩) | (go_at_call 50; refine HF.out.mono ?_; rintro e w1 ⟨rfl, rfl⟩) | (go_at_call 114; refine HC.out.mono ?_; rintro e w1 ⟨rfl, t1, e1⟩))
   go_ret2
   exact ⟨rfl, e1⟩
  ·have hc : codeN k true = (0, false) := by unfold codeN; rw [if_neg h1, if_neg (by decide), if_neg (by omega)]
   rw [hc]
   have a0 : (formN (k : Nat) != 0) = true := by simpa using h0
   have a4 : (formN (k : Nat) != 4) = true := by simpa using h4
   generalize formN (k : Nat) = F at *
   have HF := hx hf
   clear hr hf hc hi hR h1 hk hff h0 h4
   go_enter Tryz.func86, Tryz.ntmps86
   go_wp2_with (first | (go_at_call 89; refine HR.out.mono ?_; rintro e w1 ⟨rfl, rfl⟩) | (go_at_call 50; refine HF.out.mono ?_; rintro e w1 ⟨rfl, rfl⟩))
   go_ret2
   exact ⟨rfl, Ext.refl _⟩
end Go.Proofs.YtmofdnlefjfcfaaGreatDoor


set_option linter.unusedVariables false
set_option linter.unusedSimpArgs false
namespace Go.Proofs.YtmofdnlefjfcfaaGreatDoor
open Go.RowKit

set_option maxRecDepth 40000 in
set_option maxHeartbeats 4000000 in
theorem refBits_any (n : Int) (w : World) (hn : 35 ≤ n ∧ n ≤ 43) :
  Calls Tryz.prog 115 #[.int .i64 n] w fun e w' => e = .returned (.int .i64 (fixN n).2.2) ∧ Ext w w' := by
 have hr := fun W => right_any n W ⟨by omega, by omega⟩
 have hR : right n = true := decide_eq_true (by omega)
 rw [hR] at hr
 have HR := hx hr
 have hc : n = 35 ∨ n = 36 ∨ n = 37 ∨ n = 38 ∨ n = 39 ∨ n = 40 ∨ n = 41 ∨ n = 42 ∨ n = 43 := by omega
 clear hr hR
 have e1 := Ext.new w (.cells #[.int .i64 8, .int .i64 16, .int .i64 32, .int .i64 64, .int .i64 8, .int .i64 16, .int .i64 32] 3)
 have e2 := e1.alloc (.cells #[.int .i64 16, .int .i64 32, .int .i64 64] 3)
 rcases hc with rfl | rfl | rfl | rfl | rfl | rfl | rfl | rfl | rfl
 all_goals
  clear hn e1
  go_enter Tryz.func115, Tryz.ntmps115
  go_wp2_with (go_at_call 89; refine (HR.out _).mono ?_; rintro e w1 ⟨rfl, rfl⟩)
  go_ret
  exact ⟨ret_int (by decide +kernel), e2⟩
set_option maxRecDepth 40000 in
set_option maxHeartbeats 4000000 in
theorem refFixed_any (n : Int) (w : World) (hn : I64 n) :
  Calls Tryz.prog 87 #[.int .i64 n] w fun e w' => e = .returned (.tuple #[.int .i64 (fixN n).1, .int .i64 (fixN n).2.1, .int .i64 (fixN n).2.2]) ∧ Ext w w' := by
 have e1 := Ext.new w (.cells #[.int .i64 8, .int .i64 16, .int .i64 32, .int .i64 8, .int .i64 16] 3)
 have hc : (n = 12 ∨ n = 13 ∨ n = 26 ∨ n = 27 ∨ n = 85) ∨ (n = 30 ∨ n = 31 ∨ n = 32 ∨ n = 33 ∨ n = 34) ∨ (35 ≤ n ∧ n ≤ 43) ∨ (n < 30 ∧ n ≠ 12 ∧ n ≠ 13 ∧ n ≠ 26 ∧ n ≠ 27) ∨ (43 < n ∧ n ≠ 85) := by omega
 rcases hc with hc | hc | hc | hc | hc
 ·rcases hc with rfl | rfl | rfl | rfl | rfl
  all_goals
   clear hn e1
   go_enter Tryz.func87, Tryz.ntmps87
   go_wp2
   refine bodyPost_ret (results_tmp3 rfl _ _ _) rfl ?_
   exact ⟨by rfl, Ext.refl _⟩
 ·rcases hc with rfl | rfl | rfl | rfl | rfl
  all_goals
   clear hn
   go_enter Tryz.func87, Tryz.ntmps87
   go_wp2
   go_region
   all_goals
    go_wp2
    refine bodyPost_ret (results_tmp3 rfl _ _ _) rfl ?_
    exact ⟨by rfl, (Ext.refl w).drew.alloc _⟩
 ·have hb := refBits_any n w hc
  have hs : (fixN n).1 = 0 ∧ (fixN n).2.1 = 0 := by
   have h1 : n = 35 ∨ n = 36 ∨ n = 37 ∨ n = 38 ∨ n = 39 ∨ n = 40 ∨ n = 41 ∨ n = 42 ∨ n = 43 := by omega
   rcases h1 with rfl | rfl | rfl | rfl | rfl | rfl | rfl | rfl | rfl
   all_goals exact ⟨by rfl, by rfl⟩
  rw [hs.1, hs.2]
  generalize (fixN n).2.2 = I at *
  have HB := hx hb
  have q12 : (n == 12) = false := beq_eq_false_iff_ne.2 (by omega)
  have q13 : (n == 13) = false := beq_eq_false_iff_ne.2 (by omega)
  have q26 : (n == 26) = false := beq_eq_false_iff_ne.2 (by omega)
  have q27 : (n == 27) = false := beq_eq_false_iff_ne.2 (by omega)
  have q85 : (n == 85) = false := beq_eq_false_iff_ne.2 (by omega)
  have g30 : decide (n ≥ 30) = true := decide_eq_true (by omega)
  have l34 : decide (n ≤ 34) = false := decide_eq_false (by omega)
  have g35 : decide (n ≥ 35) = true := decide_eq_true (by omega)
  have l43 : decide (n ≤ 43) = true := decide_eq_true (by omega)
  clear hb hs hc hn e1
  go_enter Tryz.func87, Tryz.ntmps87
  go_wp2_with (go_at_call 115; refine HB.out.mono ?_; rintro e w1 ⟨rfl, e2⟩)
  refine bodyPost_ret (results_tmp3 rfl _ _ _) rfl ?_
  exact ⟨rfl, e2⟩
 ·have hz : fixN n = (0, 0, 0) := by
   by_cases h : 0 ≤ n ∧ n < 86
   ·obtain ⟨k, rfl⟩ := Int.eq_ofNat_of_zero_le h.1
    have h1 : ∀ k : Fin 86, ((k.val : Int) < 30 ∧ (k.val : Int) ≠ 12 ∧ (k.val : Int) ≠ 13 ∧ (k.val : Int) ≠ 26 ∧ (k.val : Int) ≠ 27) ∨ (43 < (k.val : Int) ∧ (k.val : Int) ≠ 85) → fixN (k.val : Nat) = (0, 0, 0) := by decide +kernel
    exact h1 ⟨k, by omega⟩ (.inl hc)
   ·have hr : rowOf n = noneRow := if_neg h
    unfold fixN; rw [hr]; rfl
  rw [hz]
  have q12 : (n == 12) = false := beq_eq_false_iff_ne.2 (by omega)
  have q13 : (n == 13) = false := beq_eq_false_iff_ne.2 (by omega)
  have q26 : (n == 26) = false := beq_eq_false_iff_ne.2 (by omega)
  have q27 : (n == 27) = false := beq_eq_false_iff_ne.2 (by omega)
  have q85 : (n == 85) = false := beq_eq_false_iff_ne.2 (by omega)
  have g30 : decide (n ≥ 30) = false := decide_eq_false (by omega)
  have g35 : decide (n ≥ 35) = false := decide_eq_false (by omega)
  clear hz hc hn e1
  go_enter Tryz.func87, Tryz.ntmps87
  go_wp2
  refine bodyPost_ret (results_tmp3 rfl _ _ _) rfl ?_
  exact ⟨rfl, Ext.refl _⟩
 ·have hz : fixN n = (0, 0, 0) := by
   by_cases h : 0 ≤ n ∧ n < 86
   ·obtain ⟨k, rfl⟩ := Int.eq_ofNat_of_zero_le h.1
    have h1 : ∀ k : Fin 86, ((k.val : Int) < 30 ∧ (k.val : Int) ≠ 12 ∧ (k.val : Int) ≠ 13 ∧ (k.val : Int) ≠ 26 ∧ (k.val : Int) ≠ 27) ∨ (43 < (k.val : Int) ∧ (k.val : Int) ≠ 85) → fixN (k.val : Nat) = (0, 0, 0) := by decide +kernel
    exact h1 ⟨k, by omega⟩ (.inr hc)
   ·have hr : rowOf n = noneRow := if_neg h
    unfold fixN; rw [hr]; rfl
  rw [hz]
  have q12 : (n == 12) = false := beq_eq_false_iff_ne.2 (by omega)
  have q13 : (n == 13) = false := beq_eq_false_iff_ne.2 (by omega)
  have q26 : (n == 26) = false := beq_eq_false_iff_ne.2 (by omega)
  have q27 : (n == 27) = false := beq_eq_false_iff_ne.2 (by omega)
  have q85 : (n == 85) = false := beq_eq_false_iff_ne.2 (by omega)
  have g30 : decide (n ≥ 30) = true := decide_eq_true (by omega)
  have l34 : decide (n ≤ 34) = false := decide_eq_false (by omega)
  have g35 : decide (n ≥ 35) = true := decide_eq_true (by omega)
  have l43 : decide (n ≤ 43) = false := decide_eq_false (by omega)
  clear hz hc hn e1
  go_enter Tryz.func87, Tryz.ntmps87
  go_wp2
  refine bodyPost_ret (results_tmp3 rfl _ _ _) rfl ?_
  exact ⟨rfl, Ext.refl _⟩
end Go.Proofs.YtmofdnlefjfcfaaGreatDoor


set_option linter.unusedVariables false
set_option linter.unusedSimpArgs false
namespace Go.Proofs.YtmofdnlefjfcfaaGreatDoor
open Go.RowKit

def idAt (code src off imm : Int) (k : Nat) : Option (Int × Bool) :=
 if matchesN (rowOf k) src off imm then (if (codeN k false).1 = code then some (k, false) else if (codeN k true).2 = true ∧ (codeN k true).1 = code then some (k, true) else none) else none
/-- What Identify answers. -/
def idR (code src off imm : Int) : Int × Bool × Bool :=
 match (List.range 86).findSome? (idAt code src off imm) with
 | some (n, reg) => (n, reg, true)
 | none => (0, false, false)
theorem range_first {α : Type} (f : Nat → Option α) : ∀ (n k : Nat) (r : α), k < n → (∀ j, j < k → f j = none) → f k = some r → (List.range n).findSome? f = some r := by
 intro n k r hk hn hr
 have e : List.range n = List.range k ++ (k :: (List.range n).drop (k + 1)) := by
  apply List.ext_getElem?
  intro i
  by_cases h1 : i < k
  ·rw [List.getElem?_append_left (by simpa using h1)]
   simp [List.getElem?_range, h1, Nat.lt_trans h1 hk]
  ·rw [List.getElem?_append_right (by simpa using h1)]
   rcases Nat.eq_or_lt_of_le (Nat.not_lt.1 h1) with h2 | h2
   ·subst h2; simp [List.getElem?_range, hk]
   ·obtain ⟨m, rfl⟩ := Nat.exists_eq_add_of_lt h2
    simp only [List.length_range]
    rw [show k + m + 1 - k = m + 1 by omega, List.getElem?_cons_succ, List.getElem?_drop]
    congr 1
    omega
 rw [e, List.findSome?_append]
 have h0 : (List.range k).findSome? f = none := by
  rw [List.findSome?_eq_none_iff]
  intro x hx
  exact hn x (by simpa using hx)
 rw [h0, List.findSome?_cons, hr]
 rfl
theorem idR_hit {code src off imm : Int} {k : Nat} {n : Int} {reg : Bool} (hk : k < 86) (hn : ∀ j, j < k → idAt code src off imm j = none) (h : idAt code src off imm k = some (n, reg)) : idR code src off imm = (n, reg, true) := by
 unfold idR
 rw [range_first _ 86 k _ hk hn h]
theorem idR_none {code src off imm : Int} (hn : ∀ j, j < 86 → idAt code src off imm j = none) : idR code src off imm = (0, false, false) := by
 unfold idR
 have : (List.range 86).findSome? (idAt code src off imm) = none := by
  rw [List.findSome?_eq_none_iff]
  intro x hx
  exact hn x (by simpa using hx)
 rw [this]
theorem codeN_false {k : Nat} (hk : k < 86) : (codeN (k : Nat) false).2 = true := by
 have := form_right (n := (k : Nat)) (by omega)
 unfold codeN
 rw [if_neg this, if_pos rfl]
set_option maxRecDepth 40000 in
set_option maxHeartbeats 8000000 in
theorem opIdent_any (code src off imm : Int) (w : World) (hO : OpsN w) :
  Calls Tryz.prog 163 #[.int .u8 code, .int .i64 src, .int .i64 off, .int .i64 imm] w fun e w' => e = .returned (.tuple #[.int .i64 (idR code src off imm).1, .bool (idR code src off imm).2.1, .bool (idR code src off imm).2.2]) ∧ Ext w w' := by
 have HO := hx hO
 have hB0 : ∀ W, (Instr.index 221 (.agg #[.bool false, .bool true]) (.int .i64 0)).run Tryz.prog W = .ok (.bool false) W := fun W => by kernel_rfl
 have hB1 : ∀ W, (Instr.index 221 (.agg #[.bool false, .bool true]) (.int .i64 1)).run Tryz.prog W = .ok (.bool true) W := fun W => by kernel_rfl
 clear hO
 go_enter Tryz.func163, Tryz.ntmps163
 go_wp2_with (go_at_call 120; refine (table_any _).mono ?_; rintro e w1 ⟨rfl, e1⟩; replace e1 : Ext w w1 := by rw [e1]; exact Ext.new _ _)
 go_loopw [18] (fun i wr => ∃ k : Nat, k ≤ 86 ∧ i = .int .i64 (k : Nat) ∧ (∀ j, j < k → idAt code src off imm j = none) ∧ Ext w wr) (fun i _ => 86 - (RowKit.intOf i).toNat)
 case atStart => exact ⟨0, by omega, rfl, by intro j hj; omega, e1⟩
 case round =>
  obtain ⟨k, hk, rfl, hno, er⟩ := hrel
  have HN := hx hno
  clear hno
  by_cases hlt : k < 86
  ·have hI := fun W => run_index_tab k hlt W
   have dk : decide ((k : Int) < 86) = true := decide_eq_true (by omega)
   have hk0 : (0 : Int) ≤ (k : Int) := by omega
   have hk86 : (k : Int) < 86 := by omega
   have hM := fun W => opMatches_any (rowOf (k : Nat)) src off imm W
   have CO := hx (fun (W : World) (reg : Bool) (hW : Ext w W) => opCode_any (k : Nat) reg W ⟨by omega, by omega⟩ (HO.out.ext hW))
   have hcf := codeN_false hlt
   have hid : idAt code src off imm k = if matchesN (rowOf (k : Nat)) src off imm then (if (codeN k false).1 = code then some (↑k, false) else if (codeN k true).2 = true ∧ (codeN k true).1 = code then some (↑k, true) else none) else none := rfl
   generalize matchesN (rowOf (k : Nat)) src off imm = M at *
   generalize hr : rowOf (k : Nat) = r at *
   clear hr
   unfold OpRow.val at hI hM
   obtain ⟨⟨c0, o0⟩, hC0⟩ : ∃ p, p = codeN k false := ⟨_, rfl⟩
   obtain ⟨⟨c1, o1⟩, hC1⟩ : ∃ p, p = codeN k true := ⟨_, rfl⟩
   have CF := hx (fun W (hW : Ext w W) => CO.out W false hW)
   have CT := hx (fun W (hW : Ext w W) => CO.out W true hW)
   rw [← hC0] at hcf hid CF
   rw [← hC1] at hid CT
   dsimp only at hcf hid CF CT
   subst hcf
   have HID := hx hid
   have HM := hx hM
   clear hC0 hC1 CO hid hM
   cases M with
   | false =>
    go_wp2_with (go_at_call 175; refine (HM.out _).mono ?_; rintro e w2 ⟨rfl, e2⟩; have e3 := (er.alloc (.cells #[.string r.name, .int .i64 r.form, .int .i64 r.bits, .int .u8 r.code, .int .i64 r.src, .int .i64 r.off, .int .i64 r.imm] 159)).trans e2)
    go_roundw
    case rel => exact ⟨k + 1, by omega, by simp, fun j hj => by
     rcases Nat.lt_succ_iff_lt_or_eq.1 hj with h | rfl
     ·exact HN.out j h
     ·rw [HID.out]; rfl, e3⟩
    case measure => simp [RowKit.intOf]; omega
   | true =>
    go_wp2_with (go_at_call 175; refine (HM.out _).mono ?_; rintro e w2 ⟨rfl, e2⟩; have e3 := (er.alloc (.cells #[.string r.name, .int .i64 r.form, .int .i64 r.bits, .int .u8 r.code, .int .i64 r.src, .int .i64 r.off, .int .i64 r.imm] 159)).trans e2)
    go_loopw [29] (fun i wr => ∃ j : Nat, j ≤ 2 ∧ i = .int .i64 (j : Nat) ∧ (1 ≤ j → ¬ c0 = code) ∧ (2 ≤ j → ¬ (o1 = true ∧ c1 = code)) ∧ Ext w wr) (fun i _ => 2 - (RowKit.intOf i).toNat)
    case atStart => exact ⟨0, by omega, rfl, by intro h; omega, by intro h; omega, e3⟩
    case round =>
     obtain ⟨j, hj, rfl, h1, h2, er2⟩ := hrel
     have HC0 := hx h1
     have HC1 := hx h2
     clear h1 h2
     have hj3 : j = 0 ∨ j = 1 ∨ j = 2 := by omega
     rcases hj3 with rfl | rfl | rfl
     ·by_cases hc : c0 = code
      ·have q : (c0 == code) = true := beq_iff_eq.2 hc
       have hR := hx (idR_hit (n := (k : Nat)) (reg := false) hlt HN.out (by rw [HID.out]; simp [hc]))
       clear hc
       go_wp2_with (go_at_call 94; refine (CF.out _ er2).mono ?_; rintro e w4 ⟨rfl, e4⟩)
       refine bodyPost_ret (results_tmp3 rfl _ _ _) rfl ?_
       exact ⟨by rw [hR.out]; rfl, er2.trans e4⟩
      ·have q : (c0 == code) = false := beq_eq_false_iff_ne.2 hc
       have HCC := hx hc
       clear hc
       go_wp2_with (go_at_call 94; refine (CF.out _ er2).mono ?_; rintro e w4 ⟨rfl, e4⟩; replace e4 := er2.trans e4)
       go_roundw
       case rel => exact ⟨1, by omega, by simp, fun _ => HCC.out, by intro h; omega, e4⟩
       case measure => simp [RowKit.intOf]
     ·have hn0 := HC0.out (by omega)
      cases o1 with
      | true =>
       by_cases hc : c1 = code
       ·have q : (c1 == code) = true := beq_iff_eq.2 hc
        have hR := hx (idR_hit (n := (k : Nat)) (reg := true) hlt HN.out (by rw [HID.out]; simp [hn0, hc]))
        clear hc hn0
        go_wp2_with (go_at_call 94; refine (CT.out _ er2).mono ?_; rintro e w4 ⟨rfl, e4⟩)
        refine bodyPost_ret (results_tmp3 rfl _ _ _) rfl ?_
        exact ⟨by rw [hR.out]; rfl, er2.trans e4⟩
       ·have q : (c1 == code) = false := beq_eq_false_iff_ne.2 hc
        have HCC := hx hc
        clear hc hn0
        go_wp2_with (go_at_call 94; refine (CT.out _ er2).mono ?_; rintro e w4 ⟨rfl, e4⟩; replace e4 := er2.trans e4)
        go_roundw
        case rel => exact ⟨2, by omega, by simp, fun _ => HC0.out (by omega), fun _ h => HCC.out h.2, e4⟩
        case measure => simp [RowKit.intOf]
      | false =>
       clear hn0
       go_wp2_with (go_at_call 94; refine (CT.out _ er2).mono ?_; rintro e w4 ⟨rfl, e4⟩; replace e4 := er2.trans e4)
       go_roundw
       case rel => exact ⟨2, by omega, by simp, fun _ => HC0.out (by omega), fun _ h => by simp at h, e4⟩
       case measure => simp [RowKit.intOf]
     ·have hid2 := hx (show idAt code src off imm k = none by rw [HID.out, if_neg (HC0.out (by omega)), if_neg (HC1.out (by omega))]; simp)
      go_wp2
      go_roundw
      case rel => exact ⟨k + 1, by omega, by simp, fun j hj => by
       rcases Nat.lt_succ_iff_lt_or_eq.1 hj with h | rfl
       ·exact HN.out j h
       ·exact hid2.out, er2⟩
      case measure => simp [RowKit.intOf]; omega
  ·obtain rfl : k = 86 := by omega
   have hR := hx (idR_none HN.out)
   go_wp2
   refine bodyPost_ret (results_tmp3 rfl _ _ _) rfl ?_
   exact ⟨by rw [hR.out]; rfl, er⟩
end Go.Proofs.YtmofdnlefjfcfaaGreatDoor
