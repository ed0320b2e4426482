/- The layer strtab: Build, and that of its reference. -/
import Derived.Test.YtiaddncjghkajaaGreatDoorJBoxU
import Derived.Test.YtiaddncjghkajaaGreatDoorShelf
set_option linter.unusedVariables false
set_option linter.unusedSimpArgs false
namespace Go.Proofs.YtiaddncjghkajaaGreatDoor
open Go.RowKit Go.Lib

/-- A text that may stand in a table. -/
structure GoodT (s : ByteArray) : Prop where
  ne : s.size ≠ 0
  nul : (0 : Int) ∉ bytesOf s
def tlen (l : List ByteArray) : Nat := (l.map fun s => s.size + 1).sum
def tab (l : List ByteArray) : List Int := l.flatMap fun s => bytesOf s ++ [0]
def tabOf (l : List ByteArray) : List Int := 0 :: tab l
def offsOf : Nat → List ByteArray → List Int
  | _, [] => []
  | a, s :: l => (a : Int) :: offsOf (a + s.size + 1) l
theorem tab_length (l : List ByteArray) : (tab l).length = tlen l := by
  induction l with
  | nil => rfl
  | cons s l ih => simp only [tab, tlen, List.flatMap_cons, List.map_cons, List.sum_cons, List.length_append, bytesOf_length] at *; simp [ih]
theorem tabOf_length (l : List ByteArray) : (tabOf l).length = tlen l + 1 := by simp [tabOf, tab_length]
theorem tlen_le {l : List ByteArray} {B : Nat} (h : ∀ s ∈ l, s.size ≤ B) : tlen l ≤ l.length * (B + 1) := by
  induction l with
  | nil => simp [tlen]
  | cons s l ih =>
    have := ih fun s hs => h s (by simp [hs])
    have := h s (by simp)
    simp only [tlen, List.map_cons, List.sum_cons, List.length_cons, Nat.add_mul] at *
    omega
theorem tlen_append (a b : List ByteArray) : tlen (a ++ b) = tlen a + tlen b := by simp [tlen]
theorem tab_append (a b : List ByteArray) : tab (a ++ b) = tab a ++ tab b := by simp [tab]
theorem offsOf_length (a : Nat) (l : List ByteArray) : (offsOf a l).length = l.length := by
  induction l generalizing a with
  | nil => rfl
  | cons s l ih => simp [offsOf, ih]
theorem offsOf_snoc (a : Nat) (l : List ByteArray) (s : ByteArray) : offsOf a (l ++ [s]) = offsOf a l ++ [((a + tlen l : Nat) : Int)] := by
  induction l generalizing a with
  | nil => simp [offsOf, tlen]
  | cons t l ih => simp only [List.cons_append, offsOf, ih, tlen, List.map_cons, List.sum_cons]; simp; omega
theorem tab_byt (l : List ByteArray) : Byt (tab l) := by
  intro x hx
  obtain ⟨s, _, hx⟩ := List.mem_flatMap.1 hx
  rcases List.mem_append.1 hx with h | h
  · exact bytesOf_byt s x h
  · simp at h; omega
theorem tabOf_byt (l : List ByteArray) : Byt (tabOf l) := by
  intro x hx
  rcases List.mem_cons.1 hx with rfl | h
  · omega
  · exact tab_byt l x h
theorem offsOf_bd (a : Nat) (l : List ByteArray) : ∀ x ∈ offsOf a l, 0 ≤ x ∧ x ≤ a + tlen l := by
  induction l generalizing a with
  | nil => intro x hx; cases hx
  | cons t l ih =>
    intro x hx
    simp only [offsOf, List.mem_cons] at hx
    have : tlen (t :: l) = t.size + 1 + tlen l := by simp [tlen]
    rcases hx with rfl | hx
    · omega
    · have := ih _ x hx; omega
theorem indexByte_none (l : List UInt8) (h : (0 : UInt8) ∉ l) : Lib.indexByte l 0 = -1 := by
  induction l with
  | nil => rfl
  | cons b l ih =>
    have h1 : b ≠ 0 := fun e => h (by simp [e])
    have h2 := ih fun e => h (by simp [e])
    unfold Lib.indexByte
    rw [h2]
    simp [h1]
theorem GoodT.index {s : ByteArray} (h : GoodT s) : Lib.indexByte s.data.toList (0 : Int).toNat.toUInt8 = -1 := by
  refine indexByte_none _ fun hm => h.nul ?_
  simp only [bytesOf, List.mem_map]
  exact ⟨0, hm, rfl⟩

theorem toList_ne {x : ByteArray} (h : x.size ≠ 0) : x.toList.isEmpty = false := by
  rw [Go.ByteArray.toList_eq]
  cases e : x.data.toList with
  | nil => exact absurd (by show x.data.size = 0; rw [← Array.length_toList, e]; rfl) h
  | cons a l => rfl
theorem name_world {P : Program} {c : Code} {Q : Exit → Act → World → Prop} {a : Act} {W : World} (h : ∀ W', W' = W → Code.wp P c Q a W') : Code.wp P c Q a W := h W rfl
/-- A block of numbers, whole. -/
def RowI (w : World) (g : Nat) (l : List Int) : Prop := w.heap[g]? = some (.cells (l.map (Value.int .i64)).toArray 3 (0, 0))
theorem RowI.cell {w : World} {g : Nat} {l : List Int} (h : RowI w g l) {i : Nat} {y : Int} (hy : l[i]? = some y) : w.cell? ⟨g, i, none⟩ = some (.int .i64 y) := by
  simp [World.cell?, show w.heap[g]? = _ from h, hy]
theorem RowI.frozen {w : World} {g : Nat} {l : List Int} (h : RowI w g l) (i : Nat) : w.frozen? ⟨g, i, none⟩ = false := by
  simp [World.frozen?, show w.heap[g]? = _ from h]
theorem RowI.set {w : World} {g : Nat} {l : List Int} (h : RowI w g l) (i : Nat) (y : Int) : RowI (w.setCell ⟨g, i, none⟩ (.int .i64 y)) g (l.set i y) := by
  unfold RowI at *
  simp only [World.setCell, Array.getElem?_modify, h, if_true, Option.map_some]
  simp [List.map_set]
theorem RowI.lt {w : World} {g : Nat} {l : List Int} (h : RowI w g l) : g < w.heap.size := (Array.getElem?_eq_some_iff.1 h).1
theorem RowI.keep {w w' : World} {g : Nat} {l : List Int} {row : Option Nat} (h : RowI w g l) (hg : w.grownBy w' row) (hne : some g ≠ row) : RowI w' g l :=
  (hg.block g h.lt hne).trans h
theorem RowI.ext {w w' : World} {g : Nat} {l : List Int} (h : RowI w g l) (hg : Ext w w') : RowI w' g l := hg.obj h
theorem rowI_made (w : World) (N : Nat) : RowI (w.alloc (.cells (madeCells #[.int .i64 0] N) 3)) w.heap.size (List.replicate N 0) := by
  have e : madeCells #[.int .i64 0] N = ((List.replicate N 0).map (Value.int .i64)).toArray := by
    apply Array.ext'
    rw [toList_madeCells_one]; simp
  unfold RowI
  rw [e]
  exact heap_alloc_new w _
theorem RowI.read {w : World} {g N : Nat} {L : List Int} (h : RowI w g L) (hb : ∀ x ∈ L, I64 x) (hN : L.length = N) (hL : L.length ≤ 1000000000000) : IsInts w (.slice (some ⟨g, 0, none⟩) N N) L := by
  subst hN
  refine ⟨_, L.length, rfl, ⟨Nat.le_refl _, by simp only [maxLen]; omega⟩, by omega, (fun h => by cases h), fun i x hx => ⟨g, 0, rfl, ?_, hb x (List.mem_of_getElem? hx)⟩⟩
  rw [Nat.mul_one, Nat.zero_add]; exact h.cell hx
theorem RowB.ne {w : World} {g g' : Nat} {l l' : List Int} (h : RowB w g l) (h' : RowI w g' l') : g ≠ g' := by
  intro e
  subst e
  unfold RowB RowI at *
  rw [h] at h'
  injection h' with h'
  injection h' with _ ht
  exact absurd ht (by decide)

set_option maxRecDepth 20000 in
set_option maxHeartbeats 1000000 in
theorem strtab_Build_any (v : Value) (l : List ByteArray) (w : World) (hl : l.length ≤ 1000) (hg : ∀ s ∈ l, GoodT s) (hs : ∀ s ∈ l, s.size ≤ 1000) (hv : IsStrs w v l) :
    Calls Tryz.prog 46 #[v] w fun e w' => ∃ t o, e = .returned (.tuple #[t, o, .int .i64 0]) ∧ IsB w' t (tabOf l) ∧ IsInts w' o (offsOf 1 l) ∧ Ext w w' := by
  obtain ⟨A, c, rfl, -, -, hv'⟩ := hv.form
  have hT : tlen l ≤ 1001000 := Nat.le_trans (tlen_le hs) (by omega)
  have HG := hx hg
  have HS := hx hs
  clear hg hs
  go_enter Tryz.func46, Tryz.ntmps46
  go_wp2
  go_loopw [5, 15] (fun s i wr => ∃ (pre suf : List ByteArray), l = pre ++ suf ∧ i = .int .i64 (pre.length : Nat) ∧ s = .int .i64 ((tlen pre + 1 : Nat)) ∧ w = wr) (fun _ i _ => l.length - (RowKit.intOf i).toNat)
  case atStart => exact ⟨[], l, rfl, rfl, rfl, rfl⟩
  case round =>
    obtain ⟨pre, suf, hl', rfl, rfl, rfl⟩ := hrel
    have hb : tlen pre + tlen suf ≤ 1001000 := by rw [← tlen_append, ← hl']; exact hT
    cases suf with
    | cons x suf =>
      have hlt : pre.length < l.length := by rw [hl']; simp
      have hgx := HG.out x (by rw [hl']; simp)
      have hsx := HS.out x (by rw [hl']; simp)
      have hvx := hv'
      rw [hl'] at hvx
      obtain ⟨b, o, rfl, d1⟩ := hvx.at
      obtain ⟨d1, d2⟩ := d1
      rw [Nat.mul_one] at d1
      have HL := hx hl'; clear hl' hvx
      have hne := hgx.ne
      have hix := hgx.index
      have hnx := toList_ne hne
      simp only [show ((0 : Int).toNat.toUInt8) = (0 : UInt8) from rfl] at hix
      go_wp2_with (first | (go_at_call 88; refine (Tryz.strings_IndexByte _ _ _).mono ?_; rintro e w' ⟨rfl, rfl⟩))
      go_roundw
      case rel => exact ⟨pre ++ [x], suf, by simp [HL.out], by simp, by rw [tlen_append]; simp [tlen]; omega, trivial⟩
      case measure => simp [RowKit.intOf]; omega
    | nil =>
      obtain rfl : l = pre := by simpa using hl'
      clear hl'
      have hlt : ¬ l.length < l.length := by omega
      obtain ⟨N, hN⟩ : ∃ N : Nat, N = tlen l + 1 := ⟨_, rfl⟩
      rw [← hN]
      have HN := hx hN
      have hNb : N ≤ 1001001 := by omega
      clear hN hT hb
      have hmk := run_make_row' (P := Tryz.prog) 23 5 (.int .u8 0) 1 Tryz.underlying23 (by kernel_rfl) rfl .i64 .i64 N (by omega) (by omega)
      have hmi := run_make_row' (P := Tryz.prog) 70 3 (.int .i64 0) 8 Tryz.underlying70 (by kernel_rfl) rfl .i64 .i64 l.length (by omega) (by omega)
      go_wp2
      go_region
      all_goals go_wp2
      all_goals refine name_world ?_
      all_goals (intro w2 hw2; clear hmk hmi)
      all_goals first
        | (obtain ⟨gb, hgb⟩ : ∃ g, g = w.heap.size := ⟨_, rfl⟩
           obtain ⟨gi, hgi⟩ : ∃ g, g = w.heap.size + 1 := ⟨_, rfl⟩
           have rb : RowB w2 gb (List.replicate N 0) := by rw [hw2, hgb]; exact (rowB_made w N).ext (Ext.drew (Ext.new _ _))
           have ri : RowI w2 gi (List.replicate l.length 0) := by rw [hw2, hgi]; exact RowI.ext (by have h := rowI_made (w.alloc (.cells (madeCells #[.int .u8 0] N) 5)) l.length; simpa using h) (Ext.drew (Ext.refl _))
           rw [← hgi, ← hgb])
        | (obtain ⟨gi, hgi⟩ : ∃ g, g = w.heap.size := ⟨_, rfl⟩
           obtain ⟨gb, hgb⟩ : ∃ g, g = w.heap.size + 1 := ⟨_, rfl⟩
           have ri : RowI w2 gi (List.replicate l.length 0) := by rw [hw2, hgi]; exact (rowI_made w l.length).ext (Ext.drew (Ext.new _ _))
           have rb : RowB w2 gb (List.replicate N 0) := by rw [hw2, hgb]; exact RowB.ext (by have h := rowB_made (w.alloc (.cells (madeCells #[.int .i64 0] l.length) 3)) N; simpa using h) (Ext.drew (Ext.refl _))
           rw [← hgb, ← hgi])
      all_goals
        have hgbb : w.heap.size ≤ gb := by omega
        have hgii : w.heap.size ≤ gi := by omega
        have hex : Ext w w2 := by rw [hw2]; exact (((Ext.refl w).alloc _).alloc _).drew
        have hgn := rb.ne ri
        clear hw2 hgb hgi
        go_loopw [10, 39] (fun a i wr => ∃ (pre suf : List ByteArray) (a' q : Nat), l = pre ++ suf ∧ i = .int .i64 (pre.length : Nat) ∧ a = .int .i64 a' ∧ a' = tlen pre + 1 ∧ a' + q = N ∧ RowB wr gb (tabOf pre ++ List.replicate q 0) ∧ RowI wr gi (offsOf 1 pre ++ List.replicate suf.length 0) ∧ Ext w wr) (fun _ i _ => l.length - (RowKit.intOf i).toNat)
        case atStart =>
          have := HN.out
          exact ⟨[], l, 1, tlen l, rfl, rfl, rfl, rfl, by omega, by rw [HN.out, Nat.add_comm, ← List.replicate_append_replicate] at rb; exact rb, ri, hex⟩
        case round =>
          clear rb ri hex
          obtain ⟨pre, suf, a', q, hl', rfl, rfl, ha, hq, rb, ri, hex⟩ := hrel
          have HA := hx ha; clear ha
          have HQ := hx hq; clear hq
          cases suf with
          | cons x suf =>
            have hlt : pre.length < l.length := by rw [hl']; simp
            have hsx := HS.out x (by rw [hl']; simp)
            have hsuf : Hx (q = x.size + (1 + tlen suf)) := ⟨by have h1 := HA.out; have h2 := HQ.out; have h3 := HN.out; rw [hl', tlen_append] at h3; simp [tlen] at *; omega⟩
            have haq : a' < N := by have := HQ.out; have := hsuf.out; omega
            have haq2 : a' + x.size ≤ N := by have := HQ.out; have := hsuf.out; omega
            have hvx := hv'
            rw [hl'] at hvx
            obtain ⟨b, o, rfl, d1⟩ := hvx.at
            obtain ⟨d1, d2⟩ := EStr.ext d1 hex
            rw [Nat.mul_one] at d1
            have HL := hx hl'; clear hl' hvx
            have c1 : wr.cell? ⟨gi, pre.length, none⟩ = some (.int .i64 0) := ri.cell (by rw [List.getElem?_append_right (by rw [offsOf_length]; exact Nat.le_refl _)]; simp [offsOf_length])
            have c2 := ri.frozen pre.length
            have rb1 : RowB (wr.setCell ⟨gi, pre.length, none⟩ (.int .i64 (a' : Int))) gb (tabOf pre ++ List.replicate q 0) := rb.keep (grown_setCell _ _ _ _) (by intro e; injection e with e; exact hgn e)
            have ri1 := ri.set pre.length (a' : Int)
            have hex1 : Ext w (wr.setCell ⟨gi, pre.length, none⟩ (.int .i64 (a' : Int))) := hex.setCell _ hgii
            have hne : ¬ N = a' := by omega
            have hlen : Hx ((tabOf pre ++ List.replicate q 0).length = N) := ⟨by have := HA.out; have := HQ.out; simp [tabOf_length]; omega⟩
            have hfit : a' + x.size ≤ (tabOf pre ++ List.replicate q (0 : Int)).length := by rw [hlen.out]; exact haq2
            clear rb ri
            go_wp2_with (refine wp_copyStr (off := a') (dLen := N - a') (dCap := N - a') Tryz.underlying23 sizeB rb1 x hfit (by omega) (by rfl) (by rfl) (by rfl) (by rfl) ?_; intro w3 r3 g3)
            have ri3 := ri1.keep g3 (by intro e; injection e with e; exact hgn e.symm)
            have hex3 := hex1.grown g3 (fun k hk => by injection hk with hk; omega)
            clear rb1 ri1 g3 hex hex1
            go_roundw
            case rel =>
              refine ⟨pre ++ [x], suf, a' + (x.size + 1), tlen suf, by simp [HL.out], by simp, by simp, by rw [tlen_append]; have := HA.out; simp [tlen] at *; omega, by have := HQ.out; have := hsuf.out; omega, ?_, ?_, hex3⟩
              · have e : a' = (tabOf pre).length := by rw [tabOf_length]; exact HA.out
                rw [hsuf.out, e, ← bytesOf_length x, ← List.replicate_append_replicate] at r3
                have e2 := splice_mid (tabOf pre) (List.replicate (bytesOf x).length 0) (bytesOf x) (List.replicate (1 + tlen suf) 0) (by simp)
                rw [e2] at r3
                have e3 : tabOf (pre ++ [x]) ++ List.replicate (tlen suf) 0 = tabOf pre ++ (bytesOf x ++ List.replicate (1 + tlen suf) 0) := by
                  rw [← List.replicate_append_replicate]; simp [tabOf, tab_append, tab]
                rw [e3]; exact r3
              · rw [offsOf_snoc]
                have e3 : offsOf 1 pre ++ [((1 + tlen pre : Nat) : Int)] ++ List.replicate suf.length 0 = (offsOf 1 pre ++ List.replicate (x :: suf).length 0).set pre.length (a' : Int) := by
                  rw [List.set_append_right _ _ (by rw [offsOf_length]; exact Nat.le_refl _), offsOf_length, Nat.sub_self, HA.out]
                  simp [List.replicate_succ]; omega
                rw [e3]; exact ri3
            case measure => simp [RowKit.intOf]; omega
          | nil =>
            obtain rfl : l = pre := by simpa using hl'
            clear hl'
            have hlt : ¬ l.length < l.length := by omega
            go_wp2
            go_ret3
            refine ⟨_, _, rfl, ?_, ?_, hex⟩
            · have hq0 : q = 0 := by have := HA.out; have := HQ.out; have := HN.out; omega
              rw [hq0] at rb
              simp only [List.replicate_zero, List.append_nil] at rb
              exact rb.read (tabOf_byt l) (by rw [tabOf_length, HN.out]) (by rw [tabOf_length]; have := HN.out; omega)
            · simp only [List.length_nil, List.replicate_zero, List.append_nil] at ri
              exact ri.read (fun z hz => by have := offsOf_bd 1 l z hz; have := HN.out; constructor <;> omega) (offsOf_length _ _) (by rw [offsOf_length]; omega)
end Go.Proofs.YtiaddncjghkajaaGreatDoor


set_option linter.unusedVariables false
set_option linter.unusedSimpArgs false
namespace Go.Proofs.YtiaddncjghkajaaGreatDoor
open Go.RowKit Go.Lib

theorem infoB : ∃ i, Tryz.prog.info? 5 = some i ∧ i.zero = some (.int .u8 0) ∧ i.size = 1 ∧ i.bytes = 1 := by
  have h : (Tryz.prog.info? 5).map (fun i => (i.zero, i.size, i.bytes)) = some (some (.int .u8 0), 1, 1) := by kernel_rfl
  obtain ⟨i, hi, hz⟩ := Option.map_eq_some_iff.1 h
  simp only [Prod.mk.injEq] at hz
  exact ⟨i, hi, hz.1, hz.2.1, hz.2.2⟩
/-- append(v, s...), s a text. -/
theorem wp_appStr {ops : Array Oper} {rest : List Oper} {o : Oper} {a : Act} {Q : Exit → Act → World → Prop} {w : World} {base : Nat} {v : Value} {l : List Int} (HO : OwnB w base v l) (s : ByteArray) (hgd : o.guard = none) {sl x : Operand}
    (ho : o.op = .call { callee := .builtin .append, args := #[sl, x], argTypes := #[23, 9] }) (hs : a.eval sl = v) (hx : a.eval x = .string s) (hbase : base ≤ w.heap.size) (hl : l.length + s.size ≤ 140737488355328)
    (h : ∀ v' w', OwnB w' base v' (l ++ bytesOf s) → w.grownBy w' v.ownBlock → wpList Tryz.prog ops Q rest (a.put o.dst v') w') : wpList Tryz.prog ops Q (o :: rest) a w := by
  obtain ⟨i, hi, hz, hs1, hb1⟩ := infoB
  have hO : w.ownsRow base 5 1 v l.length (l.map (Value.int .u8)) := by unfold OwnB Own at HO; rw [flat1] at HO; exact HO
  refine wpList_append_own_string (P := Tryz.prog) w hgd sl x _ _ ho base 5 i Tryz.underlying23 Tryz.underlying9 hi hz hs1 hb1 v l.length _ hs hO s hx (by simp only [maxLen]; omega) hl hbase ?_
  intro v' w' h1 h2 _
  refine h v' w' ?_ h2
  unfold OwnB Own
  rw [flat1, List.length_append, bytesOf_length, List.map_append, ← strCells_eq]
  exact h1
theorem OwnI.read {w : World} {base : Nat} {v : Value} {l : List Int} (h : OwnI w base v l) (hb : ∀ x ∈ l, I64 x) (hl : l.length ≤ 281474976710656) : IsInts w v l :=
  Own.read encI_ok h hl fun x hx b o hc => ⟨by simpa using hc 0 (.int .i64 x) rfl, hb x hx⟩
theorem OwnS.read {w : World} {base : Nat} {v : Value} {l : List ByteArray} (h : OwnS w base v l) (hb : ∀ x ∈ l, x.size ≤ 140737488355328) (hl : l.length ≤ 281474976710656) : IsStrs w v l :=
  Own.read encS_ok h hl fun x hx b o hc => ⟨by simpa using hc 0 (.string x) rfl, hb x hx⟩

set_option maxRecDepth 20000 in
set_option maxHeartbeats 1000000 in
theorem ref14_Build_any (v : Value) (l : List ByteArray) (w : World) (hl : l.length ≤ 1000) (hs : ∀ s ∈ l, s.size ≤ 1000) (hv : IsStrs w v l) :
    Calls Tryz.prog 54 #[v] w fun e w' => ∃ t o, e = .returned (.tuple #[t, o]) ∧ IsB w' t (tabOf l) ∧ IsInts w' o (offsOf 1 l) ∧ Ext w w' := by
  obtain ⟨A, c, rfl, -, -, hv'⟩ := hv.form
  have hT : tlen l ≤ 1001000 := Nat.le_trans (tlen_le hs) (by omega)
  have HS := hx hs
  have HT := hx hT
  clear hs hT
  go_enter Tryz.func54, Tryz.ntmps54
  go_wp2
  go_loopw [4, 5, 6] (fun t u i wr => ∃ (pre suf : List ByteArray), l = pre ++ suf ∧ i = .int .i64 (pre.length : Nat) ∧ OwnB wr w.heap.size t (tabOf pre) ∧ OwnI wr w.heap.size u (offsOf 1 pre) ∧ Ext w wr) (fun _ _ i _ => l.length - (RowKit.intOf i).toNat)
  case atStart => exact ⟨[], l, rfl, rfl, OwnB.lit _ _ [0] (Nat.le_refl _) (by simp), Own.nil _ _ _ _ _, Ext.new _ _⟩
  case round =>
    obtain ⟨pre, suf, hl', rfl, ob, oi, hex⟩ := hrel
    have hb : tlen pre + tlen suf ≤ 1001000 := by rw [← tlen_append, ← hl']; exact HT.out
    have hpl : pre.length ≤ 1000 := by have := congrArg List.length hl'; simp at this; omega
    obtain ⟨A1, c1, rfl⟩ := ob.slice
    obtain ⟨A2, c2, rfl⟩ := oi.slice
    have hsz := hex.size
    have hlen := hx (tabOf_length pre)
    have hlo := hx (offsOf_length 1 pre)
    cases suf with
    | cons x suf =>
      have hlt : pre.length < l.length := by rw [hl']; simp
      have hsx := HS.out x (by rw [hl']; simp)
      have hvx := hv'
      rw [hl'] at hvx
      obtain ⟨b, o, rfl, d1⟩ := hvx.at
      have HL := hx hl'; clear hl' hvx
      have hne := ob.type_ne oi (by decide)
      go_wp2_with (first
        | (at_builtin; refine wp_app1 tyI encI_ok oi ((tabOf pre).length : Int) rfl rfl rfl rfl rfl (by omega) (by decide) (by rw [hlo.out]; omega) ?_; intro g cap w1 oi1 g1 a1 b1; have ob1 := ob.kept g1 hne; have e1 := hex.grown g1 oi.base_le; have d2 := e1.cell d1.1; rw [Nat.mul_one] at d2; have s1 := e1.size
           clear ob oi g1 hne hex a1; have hne := oi1.type_ne ob1 (by decide))
        | (at_builtin; refine wp_appStr ob1 x rfl rfl rfl rfl (by omega) (by have := hlen.out; omega) ?_; intro v2 w2 ob2 g2; have oi2 := oi1.kept g2 hne; have e2 := e1.grown g2 ob1.base_le; obtain ⟨L2, hL2⟩ : ∃ L2, L2 = tabOf pre ++ bytesOf x := ⟨_, rfl⟩; rw [← hL2] at ob2; replace hL2 := hx hL2; obtain ⟨A3, c3, rfl⟩ := ob2.slice; have s2 := e2.size
           clear ob1 oi1 e1 g2 hne; have hne := oi2.type_ne ob2 (by decide); have hl3 := hx (show L2.length = (tabOf pre).length + (bytesOf x).length by rw [hL2.out, List.length_append]))
        | (at_builtin; refine wp_app1 tyB encB_ok ob2 0 rfl rfl rfl rfl rfl (by omega) (by decide) (by have h1 := hl3.out; have h2 := hlen.out; rw [bytesOf_length] at h1; omega) ?_; intro g' cap' w3 ob3 g3 a3 b3; have oi3 := oi2.kept g3 hne; have e3 := e2.grown g3 ob2.base_le
           clear ob2 oi2 e2 g3 hne))
      go_roundw
      case rel =>
        refine ⟨pre ++ [x], suf, by simp [HL.out], by simp, ?_, ?_, e3⟩
        · have e : tabOf (pre ++ [x]) = L2 ++ [0] := by rw [hL2.out]; simp [tabOf, tab_append, tab]
          rw [e]; exact ob3
        · have e : offsOf 1 (pre ++ [x]) = offsOf 1 pre ++ [((tabOf pre).length : Int)] := by rw [offsOf_snoc, tabOf_length, Nat.add_comm]
          rw [e]; exact oi3
      case measure => simp [RowKit.intOf]; omega
    | nil =>
      obtain rfl : l = pre := by simpa using hl'
      clear hl'
      have hlt : ¬ l.length < l.length := by omega
      go_wp2
      go_ret2
      exact ⟨_, _, rfl, ob.read (tabOf_byt l) (by have := hlen.out; omega), oi.read (fun z hz => by have := offsOf_bd 1 l z hz; constructor <;> omega) (by have := hlo.out; omega), hex⟩
end Go.Proofs.YtiaddncjghkajaaGreatDoor
