/- The layer strtab: Get, and that of its reference. -/
import Derived.Test.YtiaddncjghkajaaGreatDoorJTab
import Derived.Shelf.Bytes.SlSmallAll
set_option linter.unusedVariables false
set_option linter.unusedSimpArgs false
namespace Go.Proofs.YtiaddncjghkajaaGreatDoor
open Go.RowKit Go.Lib

theorem conv_str {w W : World} {v : Value} {xs : List Int} (h : IsB w v xs) (he : Ext w W) : (convert 23 9 v).run Tryz.prog W = .ok (.string (strOfNums xs)) W := by
  obtain ⟨A, c, rfl, h1, h2, hnn, h4⟩ := IsB.ext h he
  by_cases h0 : xs.length = 0
  · obtain rfl : xs = [] := List.eq_nil_of_length_eq_zero h0
    have := run_convert_bytes_zero (P := Tryz.prog) W 23 5 Tryz.underlying23 Tryz.underlying5 A c 9 Tryz.underlying9
    exact this
  · have hp : 0 < xs.length := by omega
    obtain ⟨b, o, rfl, _⟩ := h4 0 _ (List.getElem?_eq_getElem hp)
    refine run_convert_bytes_arg (P := Tryz.prog) W 23 5 Tryz.underlying23 Tryz.underlying5 b o xs.length c xs rfl (fun i hi => ?_) 9 Tryz.underlying9
    obtain ⟨b2, o2, hb2, hE⟩ := h4 i _ (List.getElem?_eq_getElem hi)
    cases hb2
    rw [Nat.mul_one] at hE
    rw [hE.1]; simp [hi]

/-- What stands up to the first byte 0; nothing where there is none. -/
def nulAt : List Int → Option (List Int)
  | [] => none
  | x :: l => if x = 0 then some [] else (nulAt l).map (x :: ·)
theorem nulAt_take {l t : List Int} (h : nulAt l = some t) : t = l.take t.length ∧ t.length < l.length := by
  induction l generalizing t with
  | nil => cases h
  | cons x l ih =>
    unfold nulAt at h
    split at h
    · cases h; simp
    · obtain ⟨u, hu, rfl⟩ := Option.map_eq_some_iff.1 h
      have := ih hu
      refine ⟨by simp only [List.length_cons, List.take_succ_cons]; rw [← this.1], by simp; exact this.2⟩
def nulIx (l : List Int) : Int := match nulAt l with | none => -1 | some t => t.length
theorem nulIx_eq (l : List Int) (hb : Byt l) : Lib.indexByte (Lib.bytesOf l) (0 : Int).toNat.toUInt8 = nulIx l := by
  unfold nulIx
  induction l with
  | nil => rfl
  | cons x l ih =>
    have hx := hb x (by simp)
    have ih := ih fun y hy => hb y (by simp [hy])
    have hz : ((0 : Int).toNat.toUInt8) = 0 := rfl
    rw [hz] at ih ⊢
    have e : Lib.bytesOf (x :: l) = UInt8.ofNat x.toNat :: Lib.bytesOf l := rfl
    rw [e, Lib.indexByte, ih, show nulAt (x :: l) = if x = 0 then some [] else (nulAt l).map (x :: ·) from rfl]
    by_cases h0 : x = 0
    · subst h0; rfl
    · have h1 : UInt8.ofNat x.toNat ≠ 0 := by
        intro h
        have := congrArg UInt8.toNat h
        simp at this
        omega
      have h2 : (UInt8.ofNat x.toNat == 0) = false := beq_eq_false_iff_ne.2 h1
      rw [h2, if_neg h0]
      cases hn : nulAt l with
      | none => simp
      | some t =>
        have h3 : ((t.length : Int) == -1) = false := beq_eq_false_iff_ne.2 (by omega)
        simp [h3]
def getT (b : List Int) (off : Int) : Option (List Int) := if 0 ≤ off ∧ off < b.length then nulAt (b.drop off.toNat) else none
def getS (b : List Int) (off : Int) : ByteArray := match getT b off with | none => ⟨#[]⟩ | some t => strOfNums t
def getE (b : List Int) (off : Int) : Int := match getT b off with | none => 4 | some _ => 0
def getB (b : List Int) (off : Int) : Bool := (getT b off).isSome

/-- bytes.Cut at the byte 0. -/
theorem cut0_any {w : World} {b o n c g d : Nat} {xs : List Int} (h : IsB w (.slice (some ⟨b, o, none⟩) n c) xs) (hn : xs.length ≤ 1000000000) (hg : w.cell? ⟨g, 0, none⟩ = some (.int .u8 0)) :
    Calls Tryz.prog 179 #[.slice (some ⟨b, o, none⟩) n c, .slice (some ⟨g, 0, none⟩) 1 d] w fun e w' => e = .returned (Lib.cutV (some ⟨b, o, none⟩) n c 1 (nulIx xs)) ∧ Ext w w' := by
  obtain ⟨hl, hnc, hn2⟩ := h.len_eq
  subst hl
  have hbt := h.byt
  have hidx := Tryz.bytes_Index_one b o xs.length c g 0 d xs 0 w rfl (fun i hi => by
    obtain ⟨b2, o2, hb2, hE⟩ := h.get (List.getElem?_eq_getElem hi)
    cases hb2
    rw [Nat.mul_one] at hE
    rw [hE.1]; simp [hi]) hg
  rw [nulIx_eq xs hbt] at hidx
  have hi0 : -1 ≤ nulIx xs := by unfold nulIx; split <;> omega
  have hi1 : 0 ≤ nulIx xs → nulIx xs + (1 : Nat) ≤ xs.length := by
    unfold nulIx
    split
    · omega
    · rename_i t ht; have := (nulAt_take ht).2; omega
  refine (Tryz.bytes_Cut_of (some ⟨b, o, none⟩) (some ⟨g, 0, none⟩) xs.length c 1 d (nulIx xs) w hnc hi0 hi1 (by omega) (hidx.mono fun e w' h => ⟨h.1, 0, by rw [h.2]; rfl⟩)).mono ?_
  rintro e w' ⟨rfl, q, rfl⟩
  exact ⟨rfl, (Ext.refl w).drewN q⟩

set_option maxRecDepth 20000 in
set_option maxHeartbeats 1000000 in
theorem strtab_Get_any (v : Value) (l : List Int) (off : Int) (w : World) (hv : IsB w v l) (hl : l.length ≤ 1000000000) (h0 : -9223372036854775808 ≤ off) (h1 : off ≤ 9223372036854775807) :
    Calls Tryz.prog 134 #[v, .int .i64 off] w fun e w' => e = .returned (.tuple #[.string (getS l off), .int .i64 (getE l off)]) ∧ Ext w w' := by
  have hv0 := hv
  obtain ⟨A, c, rfl, hc, -, hv'⟩ := hv.form
  by_cases hin : 0 ≤ off ∧ off < l.length
  · obtain ⟨n, rfl⟩ := Int.eq_ofNat_of_zero_le hin.1
    have hn : n < l.length := by omega
    obtain ⟨b, o, rfl, -⟩ := hv'.get (List.getElem?_eq_getElem hn)
    have hpart := Sl.part hv' n l.length (by omega) (by omega) (some ⟨b, o + n, none⟩) (fun b' o' h _ => by cases h; rw [Nat.mul_one]) (fun h => by cases h)
    have hne : ¬ c = n := by omega
    have hd : (l.drop n).take (l.length - n) = l.drop n := List.take_of_length_le (by simp)
    rw [hd] at hpart
    have hcut := cut0_any (w := w.alloc (.cells #[.int .u8 0] 5)) (g := w.heap.size) (d := 1) (hpart.ext fun _ _ _ k => EByte.ext k (Ext.new _ _)) (by simp; omega) (by simp)
    have hgt : getT l n = nulAt (l.drop n) := by unfold getT; rw [if_pos hin]; rfl
    cases hN : nulAt (l.drop n) with
    | none =>
      have hs : getS l n = ⟨#[]⟩ := by simp only [getS, hgt, hN]
      have he : getE l n = 4 := by simp only [getE, hgt, hN]
      rw [hs, he]
      have hix : nulIx (l.drop n) = -1 := by unfold nulIx; rw [hN]
      rw [hix] at hcut
      have hcv : Lib.cutV (some ⟨b, o + n, none⟩) (l.length - n) (c - n) 1 (-1) = .tuple #[.slice (some ⟨b, o + n, none⟩) (l.length - n) (c - n), .slice none 0 0, .bool false] := rfl
      rw [hcv] at hcut
      go_enter Tryz.func134, Tryz.ntmps134
      go_wp2_with (first | (go_at_call 179; refine hcut.mono ?_; rintro e w1 ⟨rfl, e1⟩))
      go_ret2
      exact ⟨rfl, (Ext.new _ _).trans e1⟩
    | some t =>
      have hs : getS l n = strOfNums t := by simp only [getS, hgt, hN]
      have he : getE l n = 0 := by simp only [getE, hgt, hN]
      rw [hs, he]
      have hix : nulIx (l.drop n) = t.length := by unfold nulIx; rw [hN]
      rw [hix] at hcut
      obtain ⟨R, hcv⟩ : ∃ R, Lib.cutV (some ⟨b, o + n, none⟩) (l.length - n) (c - n) 1 t.length = .tuple #[.slice (some ⟨b, o + n, none⟩) t.length (c - n), R, .bool true] := ⟨_, by unfold Lib.cutV; rw [if_pos (by omega), Int.toNat_natCast]⟩
      rw [hcv] at hcut
      have ht := nulAt_take hN
      have hlt := ht.2
      have hP := Sl.part hpart 0 t.length (by omega) (by simp at hlt; omega) (some ⟨b, o + n, none⟩) (fun b' o' h _ => by cases h; rfl) (fun h => by cases h)
      simp only [List.drop_zero, Nat.sub_zero, ← ht.1] at hP
      have hcs : ∀ W, Ext w W → (convert 23 9 (.slice (some ⟨b, o + n, none⟩) t.length (c - n))).run Tryz.prog W = .ok (.string (strOfNums t)) W := fun W hW => conv_str hP hW
      have Hcs := hx hcs
      clear hcs hN ht hlt hP hl hpart hv' hd hgt hs he hix hcv
      go_enter Tryz.func134, Tryz.ntmps134
      go_wp2_with (first | (go_at_call 179; refine hcut.mono ?_; rintro e w1 ⟨rfl, e1⟩; replace e1 := (Ext.new _ _).trans e1; have hc1 := Hcs.out _ e1))
      go_ret2
      exact ⟨rfl, e1⟩
  · have hs : getS l off = ⟨#[]⟩ := by simp [getS, getT, hin]
    have he : getE l off = 4 := by simp [getE, getT, hin]
    rw [hs, he]
    go_enter Tryz.func134, Tryz.ntmps134
    by_cases hneg : off < 0
    · go_wp2
      go_ret2
      exact ⟨rfl, Ext.refl _⟩
    · have hge : (l.length : Int) ≤ off := by omega
      go_wp2
      go_ret2
      exact ⟨rfl, Ext.refl _⟩
end Go.Proofs.YtiaddncjghkajaaGreatDoor


set_option linter.unusedVariables false
set_option linter.unusedSimpArgs false
namespace Go.Proofs.YtiaddncjghkajaaGreatDoor
open Go.RowKit Go.Lib

theorem strOfNums_snoc (p : List Int) (x : Int) : strOfNums p ++ strOfNums [x] = strOfNums (p ++ [x]) := by
  apply ByteArray.ext
  apply Array.ext'
  rw [ByteArray.toList_data_append]
  simp [strOfNums]

set_option maxRecDepth 20000 in
set_option maxHeartbeats 1000000 in
theorem ref14_Get_any (v : Value) (l : List Int) (off : Int) (w : World) (hv : IsB w v l) (hl : l.length ≤ 1000000000) (h0 : -9223372036854775808 ≤ off) (h1 : off ≤ 9223372036854775807) :
    Calls Tryz.prog 100 #[v, .int .i64 off] w fun e w' => e = .returned (.tuple #[.string (getS l off), .bool (getB l off)]) ∧ w' = w := by
  have hv0 := hv
  obtain ⟨A, c, rfl, hc, -, hv'⟩ := hv.form
  by_cases hneg : off < 0
  · have hs : getS l off = ⟨#[]⟩ := by simp [getS, getT]; rw [if_neg (by omega)]
    have he : getB l off = false := by simp [getB, getT]; omega
    rw [hs, he]
    go_enter Tryz.func100, Tryz.ntmps100
    go_wp2
    go_ret2
    exact ⟨rfl, rfl⟩
  · obtain ⟨n, rfl⟩ := Int.eq_ofNat_of_zero_le (show 0 ≤ off by omega)
    have hgt : getT l n = nulAt (l.drop n) := by
      unfold getT
      split
      · rfl
      · rename_i h
        rw [List.drop_eq_nil_of_le (by omega)]; rfl
    have HGT := hx hgt
    clear hgt
    go_enter Tryz.func100, Tryz.ntmps100
    go_wp2
    go_loop [6, 7] (fun s i => ∃ (k : Nat) (p : List Int), i = .int .i64 k ∧ s = .string (strOfNums p) ∧ n ≤ k ∧ k ≤ n + 1000000000 ∧ p.length = k - n ∧ nulAt (l.drop n) = (nulAt (l.drop k)).map (p ++ ·)) (fun _ i => l.length - (RowKit.intOf i).toNat)
    case atStart => exact ⟨n, [], rfl, rfl, by omega, by omega, by simp, by simp⟩
    case round =>
      obtain ⟨k, p, rfl, rfl, hk, hk2, hp, hr⟩ := hrel
      have HR := hx hr
      have HP := hx hp
      clear hr hp
      by_cases hlt : k < l.length
      · obtain ⟨x, hxk⟩ : ∃ x, l[k]? = some x := ⟨_, List.getElem?_eq_getElem hlt⟩
        obtain ⟨b, o, rfl, d1, hx0, hx1⟩ := hv'.get hxk
        rw [Nat.mul_one] at d1
        have hdrop := hx (show l.drop k = x :: l.drop (k + 1) by rw [List.drop_eq_getElem_cons hlt]; congr 1; rw [List.getElem?_eq_getElem hlt] at hxk; exact Option.some.inj hxk)
        have HX := hx hxk
        clear hxk
        by_cases hz : x = 0
        · subst hz
          go_wp2
          go_ret2
          have hg : getT l n = some p := by rw [HGT.out, HR.out, hdrop.out]; simp [nulAt]
          exact ⟨by simp only [getS, getB, hg]; rfl, rfl⟩
        · have hpart := Sl.part hv' k (k + 1) (by omega) (by omega) (some ⟨b, o + k, none⟩) (fun b' o' h _ => by cases h; rw [Nat.mul_one]) (fun h => by cases h)
          have hd : (l.drop k).take (k + 1 - k) = [x] := by rw [hdrop.out, show k + 1 - k = 1 by omega]; rfl
          rw [hd] at hpart
          have hcs := conv_str hpart (Ext.refl w)
          rw [show k + 1 - k = 1 by omega] at hcs
          clear hpart hd
          have hne : ¬ c = k := by omega
          have hsz : ¬ 9223372036854775807 < (strOfNums p).size + (strOfNums [x]).size := by rw [strOfNums_size, strOfNums_size, HP.out]; simp; omega
          go_wp2
          go_round
          case rel =>
            refine ⟨k + 1, p ++ [x], by simp, by rw [← strOfNums_snoc], by omega, by omega, by have := HP.out; simp; omega, ?_⟩
            rw [HR.out, hdrop.out]
            simp [nulAt, hz]; rfl
          case measure => simp [RowKit.intOf]; omega
      · have hg : getT l n = none := by rw [HGT.out, HR.out, List.drop_eq_nil_of_le (by omega)]; rfl
        have hs : getS l n = ⟨#[]⟩ := by simp only [getS, hg]
        have he : getB l n = false := by simp only [getB, hg]; rfl
        go_wp2
        go_ret2
        exact ⟨rfl, rfl⟩
end Go.Proofs.YtiaddncjghkajaaGreatDoor


set_option linter.unusedVariables false
set_option linter.unusedSimpArgs false
namespace Go.Proofs.YtiaddncjghkajaaGreatDoor
open Go.RowKit Go.Lib

def splitA : List Int → List Int → Option (List (List Int))
  | cur, [] => if cur = [] then some [] else none
  | cur, x :: l => if x = 0 then (if cur = [] then none else (splitA [] l).map (cur :: ·)) else splitA (cur ++ [x]) l
theorem splitA_some {l t : List Int} (h : nulAt l = some t) (cur : List Int) : splitA cur l = if cur ++ t = [] then none else (splitA [] (l.drop (t.length + 1))).map ((cur ++ t) :: ·) := by
  induction l generalizing t cur with
  | nil => cases h
  | cons x l ih =>
    unfold nulAt at h
    split at h
    · rename_i hx
      cases h
      rw [splitA, if_pos hx]; simp
    · rename_i hx
      obtain ⟨u, hu, rfl⟩ := Option.map_eq_some_iff.1 h
      rw [splitA, if_neg hx, ih hu]
      simp
theorem splitA_none {l : List Int} (h : nulAt l = none) (cur : List Int) (hne : cur ++ l ≠ []) : splitA cur l = none := by
  induction l generalizing cur with
  | nil => rw [splitA, if_neg (by simpa using hne)]
  | cons x l ih =>
    unfold nulAt at h
    split at h
    · cases h
    · rename_i hx
      rw [splitA, if_neg hx]
      exact ih (by simpa using h) _ (by simp)
/-- The texts of a table behind its first byte. -/
def splitT (l : List Int) : Option (List (List Int)) := splitA [] l
theorem splitT_nil : splitT [] = some [] := rfl
theorem splitT_none {l : List Int} (h : nulAt l = none) (hne : l ≠ []) : splitT l = none := splitA_none h [] (by simpa using hne)
theorem splitT_empty {l : List Int} (h : nulAt l = some []) : splitT l = none := by unfold splitT; rw [splitA_some h]; simp
theorem splitT_some {l t : List Int} (h : nulAt l = some t) (ht : t ≠ []) : splitT l = (splitT (l.drop (t.length + 1))).map (t :: ·) := by unfold splitT; rw [splitA_some h, if_neg (by simpa using ht)]; rfl
def parT (b : List Int) : Option (List ByteArray) := match b with | [] => none | x :: l => if x = 0 then (splitT l).map (·.map strOfNums) else none
def parL (b : List Int) : List ByteArray := match parT b with | none => [] | some l => l
def parB (b : List Int) : Bool := (parT b).isSome
theorem getT_in {b : List Int} {k : Nat} (hk : k < b.length) : getT b k = nulAt (b.drop k) := by
  unfold getT; rw [if_pos ⟨by omega, by omega⟩]; rfl
theorem toList_nums {t : List Int} (h : t ≠ []) : (strOfNums t).toList.isEmpty = false := toList_ne (by rw [strOfNums_size]; exact fun e => h (List.eq_nil_of_length_eq_zero e))

set_option maxRecDepth 20000 in
set_option maxHeartbeats 1000000 in
theorem ref14_Parse_any (v : Value) (l : List Int) (w : World) (hv : IsB w v l) (hl : l.length ≤ 1000000000) :
    Calls Tryz.prog 61 #[v] w fun e w' => ∃ v', e = .returned (.tuple #[v', .bool (parB l)]) ∧ IsStrs w' v' (parL l) ∧ Ext w w' := by
  have hv0 := hv
  obtain ⟨A, c, rfl, hc, -, hv'⟩ := hv.form
  by_cases h0 : l = []
  · subst h0
    go_enter Tryz.func61, Tryz.ntmps61
    go_wp2
    go_ret2
    exact ⟨_, rfl, Sl.nil _, Ext.refl _⟩
  · obtain ⟨x, l', rfl⟩ := List.exists_cons_of_ne_nil h0
    obtain ⟨b, o, rfl, d1, hx0, hx1⟩ := hv'.get (i := 0) (x := x) rfl
    rw [Nat.zero_mul, Nat.add_zero] at d1
    have hln : (x :: l').length = l'.length + 1 := rfl
    by_cases hz : x = 0
    · subst hz
      obtain ⟨N, hN⟩ : ∃ N, N = ((0 : Int) :: l').length := ⟨_, rfl⟩
      have hGet : ∀ W, Ext w W → ∀ k : Nat, k ≤ N → Calls Tryz.prog 100 #[.slice (some ⟨b, o, none⟩) N c, .int .i64 (k : Int)] W fun e w' => e = .returned (.tuple #[.string (getS (0 :: l') k), .bool (getB (0 :: l') k)]) ∧ w' = W :=
        fun W hW k hk => by rw [hN]; exact ref14_Get_any _ _ _ W (IsB.ext hv' hW) hl (by omega) (by omega)
      have HGet := hx hGet
      have HN := hx hN
      have HL := hx hl
      have hNl : 1 ≤ N := by rw [hN]; simp
      have hNu : N ≤ 1000000000 := by rw [hN]; exact hl
      clear hGet hln hl
      rw [← hN] at hv hv' hv0 hc ⊢
      clear hN
      have hN0 : ((N : Int) == 0) = false := beq_eq_false_iff_ne.2 (by omega)
      go_enter Tryz.func61, Tryz.ntmps61
      go_wp2
      go_loopw [4, 5] (fun u a wr => ∃ (k : Nat) (ps : List (List Int)) (qs : List ByteArray), a = .int .i64 k ∧ 1 ≤ k ∧ k ≤ N ∧ qs.length ≤ k ∧ OwnS wr w.heap.size u qs ∧ qs = ps.map strOfNums ∧ (∀ p ∈ qs, p.size ≤ 1000000000) ∧ splitT l' = (splitT (((0 : Int) :: l').drop k)).map (ps ++ ·) ∧ Ext w wr) (fun _ a _ => N - (RowKit.intOf a).toNat)
      case atStart => exact ⟨1, [], [], rfl, by omega, hNl, by simp, Own.nil _ _ _ _ _, rfl, by simp, by simp, Ext.refl _⟩
      case round =>
        obtain ⟨k, ps, qs, rfl, hk1, hkN, hps, ho, hq, hpb, hr, hex⟩ := hrel
        have HQ := hx hq
        have HPB := hx hpb
        clear hq hpb
        have HR := hx hr
        clear hr
        have hsz := hex.size
        by_cases hlt : k < N
        · have hg := hx (getT_in (b := 0 :: l') (k := k) (by rw [← HN.out]; exact hlt))
          have hc := HGet.out _ hex k hkN
          have hdne : (((0 : Int) :: l').drop k) ≠ [] := by intro e; have := congrArg List.length e; rw [List.length_drop, ← HN.out] at this; simp at this; omega
          cases hT : nulAt (((0 : Int) :: l').drop k) with
          | none =>
            have hs : getB (0 :: l') k = false := by unfold getB; rw [hg.out, hT]; rfl
            rw [hs] at hc
            have hp := hx (show parT (0 :: l') = none by unfold parT; simp only [if_pos, HR.out, splitT_none hT hdne]; rfl)
            clear hT hs
            go_wp2_with (first | (go_at_call 100; refine hc.mono ?_; rintro e w' ⟨rfl, rfl⟩))
            go_ret2
            exact ⟨_, by rw [parB, hp.out]; rfl, by rw [parL, hp.out]; exact Sl.nil _, hex⟩
          | some t =>
            have hs : getB (0 :: l') k = true := by unfold getB; rw [hg.out, hT]; rfl
            have hs2 : getS (0 :: l') k = strOfNums t := by unfold getS; rw [hg.out, hT]
            rw [hs, hs2] at hc
            have htl := (nulAt_take hT).2
            rw [List.length_drop, ← HN.out] at htl
            have HT := hx hT
            clear hT hs hs2
            by_cases hte : t = []
            · subst hte
              have hp := hx (show parT (0 :: l') = none by unfold parT; simp only [if_pos, HR.out, splitT_empty HT.out]; rfl)
              have hem : (strOfNums []).toList.isEmpty = true := by rw [Go.ByteArray.toList_eq]; rfl
              go_wp2_with (first | (go_at_call 100; refine hc.mono ?_; rintro e w' ⟨rfl, rfl⟩))
              all_goals (try (simp at *; done))
              go_ret2
              exact ⟨_, by rw [parB, hp.out]; rfl, by rw [parL, hp.out]; exact Sl.nil _, hex⟩
            · have hem := toList_nums hte
              have hsz2 : (strOfNums t).size = t.length := strOfNums_size t
              obtain ⟨S, hS⟩ : ∃ S, S = strOfNums t := ⟨_, rfl⟩
              have HS := hx hS
              rw [← hS] at hc hem hsz2
              clear hS
              obtain ⟨A1, c1, rfl⟩ := ho.slice
              go_wp2_with (first
                | (go_at_call 100; refine hc.mono ?_; rintro e w' ⟨rfl, rfl⟩)
                | (at_builtin; refine wp_app1 tyS encS_ok ho S rfl rfl rfl rfl rfl (by omega) (by decide) (by omega) ?_; intro g cap w1 o1 g1 a1 b1; have e1 := hex.grown g1 ho.base_le))
              go_roundw
              case rel =>
                refine ⟨k + (t.length + 1), ps ++ [t], qs ++ [S], by simp, by omega, by omega, by simp; omega, o1, by rw [HQ.out, HS.out]; simp, ?_, ?_, e1⟩
                · intro p hp
                  rcases List.mem_append.1 hp with h | h
                  · exact HPB.out p h
                  · simp at h; subst h; omega
                · rw [HR.out, splitT_some HT.out hte, List.drop_drop]; simp; rfl
              case measure => simp [RowKit.intOf]; omega
        · obtain rfl : k = N := by omega
          obtain ⟨A1, c1, rfl⟩ := ho.slice
          have hp := hx (show parT (0 :: l') = some qs by unfold parT; simp only [if_pos]; rw [HR.out, List.drop_eq_nil_of_le (by rw [← HN.out]; exact Nat.le_refl _), splitT_nil, HQ.out]; simp)
          go_wp2
          go_ret2
          exact ⟨_, by rw [parB, hp.out]; rfl, by rw [parL, hp.out]; exact ho.read (fun p h => by have := HPB.out p h; omega) (by omega), hex⟩
    · have hne : (x != 0) = true := by simpa using hz
      have hp : parT (x :: l') = none := by simp [parT, hz]
      go_enter Tryz.func61, Tryz.ntmps61
      go_wp2
      go_ret2
      exact ⟨_, by rw [parB, hp]; rfl, by rw [parL, hp]; exact Sl.nil _, Ext.refl _⟩
end Go.Proofs.YtiaddncjghkajaaGreatDoor
