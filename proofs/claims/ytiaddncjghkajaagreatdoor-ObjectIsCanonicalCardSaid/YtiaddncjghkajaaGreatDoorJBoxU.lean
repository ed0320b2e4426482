/- The layer box: Read of the reference. -/
import Derived.Test.YtiaddncjghkajaaGreatDoorJBoxS
set_option linter.unusedVariables false
set_option linter.unusedSimpArgs false
namespace Go.Proofs.YtiaddncjghkajaaGreatDoor
open Go.RowKit Go.Lib

/-- Where s[i:] begins. -/
def subA (A : Option Addr) (c i : Nat) : Option Addr := if c = i then A else A.map fun x => x.add i
theorem IsB.sub {w : World} {A : Option Addr} {n c : Nat} {l : List Int} (h : IsB w (.slice A n c) l) (i m : Nat) (hm : i + m ≤ l.length) : IsB w (.slice (subA A c i) m (c - i)) ((l.drop i).take m) := by
  obtain ⟨hln, hnc, _⟩ := h.len_eq
  subst hln
  unfold subA
  split
  · rename_i e
    have hm0 : m = 0 := by omega
    subst hm0
    rw [List.take_zero]
    exact Sl.empty (fun _ => by omega) (by simp [e])
  · refine IsB.part h i m hm _ (fun b o hA _ => by subst hA; simp [add_plain]) (fun h' => ?_)
    obtain ⟨_, _, e1, _, _, e2, _⟩ := h
    cases e1
    have := e2 (by cases A <;> simp_all)
    omega
theorem getI_any (v : Value) (l : List Int) (a n : Int) (w : World) (hv : IsB w v l) (ha : 0 ≤ a) (hn0 : 0 ≤ n) (hn : n ≤ 4) (han : a + n ≤ l.length) :
    Calls Tryz.prog 62 #[v, .int .i64 a, .int .i64 n] w fun e w' => ∃ x : Int, e = .returned (.int .u64 x) ∧ Hx (x = numOf l a n) ∧ 0 ≤ x ∧ x < 4294967296 ∧ w = w' := by
  obtain ⟨i, rfl⟩ := Int.eq_ofNat_of_zero_le ha
  obtain ⟨m, rfl⟩ := Int.eq_ofNat_of_zero_le hn0
  have hb := numOf_nonneg hv.byt i m hn
  have h2 := (inR_yes (l := l) (i := i) (m := m) (by omega)).2
  refine (get_any v l i m w hv (by omega) (by omega)).mono fun e w' ⟨h1, h3⟩ => ⟨_, h1, ⟨by rw [numOf, h2]⟩, ?_, ?_, h3⟩
  · rw [← h2]; exact hb.1
  · rw [← h2]; exact hb.2
theorem tyV2 : TyOk Tryz.prog 100 99 2 32 (.agg #[.int .i64 0, .slice none 0 0]) := ⟨Tryz.underlying100, by kernel_rfl, rfl⟩
theorem rdOk_ref (b : List Int) (h1 : 16 ≤ b.length) (hn : rdN b ≤ 16) (h2 : secsIn b (rdN b) = true) : rdOk b ↔ (secErr (secTab b (rdN b)) = 0 ∧ boxOf (secTab b (rdN b)) = b) :=
  rdOk_iff b _ (by omega) (by simp [inR]; omega) h2
theorem rdOk_small {b : List Int} (h : rdOk b) : 16 + 12 * rdN b ≤ b.length ∧ rdN b ≤ 16 := by
  obtain ⟨_, hn, _, _, h5⟩ := h
  have := boxOf_ge (secTab b (rdN b))
  rw [h5, secTab_length] at this
  exact ⟨this, hn⟩
theorem secsIn_at {b : List Int} {n k : Nat} (h : secsIn b n = true) (hk : k < n) : secIn b k = true := by
  simp only [secsIn, List.all_eq_true, List.mem_range] at h
  exact h k hk
theorem secIn_of {b : List Int} {k : Nat} (h : 16 + 12 * (k + 1) ≤ b.length) : secIn b k = inR b (numOf b (20 + 12 * k) 4) (numOf b (24 + 12 * k) 4) := by
  have h1 : inR b (20 + 12 * (k : Int)) 4 = true := by simp [inR]; omega
  have h2 : inR b (24 + 12 * (k : Int)) 4 = true := by simp [inR]; omega
  have h3 : inR b (16 + 12 * (k : Int)) 4 = true := by simp [inR]; omega
  simp [secIn, h1, h2, h3]

def rdB (b : List Int) : Bool := decide (rdOk b)
set_option maxRecDepth 100000 in
set_option maxHeartbeats 2000000 in
theorem ref15_Read_any (v : Value) (b : List Int) (w : World) (hv : IsB w v b) (hb : b.length ≤ 1000000) :
    Calls Tryz.prog 60 #[v] w fun e w' => ∃ v', e = .returned (.tuple #[v', .bool (rdB b)]) ∧ IsSecs w' v' (rdOut b) ∧ Ext w w' := by
  obtain ⟨A, c, rfl, hc, hl, hv'⟩ := hv.form
  have hbyt := hv.byt
  by_cases h16 : b.length < 16
  · have hno := hx (p := ¬ rdOk b) (fun h => by have := (rdOk_small h).1; omega)
    go_enter Tryz.func60, Tryz.ntmps60
    go_wp2
    go_ret2
    exact ⟨_, by rw [rdB, decide_eq_false hno.out]; rfl, by rw [rdOut, if_neg hno.out]; exact Sl.nil _, Ext.refl _⟩
  · have cG := fun W (he : Ext w W) (a n : Int) h1 h2 h3 h4 => getI_any (.slice A b.length c) b a n W (IsB.ext hv' he) h1 h2 h3 h4
    have CG := hx cG
    clear cG
    go_enter Tryz.func60, Tryz.ntmps60
    go_wp2_with fail
    refine (CG.out _ (Ext.refl _) 6 2 (by omega) (by omega) (by omega) (by omega)).mono ?_
    rintro e w' ⟨n, rfl, hn, hn0, hn1, rfl⟩
    by_cases hbig : 16 < n
    · have hno := hx (p := ¬ rdOk b) (fun h => by have := (rdOk_small h).2; have := hn.out; unfold rdN at *; omega)
      go_wp2
      go_ret2
      exact ⟨_, by rw [rdB, decide_eq_false hno.out]; rfl, by rw [rdOut, if_neg hno.out]; exact Sl.nil _, Ext.refl _⟩
    · clear hn1
      obtain ⟨N, rfl⟩ := Int.eq_ofNat_of_zero_le hn0
      have hrn : Hx (rdN b = N) := ⟨by rw [rdN, ← hn.out]; simp⟩
      by_cases hshort : (b.length : Int) < 16 + 12 * (N : Int)
      · have hno := hx (p := ¬ rdOk b) (fun h => by have := (rdOk_small h).1; have := hrn.out; omega)
        go_wp2
        go_ret2
        exact ⟨_, by rw [rdB, decide_eq_false hno.out]; rfl, by rw [rdOut, if_neg hno.out]; exact Sl.nil _, Ext.refl _⟩
      · go_wp2_with fail
        go_loopw [5, 6] (fun s i wr => ∃ (k : Nat) (l : List SecV), k ≤ N ∧ i = .int .i64 k ∧ l.length = k ∧ OwnSecs 99 wr w.heap.size s l ∧ secsIn b k = true ∧ l.map SecV.sec = secTab b k ∧ Ext w wr) (fun _ i _ => N - (intOf i).toNat)
        case atStart => exact ⟨0, [], by omega, rfl, rfl, OwnSecs.nil _ _ _, rfl, rfl, Ext.refl _⟩
        case round =>
          obtain ⟨k, l, hkN, rfl, hlk, hos, hsi, htab, he⟩ := hrel
          have HLK := hx hlk; clear hlk
          have HSI := hx hsi; clear hsi
          have HT := hx htab; clear htab
          obtain ⟨As, cs, rfl⟩ := hos.1.slice
          have hsz := he.size
          by_cases hlt : k < N
          · have hL := hx hl
            go_wp2_with fail
            refine (CG.out _ he (16 + 12 * (k : Int)) 4 (by omega) (by omega) (by omega) (by omega)).mono ?_
            rintro e w' ⟨K, rfl, hK, hK0, hK1, rfl⟩
            go_wp2_with fail
            refine (CG.out _ he (20 + 12 * (k : Int)) 4 (by omega) (by omega) (by omega) (by omega)).mono ?_
            rintro e w' ⟨at_, rfl, hat, hat0, hat1, rfl⟩
            go_wp2_with fail
            refine (CG.out _ he (24 + 12 * (k : Int)) 4 (by omega) (by omega) (by omega) (by omega)).mono ?_
            rintro e w' ⟨m, rfl, hm, hm0, hm1, rfl⟩
            have hsk : Hx (secIn b k = decide (at_ + m ≤ b.length)) := ⟨by
              rw [secIn_of (by omega), ← hat.out, ← hm.out]
              unfold inR
              exact decide_eq_decide.2 (by omega)⟩
            by_cases hfit : (b.length : Int) < at_ + m
            · have hno := hx (p := ¬ rdOk b) (fun h => by
                have h1 := secsIn_at h.2.2.1 (k := k) (by have := hrn.out; omega)
                rw [hsk.out] at h1
                simp at h1; omega)
              go_wp2
              go_ret2
              exact ⟨_, by rw [rdB, decide_eq_false hno.out]; rfl, by rw [rdOut, if_neg hno.out]; exact Sl.nil _, he⟩
            · clear hat1 hm1
              obtain ⟨a, rfl⟩ := Int.eq_ofNat_of_zero_le hat0
              obtain ⟨m, rfl⟩ := Int.eq_ofNat_of_zero_le hm0
              have hsub : (if c = a then A else A.map fun x => x.add a) = subA A c a := rfl
              have hS := IsB.sub (IsB.ext hv' he) a m (by omega)
              have e1 := Ext.new wr (.cells #[] 5)
              have ho0 := Own.lit0 (e := 5) (sz := 1) (enc := fun x : Int => [Value.int .u8 x]) wr w.heap.size hsz
              have hPl : ((b.drop a).take m).length = m := by simp; omega
              have hP : Hx ((b.drop a).take m = partOf b (numOf b (20 + 12 * (k : Int)) 4) (numOf b (24 + 12 * (k : Int)) 4)) := ⟨by
                rw [← hat.out, ← hm.out]; exact ((inR_yes (by omega)).2).symm⟩
              generalize (b.drop a).take m = P at *
              have hPb := hx hS.byt
              have hsrc := Sl.src (IsB.ext hS e1)
              have hPle : P.length ≤ 1000000 := by omega
              have HPL := hx hPl
              clear hPl hS hv hv'
              have hlk : l.length ≤ 16 := by have := HLK.out; omega
              have hkb : I64 K := by unfold I64; omega
              go_wp2_with (first | (at_builtin; refine wp_appS tyB encB_ok ho0 hsrc rfl rfl rfl (by simp [Act.eval]) (by simp; omega) (by simp; omega) (by simp; omega) ?_; intro vD wD oD gD aD; rw [List.nil_append] at oD; have eD := (Ext.new wr (.cells #[] 5)).grown gD (fun k hk => by simp [Value.ownBlock] at hk; omega); obtain ⟨AD, cD, rfl⟩ := oD.slice; have hosD := hos.ext eD; have hzD := eD.size) | (at_builtin; refine wp_app1 tyV2 encV_ok hosD.1 ⟨K, AD, P.length, cD, P⟩ rfl rfl rfl rfl rfl (by omega) (by decide) (by omega) ?_; intro g cap w1 ho1 hg1 hat1 hbg1))
              have hosE := OwnSecs.app (s := ⟨K, AD, P.length, cD, P⟩) (by decide) hosD ho1 hg1 oD hkb hPb.out (by show P.length ≤ _; omega)
              have eE := (he.trans eD).grown hg1 (fun k hk => hosD.1.base_le k hk)
              clear ho1 hg1 hosD hat1
              go_wp2
              go_roundw
              case rel => exact ⟨k + 1, l ++ [⟨K, AD, P.length, cD, P⟩], by omega, by simp, by simp [HLK.out], hosE, by rw [secsIn_succ, HSI.out, hsk.out]; simp; omega, by
                rw [List.map_append, HT.out, secTab_succ]
                simp [SecV.sec, secAt, hP.out, hK.out], eE⟩
              case measure => simp [intOf]; omega
          · obtain rfl : k = N := by omega
            have hl16 : l.length ≤ 16 := by have := HLK.out; omega
            have hrd := hos.read (by omega)
            rw [HT.out] at hrd
            have hkl : (secTab b k).length ≤ 16 := by rw [secTab_length]; omega
            have hiff := hx (rdOk_ref b (by omega) (by rw [hrn.out]; omega) (by rw [hrn.out]; exact HSI.out))
            rw [hrn.out] at hiff
            have CC := hx (ref15_Check_any _ (secTab b k) wr (by omega) hrd)
            by_cases hse : secErr (secTab b k) = 0
            · have hb2 : (secErr (secTab b k) != 0) = false := by rw [hse]; rfl
              have hsz16 : secSize (secTab b k) ≤ 1073741824 ∧ kindsOk 0 (secTab b k) = true := by
                unfold secErr at hse
                split at hse
                · omega
                · rename_i h
                  split at hse
                  · rename_i h2; exact ⟨by omega, h2⟩
                  · omega
              have CW := hx fun W (hW : Ext wr W) => ref15_Write_any _ (secTab b k) W (IsSecs.ext hrd hW) hkl (kindsOk_pos hsz16.2 (by omega)) hsz16.1
              have hby := hx (boxOf_byt (secTab b k) hse (secs_byt hrd))
              have hbl2 := hx (show (boxOf (secTab b k)).length ≤ 281474976710656 by have := boxOf_length (secTab b k); omega)
              by_cases hbe : boxOf (secTab b k) = b
              · have hyes := hx (hiff.out.2 ⟨hse, hbe⟩)
                have hdb : decide (boxOf (secTab b k) = b) = true := by simpa using hbe
                clear hse hbe hsz16
                go_wp2_with (first | (go_at_call 99; refine CC.out.mono ?_; rintro e w1 ⟨rfl, e1⟩) | (go_at_call 56; refine (CW.out _ e1).mono ?_; rintro e w2 ⟨v2, rfl, o2, e2⟩; obtain ⟨A2, c2, rfl⟩ := o2.slice) | (go_at_call 19; refine (sameB_any _ _ _ _ _ (OwnB.read o2 hby.out hbl2.out) (IsB.ext hv (he.trans (e1.trans e2)))).mono ?_; rintro e w3 ⟨rfl, e3⟩))
                go_ret2
                exact ⟨_, by rw [rdB, decide_eq_true hyes.out]; rfl, by rw [rdOut, if_pos hyes.out, hrn.out]; exact IsSecs.ext hrd (e1.trans (e2.trans e3)), he.trans (e1.trans (e2.trans e3))⟩
              · have hno := hx (p := ¬ rdOk b) (fun h => hbe (hiff.out.1 h).2)
                have hdb : decide (boxOf (secTab b k) = b) = false := by simpa using hbe
                clear hse hbe hsz16
                go_wp2_with (first | (go_at_call 99; refine CC.out.mono ?_; rintro e w1 ⟨rfl, e1⟩) | (go_at_call 56; refine (CW.out _ e1).mono ?_; rintro e w2 ⟨v2, rfl, o2, e2⟩; obtain ⟨A2, c2, rfl⟩ := o2.slice) | (go_at_call 19; refine (sameB_any _ _ _ _ _ (OwnB.read o2 hby.out hbl2.out) (IsB.ext hv (he.trans (e1.trans e2)))).mono ?_; rintro e w3 ⟨rfl, e3⟩))
                go_ret2
                exact ⟨_, by rw [rdB, decide_eq_false hno.out]; rfl, by rw [rdOut, if_neg hno.out]; exact Sl.nil _, he.trans (e1.trans (e2.trans e3))⟩
            · have hb2 : (secErr (secTab b k) != 0) = true := by simpa using hse
              have hno := hx (p := ¬ rdOk b) (fun h => hse (hiff.out.1 h).1)
              clear hse
              go_wp2_with (go_at_call 99; refine CC.out.mono ?_; rintro e w1 ⟨rfl, e1⟩)
              go_ret2
              exact ⟨_, by rw [rdB, decide_eq_false hno.out]; rfl, by rw [rdOut, if_neg hno.out]; exact Sl.nil _, he.trans e1⟩
end Go.Proofs.YtiaddncjghkajaaGreatDoor
