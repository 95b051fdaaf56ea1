/- Texts in one: TopA, TopTwo. Conditions: those of each law. -/
import Derived.Test.YtgmljgcmfooniaaGreatDoorBnTell
import Derived.Test.YtgmljgcmfooniaaGreatDoorQuM
import Derived.Test.YtgmljgcmfooniaaGreatDoorTwM
import Derived.Test.YtgmljgcmfooniaaGreatDoorIsFlat
/- TopA -/
set_option linter.unusedVariables false
set_option linter.unusedSimpArgs false
namespace Go.Proofs.YtgmljgcmfooniaaGreatDoor
open Go.RowKit Go.Shelf Go.Tide
set_option linter.unusedVariables false
set_option linter.unusedSimpArgs false
abbrev topS : ByteArray := ⟨#[118, 101, 103, 97, 115, 32, 118, 101, 103, 97, 115, 32, 50, 32, 50, 32, 48]⟩
theorem top_text : (⟨(bnText 1 1 (2 : Nat) (2 : Nat) (0 : Nat)).toArray⟩ : ByteArray) = topS := by
  rw [bnText_eq, dec_two (n := 2) (by decide), dec_two (n := 0) (by decide)]
  rfl
theorem top_ok : BOk 1 1 (2 : Nat) (2 : Nat) (0 : Nat) := by unfold BOk dKind dNums; decide
theorem vok2 (j : Nat) (h : j < 2) : VdOk 1 1 2 2 0 (j : Nat) 3 := by
  rcases (show j = 0 ∨ j = 1 by omega) with rfl | rfl <;> (unfold VdOk dKind dNums; decide)
set_option maxRecDepth 20000 in
set_option maxHeartbeats 4000000 in
theorem top_alive (w : World) (hT : Hid (BTabs w)) : Calls Tryz.prog 10 #[] w fun e w' => e = .returned (.bool true) ∧ More w w' := by
  have R1 : BRight 1 2 2 (rowOf [5, 0]) := ⟨by omega, by omega, by omega, by show ∀ k, k < 2 → _; decide +kernel⟩
  have R2 : BRight 2 3 2 (bkNow 1 2 (rowOf [5, 0])) := ⟨by omega, by omega, by omega, by show ∀ k, k < 2 → _; decide +kernel⟩
  have E1 := Lib.hid (eqLit (n := 2) (m := 2) (f := quWent 2 3 (bkNow 1 2 (rowOf [5, 0]))) (g := rowOf [2, 1]) rfl (by decide +kernel))
  have H1 := Lib.hid R1
  have H2 := Lib.hid R2
  clear R1 R2
  go_enter Tryz.func10, Tryz.ntmps10
  go_wp2_with fail
  refine (tell_any topS (by decide) 3 _ hT).mono ?_
  rintro e w1 ⟨hb, ⟨er, h0, rfl, HE⟩ | ⟨k0, k1, a, b, c, KD, MO, g, cap, HP, HK, hown, rfl⟩⟩
  · exfalso
    unfold TBad at HE
    rcases HE with ⟨k0, k1, a, b, c, HP⟩ | ⟨k0, k1, a, b, c, j, kd, mo, HP, hj, HJ⟩
    · rw [← top_text] at HP
      exact h0 (ppa_text top_ok HP).1
    · rw [← top_text] at HP
      obtain ⟨_, rfl, rfl, rfl, rfl, rfl⟩ := ppa_text top_ok HP
      exact h0 (jf_ok HJ (vok2 j hj) fin2).1
  · clear HP HK hown
    obtain ⟨os0, d0, rfl⟩ := More.of_below hb
    clear hb
    go_wp2_with fail
    refine (bpass_any 1 2 _ 2 _ (rowOf [5, 0]) _ (by repeat (first | (with_reducible apply Row.drewN) | (with_reducible apply Row.more) | (refine Row.litR [5, 0] (by simp [Nat.add_assoc]; done) (by rfl) (by rfl)) | (with_reducible apply Row.alloc))) H1.out).mono ?_
    rintro e w1 ⟨a_1, c_1, rfl, hc_1, hr_1, hb_1⟩
    obtain ⟨os_1, d_1, rfl⟩ := More.of_below hb_1
    clear hb_1
    go_wp2_with fail
    refine (play_any 2 3 _ 2 _ _ _ (by repeat (first | (with_reducible assumption) | (with_reducible exact Row.nil) | (with_reducible apply Row.drewN) | (with_reducible apply Row.drew) | (with_reducible apply Row.more) | (with_reducible apply Row.alloc))) H2.out).mono ?_
    rintro e w1 ⟨a_2, c_2, l_2, m_2, n_2, o_2, rfl, ⟨hc_2, hl_2, hn_2⟩, ⟨hr_2, hs_2, ht_2⟩, hb_2⟩
    obtain ⟨os_2, d_2, rfl⟩ := More.of_below hb_2
    clear hb_2 hs_2 ht_2
    go_wp2_with fail
    refine (equal_any _ _ 2 2 _ _ _ _ _ (by repeat (first | (with_reducible assumption) | (with_reducible exact Row.nil) | (with_reducible apply Row.drewN) | (with_reducible apply Row.drew) | (with_reducible apply Row.more) | (with_reducible apply Row.alloc))) (by repeat (first | (with_reducible apply Row.drewN) | (with_reducible apply Row.more) | (refine Row.litR [2, 1] (by simp [Nat.add_assoc]; done) (by rfl) (by rfl)) | (with_reducible apply Row.alloc))) (by omega) (by omega)).mono ?_
    rintro e w1 ⟨rfl, os_3, d_3, rfl⟩
    rw [E1.out]
    go_wp2
    go_ret
    exact ⟨rfl, (by repeat (first | (with_reducible exact More.refl _) | (with_reducible refine More.alloc ?_ _) | (with_reducible refine More.more ?_ _ _) | (with_reducible refine More.drewN ?_ _) | (with_reducible refine More.drew ?_)))⟩
end Go.Proofs.YtgmljgcmfooniaaGreatDoor
/- TopTwo -/
set_option linter.unusedVariables false
set_option linter.unusedSimpArgs false
namespace Go.Tide
/-- What comes in all, so far, each between nothing and the greatest. -/
def clampOf (v : Int) : Int := max (min v 1099511627776) 0
theorem clamp_small {n : Nat} {x : Nat → Int} (h : Small n x) : isum (fun k => clampOf (x k)) n = isum x n :=
  isum_congr n fun k hk => by have := h.2 k hk; unfold clampOf; omega
theorem wrap_step (A c : Int) : RowKit.wrap64 (RowKit.wrap64 A + c) = RowKit.wrap64 (A + c) := by
  simp only [RowKit.wrap64]
  omega
end Go.Tide
namespace Go.Proofs.YtgmljgcmfooniaaGreatDoor
open Go.RowKit Go.Tide
set_option linter.unusedVariables false
set_option linter.unusedSimpArgs false
theorem serves_succ (R : Int) (n : Nat) (w : World) (hR : 0 ≤ R ∧ R ≤ 1099511627776) (hn : n + 1 ≤ 300) :
    Calls Tryz.prog 18 #[.int .i64 R, .int .i64 0, .int .i64 ((n : Int) + 1)] w fun e w' => ∃ a' c', e = .returned (.slice a' (n + 1) c') ∧ n + 1 ≤ c' ∧ Row w' a' (n + 1) (servOf R 0) ∧ Below w.heap.size w w' := by
  have h := serves_any R 0 (n + 1) w hR (by omega) (by omega) hn
  rwa [show ((n + 1 : Nat) : Int) = (n : Int) + 1 by omega] at h
set_option maxRecDepth 20000 in
set_option maxHeartbeats 4000000 in
theorem topTwo_walk (a0 : Int) (a1 : Int) (a2 : Option Addr) (len2 cap2 : Nat) (z2 : List Int) (w : World) (hT0 : BTabs w) (b0 : InI64 a0) (b1 : InI64 a1) (f2 : IsFlat w a2 len2 cap2 1 z2) (r2 : cap2 * 8 ≤ 140737488351232) :
    Calls Tryz.prog 5 #[.int .i64 a0, .int .i64 a1, .slice a2 len2 cap2] w fun e w' => e = .returned (.bool true) ∧ Below w.heap.size w w' := by
  have hT : Hid (BTabs w) := hT0
  clear hT0
  have hle := f2.le
  have hs := f2.row
  generalize (fun k => z2.getD k 0) = x at hs
  clear f2
  go_enter Tryz.func5, Tryz.ntmps5
  go_wp2_with fail
  refine (top_alive _ hT).mono ?_
  rintro e w' ⟨rfl, os0, d0, rfl⟩
  go_wp2_with fail
  go_loopw [7, 24] (fun s i wr => ∃ k : Nat, i = .int .i64 k ∧ k ≤ len2 ∧ s = .int .i64 (wrap64 (isum (fun k => clampOf (x k)) k)) ∧ More w wr) (fun _ i _ => len2 - (intOf i).toNat)
  case atStart => exact ⟨0, rfl, Nat.zero_le _, congrArg (Value.int .i64) (show (0 : Int) = wrap64 0 by simp [wrap64]), (by repeat (first | (with_reducible exact More.refl _) | (with_reducible refine More.alloc ?_ _) | (with_reducible refine More.more ?_ _ _) | (with_reducible refine More.drewN ?_ _) | (with_reducible refine More.drew ?_)))⟩
  case round =>
    obtain ⟨k, rfl, hk, rfl, os1, d1, rfl⟩ := hrel
    by_cases hlt : k < len2
    · obtain ⟨b, off, v, rfl, hb, hc, hv⟩ := (show Row (w.more os1 d1) a2 len2 x from (by repeat (first | (with_reducible assumption) | (with_reducible exact Row.nil) | (with_reducible apply Row.drewN) | (with_reducible apply Row.drew) | (with_reducible apply Row.more) | (with_reducible apply Row.alloc)))).at_ hlt
      have hW : Hid (wrap64 (wrap64 (isum (fun k => clampOf (x k)) k) + max (min v 1099511627776) 0) = wrap64 (isum (fun k => clampOf (x k)) (k + 1))) := by
        show wrap64 (wrap64 (isum (fun k => clampOf (x k)) k) + clampOf v) = _
        rw [wrap_step, hv.out]
        rfl
      obtain ⟨s0, hs0⟩ : ∃ s0, wrap64 (isum (fun k => clampOf (x k)) k) = s0 := ⟨_, rfl⟩
      rw [hs0] at hW ⊢
      clear hs0
      go_wp2
      go_roundw
      case rel => exact ⟨k + 1, by go_num, by omega, by rw [← hW.out], (by repeat (first | (with_reducible exact More.refl _) | (with_reducible refine More.alloc ?_ _) | (with_reducible refine More.more ?_ _ _) | (with_reducible refine More.drewN ?_ _) | (with_reducible refine More.drew ?_)))⟩
      case measure => simp [intOf]; omega
    · obtain rfl : k = len2 := by omega
      by_cases hr : bRight a0 a1 k x = true
      · have RR := bRight_iff.1 hr
        obtain ⟨ha, hb, h3⟩ := bRight_iff.1 hr
        have hn := h3.1
        have hw : wrap64 (isum (fun k => clampOf (x k)) k) = isum x k := by
          rw [clamp_small h3]
          have := h3.sum k (Nat.le_refl _)
          simp only [wrap64]
          omega
        rw [hw]
        have E0 := Lib.hid hr
        by_cases hsum : isum x k ≤ 1099511627776
        · have hq : decide (1099511627776 < isum x k) = false := by simp; omega
          have hx := fun j hj => (h3.2 j hj).1
          have R1 : BRight a0 1099511627776 k x := ⟨ha, by omega, h3⟩
          have W1 := went_small R1
          have R2 : BRight a1 1099511627776 k (quWent a0 1099511627776 x) := ⟨hb, by omega, W1⟩
          have R3 : BRight (min a0 a1) 1099511627776 k x := ⟨by omega, by omega, h3⟩
          have W2 := went_small R2
          have E1 := Lib.hid (eqLit (n := k) (m := k) (f := quWent a1 1099511627776 (quWent a0 1099511627776 x)) (g := quWent (min a0 a1) 1099511627776 x) rfl (two_went ha.1 hb.1 (by omega) hx hsum))
          have E2 := Lib.hid (eqLit (n := k + 1) (m := k + 1) (f := ofRow (quWent a1 1099511627776 (quWent a0 1099511627776 x))) (g := conv (ofRow x) (conv (servOf a0 0) (servOf a1 0))) rfl (fun t ht => by
            rw [W2.of t (by omega), two_law ha hb h3 hsum t ht]
            exact conv_congr (fun s hs => (h3.of s (by omega)).symm) (fun s _ => rfl)))
          have H1 := Lib.hid R1
          have H2 := Lib.hid R2
          have H3 := Lib.hid R3
          have HA := Lib.hid ha
          have HB := Lib.hid hb
          have kw : IntKind.i64.wrap ((k : Int) + 1) = (k : Int) + 1 := IntWalk.i64_in _ (by omega)
          clear hr RR ha hb h3 hw hx R1 W1 R2 R3 W2 hsum
          obtain ⟨S0, hS0⟩ : ∃ S0, isum x k = S0 := ⟨_, rfl⟩
          rw [hS0] at hq ⊢
          clear hS0
          obtain ⟨mn, hmn⟩ : ∃ mn, Hid (min a0 a1 = mn) := ⟨_, rfl⟩
          rw [hmn.out] at E1 H3
          go_wp2_with fail
          refine (qright_any a0 a1 _ k _ x _ (by repeat (first | (with_reducible assumption) | (with_reducible exact Row.nil) | (with_reducible apply Row.drewN) | (with_reducible apply Row.drew) | (with_reducible apply Row.more) | (with_reducible apply Row.alloc))) (by omega)).mono ?_
          rintro e w1 ⟨rfl, os2, d2, rfl⟩
          rw [E0.out]
          go_wp2_with fail
          refine (play_any a0 1099511627776 _ k _ x _ (by repeat (first | (with_reducible assumption) | (with_reducible exact Row.nil) | (with_reducible apply Row.drewN) | (with_reducible apply Row.drew) | (with_reducible apply Row.more) | (with_reducible apply Row.alloc))) H1.out).mono ?_
          rintro e w1 ⟨a_1, c_1, l_1, m_1, n_1, o_1, rfl, ⟨hc_1, hl_1, hn_1⟩, ⟨hr_1, hs_1, ht_1⟩, hb_1⟩
          obtain ⟨os_1, d_1, rfl⟩ := More.of_below hb_1
          clear hb_1 hs_1 ht_1
          go_wp2_with fail
          refine (play_any a1 1099511627776 _ k _ _ _ (by repeat (first | (with_reducible assumption) | (with_reducible exact Row.nil) | (with_reducible apply Row.drewN) | (with_reducible apply Row.drew) | (with_reducible apply Row.more) | (with_reducible apply Row.alloc))) H2.out).mono ?_
          rintro e w1 ⟨a_2, c_2, l_2, m_2, n_2, o_2, rfl, ⟨hc_2, hl_2, hn_2⟩, ⟨hr_2, hs_2, ht_2⟩, hb_2⟩
          obtain ⟨os_2, d_2, rfl⟩ := More.of_below hb_2
          clear hb_2 hs_2 ht_2
          go_wp2_with fail
          rw [hmn.out]
          refine (play_any mn 1099511627776 _ k _ x _ (by repeat (first | (with_reducible assumption) | (with_reducible exact Row.nil) | (with_reducible apply Row.drewN) | (with_reducible apply Row.drew) | (with_reducible apply Row.more) | (with_reducible apply Row.alloc))) H3.out).mono ?_
          rintro e w1 ⟨a_3, c_3, l_3, m_3, n_3, o_3, rfl, ⟨hc_3, hl_3, hn_3⟩, ⟨hr_3, hs_3, ht_3⟩, hb_3⟩
          obtain ⟨os_3, d_3, rfl⟩ := More.of_below hb_3
          clear hb_3 hs_3 ht_3
          go_wp2_with fail
          refine (serves_succ a0 k _ HA.out (by omega)).mono ?_
          rintro e w1 ⟨a_4, c_4, rfl, hc_4, hr_4, hb_4⟩
          obtain ⟨os_4, d_4, rfl⟩ := More.of_below hb_4
          clear hb_4
          go_wp2_with fail
          refine (serves_succ a1 k _ HB.out (by omega)).mono ?_
          rintro e w1 ⟨a_5, c_5, rfl, hc_5, hr_5, hb_5⟩
          obtain ⟨os_5, d_5, rfl⟩ := More.of_below hb_5
          clear hb_5
          go_wp2_with fail
          refine (conv_any _ _ (k + 1) (k + 1) _ _ (servOf a0 0) (servOf a1 0) _ (by repeat (first | (with_reducible assumption) | (with_reducible exact Row.nil) | (with_reducible apply Row.drewN) | (with_reducible apply Row.drew) | (with_reducible apply Row.more) | (with_reducible apply Row.alloc))) (by repeat (first | (with_reducible assumption) | (with_reducible exact Row.nil) | (with_reducible apply Row.drewN) | (with_reducible apply Row.drew) | (with_reducible apply Row.more) | (with_reducible apply Row.alloc))) (by omega) (by omega)).mono ?_
          rw [Nat.min_self]
          rintro e w1 ⟨a_6, c_6, rfl, hc_6, hr_6, hb_6⟩
          obtain ⟨os_6, d_6, rfl⟩ := More.of_below hb_6
          clear hb_6
          go_wp2_with fail
          refine (equal_any _ _ k k _ _ _ _ _ (by repeat (first | (with_reducible assumption) | (with_reducible exact Row.nil) | (with_reducible apply Row.drewN) | (with_reducible apply Row.drew) | (with_reducible apply Row.more) | (with_reducible apply Row.alloc))) (by repeat (first | (with_reducible assumption) | (with_reducible exact Row.nil) | (with_reducible apply Row.drewN) | (with_reducible apply Row.drew) | (with_reducible apply Row.more) | (with_reducible apply Row.alloc))) (by omega) (by omega)).mono ?_
          rintro e w1 ⟨rfl, os_7, d_7, rfl⟩
          rw [E1.out]
          go_wp2_with fail
          refine (cof_any _ k _ (quWent a1 1099511627776 (quWent a0 1099511627776 x)) _ (by repeat (first | (with_reducible assumption) | (with_reducible exact Row.nil) | (with_reducible apply Row.drewN) | (with_reducible apply Row.drew) | (with_reducible apply Row.more) | (with_reducible apply Row.alloc))) (by omega)).mono ?_
          rintro e w1 ⟨a_8, c_8, rfl, hc_8, hr_8, hb_8⟩
          obtain ⟨os_8, d_8, rfl⟩ := More.of_below hb_8
          clear hb_8
          go_wp2_with fail
          refine (cof_any _ k _ x _ (by repeat (first | (with_reducible assumption) | (with_reducible exact Row.nil) | (with_reducible apply Row.drewN) | (with_reducible apply Row.drew) | (with_reducible apply Row.more) | (with_reducible apply Row.alloc))) (by omega)).mono ?_
          rintro e w1 ⟨a_9, c_9, rfl, hc_9, hr_9, hb_9⟩
          obtain ⟨os_9, d_9, rfl⟩ := More.of_below hb_9
          clear hb_9
          go_wp2_with fail
          refine (conv_any _ _ (k + 1) (k + 1) _ _ (ofRow x) (conv (servOf a0 0) (servOf a1 0)) _ (by repeat (first | (with_reducible assumption) | (with_reducible exact Row.nil) | (with_reducible apply Row.drewN) | (with_reducible apply Row.drew) | (with_reducible apply Row.more) | (with_reducible apply Row.alloc))) (by repeat (first | (with_reducible assumption) | (with_reducible exact Row.nil) | (with_reducible apply Row.drewN) | (with_reducible apply Row.drew) | (with_reducible apply Row.more) | (with_reducible apply Row.alloc))) (by omega) (by omega)).mono ?_
          rw [Nat.min_self]
          rintro e w1 ⟨a_10, c_10, rfl, hc_10, hr_10, hb_10⟩
          obtain ⟨os_10, d_10, rfl⟩ := More.of_below hb_10
          clear hb_10
          go_wp2_with fail
          refine (equal_any _ _ (k + 1) (k + 1) _ _ (ofRow (quWent a1 1099511627776 (quWent a0 1099511627776 x))) (conv (ofRow x) (conv (servOf a0 0) (servOf a1 0))) _ (by repeat (first | (with_reducible assumption) | (with_reducible exact Row.nil) | (with_reducible apply Row.drewN) | (with_reducible apply Row.drew) | (with_reducible apply Row.more) | (with_reducible apply Row.alloc))) (by repeat (first | (with_reducible assumption) | (with_reducible exact Row.nil) | (with_reducible apply Row.drewN) | (with_reducible apply Row.drew) | (with_reducible apply Row.more) | (with_reducible apply Row.alloc))) (by omega) (by omega)).mono ?_
          rintro e w1 ⟨rfl, os_11, d_11, rfl⟩
          rw [E2.out]
          go_wp2
          go_ret
          exact ⟨rfl, More.below (by repeat (first | (with_reducible exact More.refl _) | (with_reducible refine More.alloc ?_ _) | (with_reducible refine More.more ?_ _ _) | (with_reducible refine More.drewN ?_ _) | (with_reducible refine More.drew ?_)))⟩
        · have hq : decide (1099511627776 < isum x k) = true := by simp; omega
          clear hr RR ha hb h3 hw hsum
          obtain ⟨S0, hS0⟩ : ∃ S0, isum x k = S0 := ⟨_, rfl⟩
          rw [hS0] at hq ⊢
          clear hS0
          go_wp2_with fail
          refine (qright_any a0 a1 _ k _ x _ (by repeat (first | (with_reducible assumption) | (with_reducible exact Row.nil) | (with_reducible apply Row.drewN) | (with_reducible apply Row.drew) | (with_reducible apply Row.more) | (with_reducible apply Row.alloc))) (by omega)).mono ?_
          rintro e w1 ⟨rfl, os2, d2, rfl⟩
          rw [E0.out]
          go_wp2
          go_ret
          exact ⟨rfl, More.below (by repeat (first | (with_reducible exact More.refl _) | (with_reducible refine More.alloc ?_ _) | (with_reducible refine More.more ?_ _ _) | (with_reducible refine More.drewN ?_ _) | (with_reducible refine More.drew ?_)))⟩
      · have hr' : bRight a0 a1 k x = false := by simpa using hr
        have E0 := Lib.hid hr'
        clear hr hr'
        obtain ⟨S0, hS0⟩ : ∃ S0, wrap64 (isum (fun k => clampOf (x k)) k) = S0 := ⟨_, rfl⟩
        rw [hS0]
        clear hS0
        go_wp2_with fail
        refine (qright_any a0 a1 _ k _ x _ (by repeat (first | (with_reducible assumption) | (with_reducible exact Row.nil) | (with_reducible apply Row.drewN) | (with_reducible apply Row.drew) | (with_reducible apply Row.more) | (with_reducible apply Row.alloc))) (by omega)).mono ?_
        rintro e w1 ⟨rfl, os2, d2, rfl⟩
        rw [E0.out]
        go_wp2
        go_ret
        exact ⟨rfl, More.below (by repeat (first | (with_reducible exact More.refl _) | (with_reducible refine More.alloc ?_ _) | (with_reducible refine More.more ?_ _ _) | (with_reducible refine More.drewN ?_ _) | (with_reducible refine More.drew ?_)))⟩
end Go.Proofs.YtgmljgcmfooniaaGreatDoor
