/- Texts in one: TopA, TopClock. Conditions: those of each law. -/
import Derived.Test.YtgmljgcmfooniaaGreatDoorBnTell
import Derived.Test.YtgmljgcmfooniaaGreatDoorQuM
import Derived.Test.YtgmljgcmfooniaaGreatDoorCkM
import Derived.Test.YtgmljgcmfooniaaGreatDoorIsFlat
import Derived.BigFrame
import Derived.Deep.QuietTactic
import Derived.BigQuiet
/- TopA -/
set_option linter.unusedVariables false
set_option linter.unusedSimpArgs false
namespace Go.Proofs.YtgmljgcmfooniaaGreatDoor
open Go.RowKit Go.Shelf Go.Tide
set_option linter.unusedVariables false
set_option linter.unusedSimpArgs false
abbrev topS : ByteArray := ⟨#[118, 101, 103, 97, 115, 32, 118, 101, 103, 97, 115, 32, 50, 32, 50, 32, 48]⟩
theorem top_text : (⟨(bnText 1 1 (2 : Nat) (2 : Nat) (0 : Nat)).toArray⟩ : ByteArray) = topS := by
  rw [bnText_eq, dec_two (n := 2) (by decide), dec_two (n := 0) (by decide)]
  rfl
theorem top_ok : BOk 1 1 (2 : Nat) (2 : Nat) (0 : Nat) := by unfold BOk dKind dNums; decide
theorem vok2 (j : Nat) (h : j < 2) : VdOk 1 1 2 2 0 (j : Nat) 3 := by
  rcases (show j = 0 ∨ j = 1 by omega) with rfl | rfl <;> (unfold VdOk dKind dNums; decide)
set_option maxRecDepth 20000 in
set_option maxHeartbeats 4000000 in
theorem top_alive (w : World) (hT : Hid (BTabs w)) : Calls Tryz.prog 10 #[] w fun e w' => e = .returned (.bool true) ∧ More w w' := by
  have R1 : BRight 1 2 2 (rowOf [5, 0]) := ⟨by omega, by omega, by omega, by show ∀ k, k < 2 → _; decide +kernel⟩
  have R2 : BRight 2 3 2 (bkNow 1 2 (rowOf [5, 0])) := ⟨by omega, by omega, by omega, by show ∀ k, k < 2 → _; decide +kernel⟩
  have E1 := Lib.hid (eqLit (n := 2) (m := 2) (f := quWent 2 3 (bkNow 1 2 (rowOf [5, 0]))) (g := rowOf [2, 1]) rfl (by decide +kernel))
  have H1 := Lib.hid R1
  have H2 := Lib.hid R2
  clear R1 R2
  go_enter Tryz.func10, Tryz.ntmps10
  go_wp2_with fail
  refine (tell_any topS (by decide) 3 _ hT).mono ?_
  rintro e w1 ⟨hb, ⟨er, h0, rfl, HE⟩ | ⟨k0, k1, a, b, c, KD, MO, g, cap, HP, HK, hown, rfl⟩⟩
  · exfalso
    unfold TBad at HE
    rcases HE with ⟨k0, k1, a, b, c, HP⟩ | ⟨k0, k1, a, b, c, j, kd, mo, HP, hj, HJ⟩
    · rw [← top_text] at HP
      exact h0 (ppa_text top_ok HP).1
    · rw [← top_text] at HP
      obtain ⟨_, rfl, rfl, rfl, rfl, rfl⟩ := ppa_text top_ok HP
      exact h0 (jf_ok HJ (vok2 j hj) fin2).1
  · clear HP HK hown
    obtain ⟨os0, d0, rfl⟩ := More.of_below hb
    clear hb
    go_wp2_with fail
    refine (bpass_any 1 2 _ 2 _ (rowOf [5, 0]) _ (by repeat (first | (with_reducible apply Row.drewN) | (with_reducible apply Row.more) | (refine Row.litR [5, 0] (by simp [Nat.add_assoc]; done) (by rfl) (by rfl)) | (with_reducible apply Row.alloc))) H1.out).mono ?_
    rintro e w1 ⟨a_1, c_1, rfl, hc_1, hr_1, hb_1⟩
    obtain ⟨os_1, d_1, rfl⟩ := More.of_below hb_1
    clear hb_1
    go_wp2_with fail
    refine (play_any 2 3 _ 2 _ _ _ (by repeat (first | (with_reducible assumption) | (with_reducible exact Row.nil) | (with_reducible apply Row.drewN) | (with_reducible apply Row.drew) | (with_reducible apply Row.more) | (with_reducible apply Row.alloc))) H2.out).mono ?_
    rintro e w1 ⟨a_2, c_2, l_2, m_2, n_2, o_2, rfl, ⟨hc_2, hl_2, hn_2⟩, ⟨hr_2, hs_2, ht_2⟩, hb_2⟩
    obtain ⟨os_2, d_2, rfl⟩ := More.of_below hb_2
    clear hb_2 hs_2 ht_2
    go_wp2_with fail
    refine (equal_any _ _ 2 2 _ _ _ _ _ (by repeat (first | (with_reducible assumption) | (with_reducible exact Row.nil) | (with_reducible apply Row.drewN) | (with_reducible apply Row.drew) | (with_reducible apply Row.more) | (with_reducible apply Row.alloc))) (by repeat (first | (with_reducible apply Row.drewN) | (with_reducible apply Row.more) | (refine Row.litR [2, 1] (by simp [Nat.add_assoc]; done) (by rfl) (by rfl)) | (with_reducible apply Row.alloc))) (by omega) (by omega)).mono ?_
    rintro e w1 ⟨rfl, os_3, d_3, rfl⟩
    rw [E1.out]
    go_wp2
    go_ret
    exact ⟨rfl, (by repeat (first | (with_reducible exact More.refl _) | (with_reducible refine More.alloc ?_ _) | (with_reducible refine More.more ?_ _ _) | (with_reducible refine More.drewN ?_ _) | (with_reducible refine More.drew ?_)))⟩
end Go.Proofs.YtgmljgcmfooniaaGreatDoor
/- TopClock -/
set_option linter.unusedVariables false
set_option linter.unusedSimpArgs false
namespace Go.Proofs.YtgmljgcmfooniaaGreatDoor
open Go.RowKit Go.Tide
set_option linter.unusedVariables false
set_option linter.unusedSimpArgs false
set_option maxRecDepth 20000 in
set_option maxHeartbeats 8000000 in
theorem topClock_walk (a0 : Option Addr) (len0 cap0 : Nat) (z0 : List Int) (a1 : Option Addr) (len1 cap1 : Nat) (z1 : List Int) (a2 : Int) (a3 : Int) (a4 : Int) (w : World) (hT0 : BTabs w) (u0 : len0 ≤ 1048576) (u1 : len1 ≤ 1048576)
    (f0 : IsFlat w a0 len0 cap0 1 z0) (r0 : cap0 * 8 ≤ 140737488351232) (f1 : IsFlat w a1 len1 cap1 1 z1) (r1 : cap1 * 8 ≤ 140737488351232) (b2 : InI64 a2) (b3 : InI64 a3) (b4 : InI64 a4) :
    Calls Tryz.prog 6 #[.slice a0 len0 cap0, .slice a1 len1 cap1, .int .i64 a2, .int .i64 a3, .int .i64 a4] w fun e w' => e = .returned (.bool true) ∧ Below w.heap.size w w' := by
  have hT : Hid (BTabs w) := hT0
  clear hT0
  have hf := f0.row
  have hg := f1.row
  generalize (fun k => z0.getD k 0) = f at hf
  generalize (fun k => z1.getD k 0) = g at hg
  clear f0 f1 r0 r1
  obtain ⟨i0_, hi, hz0, hz1, hz2⟩ := info_parts intInfo
  obtain ⟨p0_, pi, pz0, pz1, pz2⟩ := info_parts pktInfo
  go_enter Tryz.func6, Tryz.ntmps6
  go_wp2_with fail
  refine (top_alive _ hT).mono ?_
  rintro e w' ⟨rfl, os0, d0, rfl⟩
  go_wp2_with fail
  by_cases hr : jRight len0 len1 f g = true
  · have hR := jRight_iff.1 hr
    have hnn := hR.1
    subst hnn
    have HR := Lib.hid hR
    have E0 := Lib.hid hr
    clear hR hr u1
    refine (jpass_v a0 a1 len0 cap0 cap1 f g _ (by repeat (first | (with_reducible assumption) | (with_reducible exact Row.nil) | (with_reducible apply Row.drewN) | (with_reducible apply Row.drew) | (with_reducible apply Row.more) | (with_reducible apply Row.alloc))) (by repeat (first | (with_reducible assumption) | (with_reducible exact Row.nil) | (with_reducible apply Row.drewN) | (with_reducible apply Row.drew) | (with_reducible apply Row.more) | (with_reducible apply Row.alloc))) (by omega) HR.out).mono ?_
    rintro e w1 ⟨ap, cp, rfl, hcp, hz, hrp, hb1⟩
    obtain ⟨os1, d1, rfl⟩ := More.of_below hb1
    clear hb1
    have HZ := Lib.hid hz
    clear hz
    go_wp2_with fail
    refine (jright_any a0 a1 len0 len0 cap0 cap1 f g _ (by repeat (first | (with_reducible assumption) | (with_reducible exact Row.nil) | (with_reducible apply Row.drewN) | (with_reducible apply Row.drew) | (with_reducible apply Row.more) | (with_reducible apply Row.alloc))) (by repeat (first | (with_reducible assumption) | (with_reducible exact Row.nil) | (with_reducible apply Row.drewN) | (with_reducible apply Row.drew) | (with_reducible apply Row.more) | (with_reducible apply Row.alloc))) (by omega) (by omega)).mono ?_
    rintro e w1 ⟨rfl, os2, d2, rfl⟩
    rw [E0.out]
    by_cases c1 : 274877906944 < a4
    · have d1_ : decide (274877906944 < a4) = true := by simpa using c1
      go_wp2
      go_ret
      exact ⟨rfl, More.below (by repeat (first | (with_reducible exact More.refl _) | (with_reducible refine More.alloc ?_ _) | (with_reducible refine More.more ?_ _ _) | (with_reducible refine More.drewN ?_ _) | (with_reducible refine More.drew ?_)))⟩
    have d1_ : decide (274877906944 < a4) = false := by simpa using c1
    by_cases c2 : a4 < -274877906944
    · have d2_ : decide (a4 < -274877906944) = true := by simpa using c2
      go_wp2
      go_ret
      exact ⟨rfl, More.below (by repeat (first | (with_reducible exact More.refl _) | (with_reducible refine More.alloc ?_ _) | (with_reducible refine More.more ?_ _ _) | (with_reducible refine More.drewN ?_ _) | (with_reducible refine More.drew ?_)))⟩
    have d2_ : decide (a4 < -274877906944) = false := by simpa using c2
    go_wp2_with fail
    have hm0 : More w (((w.more os0 d0).more os1 d1).more os2 d2) := (by repeat (first | (with_reducible exact More.refl _) | (with_reducible refine More.alloc ?_ _) | (with_reducible refine More.more ?_ _ _) | (with_reducible refine More.drewN ?_ _) | (with_reducible refine More.drew ?_)))
    have hf0 : Row (((w.more os0 d0).more os1 d1).more os2 d2) a0 len0 f := (by repeat (first | (with_reducible assumption) | (with_reducible exact Row.nil) | (with_reducible apply Row.drewN) | (with_reducible apply Row.drew) | (with_reducible apply Row.more) | (with_reducible apply Row.alloc)))
    have hg0 : Row (((w.more os0 d0).more os1 d1).more os2 d2) a1 len0 g := (by repeat (first | (with_reducible assumption) | (with_reducible exact Row.nil) | (with_reducible apply Row.drewN) | (with_reducible apply Row.drew) | (with_reducible apply Row.more) | (with_reducible apply Row.alloc)))
    have hp0 : Row (((w.more os0 d0).more os1 d1).more os2 d2) ap len0 (jPass f g) := (by repeat (first | (with_reducible assumption) | (with_reducible exact Row.nil) | (with_reducible apply Row.drewN) | (with_reducible apply Row.drew) | (with_reducible apply Row.more) | (with_reducible apply Row.alloc)))
    clear hf hg hrp
    generalize (((w.more os0 d0).more os1 d1).more os2 d2) = w2 at *
    refine (clone_v ap len0 cp (jPass f g) _ hp0 HZ.out (by omega)).mono ?_
    rintro e w3 ⟨v, rfl, hown, hb3⟩
    have hsz3 := hb3.size
    go_wp2_with (refine BigFrame.wpList_want (by rfl) (fun K hK => wp_append_own _ _ _ 49 rfl w2.heap.size 3 i0_ (.int .i64 0) 1 8 Tryz.underlying49 hi hz0 hz1 hz2 rfl (by decide) v len0 (cellsOf len0 (jPass f g)) rfl (hown.alloc _) _ 1 1 [.int .i64 0] rfl rfl (Blk.news (cs := #[.int .i64 0]) (t := 3) (by repeat (first | (with_reducible assumption) | ((with_reducible refine Blk.new' ?_); (simp [Nat.add_assoc]; done)) | (with_reducible refine Blk.alloc ?_ _) | (with_reducible refine Blk.more ?_ _ _) | (with_reducible refine Blk.drew ?_) | (with_reducible refine Blk.drewN ?_ _)))) (by simp [Value.oneCell']) (by simp only [maxLen]; omega) (by omega) (by simp; omega) (fun v' w5 hown5 hgrow5 hnil => hK _ _ ?_)))
    have hb5 := hb3
    obtain ⟨am, cm, rfl, hcm⟩ := own_slice hown5
    have hbz5 : Below w2.heap.size w2 w5 := (hb3.alloc hsz3 _).grown hgrow5 (by simp; omega) (own_base hown)
    rw [cells_snoc] at hown5
    have hrm := Row.of_own hown5
    have hfz := hf0.below hbz5 (Nat.le_refl _)
    have hgz := hg0.below hbz5 (Nat.le_refl _)
    have hpz := hp0.below hbz5 (Nat.le_refl _)
    have hbz : Below w.heap.size w w5 := hm0.below.trans (hbz5.mono hm0.below.size)
    clear hown5 hgrow5 hbz5 hf0 hg0 hp0 hm0 hb5 hb3 hown hsz3 hnil HZ
    generalize w2.heap.size = B2 at *
    go_wp2_with fail
    refine (max_any am (len0 + 1) cm _ _ hrm (by omega) (by omega)).mono ?_
    rintro e w' ⟨m, rfl, hm, rfl⟩
    by_cases c3 : 549755813888 < m
    · have d3_ : decide (549755813888 < m) = true := by simpa using c3
      go_wp2
      go_ret
      exact ⟨rfl, hbz⟩
    have d3_ : decide (549755813888 < m) = false := by simpa using c3
    have hpb : ∀ k, k < len0 → jPass f g k ≤ 549755813888 := fun k hk => by
      have h1 := hm.2 k (by omega)
      unfold setAt at h1
      rw [if_neg (by omega)] at h1
      omega
    have HP : Hid (∀ k, k < len0 → 0 ≤ jPass f g k ∧ jPass f g k ≤ 549755813888) := fun k hk => ⟨(jPass_bounds HR.out.2.1 HR.out.2.2.1 k hk).1, hpb k hk⟩
    have HPR := Lib.hid (tc_right HR.out hpb (by omega) (by omega) : PRight len0 (pkOf f (jPass f g) a4))
    have H1 := Lib.hid (AllIn.wide (lo' := -2305843009213693952) (hi' := 2305843009213693952) HR.out.2.1 (by omega) (by omega))
    have H2 := Lib.hid (AllIn.wide (lo' := -2305843009213693952) (hi' := 2305843009213693952) (jPass_bounds HR.out.2.1 HR.out.2.2.1) (by omega) (by omega))
    clear hm hrm hpb
    go_wp2_with fail
    go_loopw [12, 46] (fun out i wr => ∃ k : Nat, i = .int .i64 k ∧ k ≤ len0 ∧ wr.ownsRow w5.heap.size 60 2 out k (cellsC 2 k (pkOf f (jPass f g) a4)) ∧ Below w5.heap.size w5 wr) (fun _ i _ => len0 - (intOf i).toNat)
    case atStart => exact ⟨0, rfl, Nat.zero_le _, World.ownsRow_nil _ _ _ _, Below.refl _ _⟩
    case round =>
      obtain ⟨k, rfl, hk, hown, hbw⟩ := hrel
      obtain ⟨ao, co, hv, hco⟩ := own_sliceC hown
      subst hv
      have hsz := hbw.size
      by_cases hlt : k < len0
      · obtain ⟨b1_, o1, x, rfl, hb1, hc1, hx⟩ := (hfz.below hbw (Nat.le_refl _)).at_ hlt
        obtain ⟨b2_, o2, y, rfl, hb2, hc2, hy⟩ := (hpz.below hbw (Nat.le_refl _)).at_ hlt
        have hyb : 0 ≤ y ∧ y ≤ 549755813888 := by rw [hy.out]; exact HP.out k hlt
        obtain ⟨y1, y2⟩ := hyb
        have HC : Hid ([.int .i64 x, .int .i64 (y + a4)] = (List.range 2).map fun j => Value.int .i64 (pkOf f (jPass f g) a4 k j)) := by rw [hx.out, hy.out]; rfl
        go_wp2_with (at_builtin; refine wpList_append_own _ rfl (.tmp 51) (.tmp 60) 58 rfl w5.heap.size 60 p0_ (.agg #[.int .i64 0, .int .i64 0]) 2 16 Tryz.underlying58 pi pz0 pz1 pz2 rfl (by decide) (.slice ao k co) k (cellsC 2 k (pkOf f (jPass f g) a4)) rfl (hown.alloc _) _ 1 1 [.int .i64 x, .int .i64 (y + a4)] rfl rfl (Blk.news (cs := #[.int .i64 x, .int .i64 (y + a4)]) (t := 60) (by repeat (first | (with_reducible assumption) | ((with_reducible refine Blk.new' ?_); (simp [Nat.add_assoc]; done)) | (with_reducible refine Blk.alloc ?_ _) | (with_reducible refine Blk.more ?_ _ _) | (with_reducible refine Blk.drew ?_) | (with_reducible refine Blk.drewN ?_ _)))) (by simp [Value.oneCell']) (by simp only [maxLen]; omega) (by omega) (by simp; omega) ?_; intro v' w6 hown6 hgrow6 hnil; clear hnil)
        go_roundw
        case rel => exact ⟨k + 1, by go_num, by omega, by rw [cellsC_succ, ← HC.out]; exact hown6, (hbw.alloc hsz _).grown hgrow6 (by simp; omega) (own_base hown)⟩
        case measure => simp [intOf]; omega
      · obtain rfl : k = len0 := by omega
        have hpk : RowC wr 2 ao k (pkOf f (jPass f g) a4) := RowC.of_own (by omega) hown
        have hfr : Row wr a0 k f := hfz.below hbw (Nat.le_refl _)
        have hgr : Row wr a1 k g := hgz.below hbw (Nat.le_refl _)
        have hpr : Row wr ap k (jPass f g) := hpz.below hbw (Nat.le_refl _)
        have hbr : Below w.heap.size w wr := hbz.trans (hbw.mono hbz.size)
        clear hown hbw hfz hgz hpz hbz
        by_cases c6 : a2 < 1 ∨ a3 < 1
        · have H6 := Lib.hid c6
          have HV : Hid ((k = 0 ∨ a2 < 1) ∨ (¬ k = 0 ∧ ¬ a2 < 1 ∧ a3 < 1)) := by show _ ∨ _; omega
          clear c6
          go_wp2_with fail
          refine (pwaits_off ao k co _ _ (by repeat (first | (with_reducible assumption) | (with_reducible exact RowC.nil) | (with_reducible apply RowC.drewN) | (with_reducible apply RowC.drew) | (with_reducible apply RowC.more) | (with_reducible apply RowC.alloc))) (by omega) HPR.out a2 a3 H6.out).mono ?_
          rintro e w1 ⟨rfl, os3, d3, rfl⟩
          go_wp2_with fail
          refine (jdelays_any a0 ap k k cap0 cp f (jPass f g) _ (by repeat (first | (with_reducible assumption) | (with_reducible exact Row.nil) | (with_reducible apply Row.drewN) | (with_reducible apply Row.drew) | (with_reducible apply Row.more) | (with_reducible apply Row.alloc))) (by repeat (first | (with_reducible assumption) | (with_reducible exact Row.nil) | (with_reducible apply Row.drewN) | (with_reducible apply Row.drew) | (with_reducible apply Row.more) | (with_reducible apply Row.alloc))) (by omega) (by omega) H1.out H2.out).mono ?_
          rw [Nat.min_self]
          rintro e w1 ⟨ad, cd, rfl, hcd, hrd, hbd⟩
          obtain ⟨os4, d4, rfl⟩ := More.of_below hbd
          clear hbd hrd
          go_wp2_with fail
          refine (base_none ad k cd a2 a3 H6.out _).mono ?_
          rintro e w1 ⟨rfl, rfl⟩
          go_wp2_with fail
          have hbq : Below w.heap.size w ((wr.more os3 d3).more os4 d4) := below_then hbr hbr.size (by repeat (first | (with_reducible exact More.refl _) | (with_reducible refine More.alloc ?_ _) | (with_reducible refine More.more ?_ _ _) | (with_reducible refine More.drewN ?_ _) | (with_reducible refine More.drew ?_)))
          clear hpk hfr hgr hpr hbr
          generalize ((wr.more os3 d3).more os4 d4) = wq at *
          go_loopw [75] (fun i wi => i = .int .i64 0 ∧ wi = wq) (fun i _ => 0)
          case atStart => exact ⟨rfl, rfl⟩
          case round =>
            obtain ⟨rfl, rfl⟩ := hrel
            rcases HV.out with (h | h) | ⟨h1, h2, h3⟩
            · have q1 : ((0 : Int) == (k : Int)) = true := by simp; omega
              go_wp2
              go_ret
              exact ⟨rfl, hbq⟩
            · have q2 : decide (a2 < 1) = true := by simpa using h
              by_cases h0 : k = 0
              · have q1 : ((0 : Int) == (k : Int)) = true := by simp; omega
                go_wp2
                go_ret
                exact ⟨rfl, hbq⟩
              · have q1 : ((0 : Int) == (k : Int)) = false := by simp; omega
                go_wp2
                go_ret
                exact ⟨rfl, hbq⟩
            · have q1 : ((0 : Int) == (k : Int)) = false := by simp; omega
              have q2 : decide (a2 < 1) = false := by simpa using h2
              have q3 : decide (a3 < 1) = true := by simpa using h3
              go_wp2
              go_ret
              exact ⟨rfl, hbq⟩
        · have p1 : 1 ≤ a2 := by omega
          have p2 : 1 ≤ a3 := by omega
          have g1 := b2.2
          have g2 := b3.2
          clear c6
          have HPB := Lib.hid (fun j (hj : j < k) => late_in HR.out (M := 1099511627776) (m := 0) (fun i hi => (HR.out.2.2.1 i hi).2) (fun i hi => (HR.out.2.2.1 i hi).1) j hj)
          go_wp2_with fail
          refine (pwaits_any ao k co _ _ (by repeat (first | (with_reducible assumption) | (with_reducible exact RowC.nil) | (with_reducible apply RowC.drewN) | (with_reducible apply RowC.drew) | (with_reducible apply RowC.more) | (with_reducible apply RowC.alloc))) (by omega) HPR.out a2 a3 p1 g1 p2 g2).mono ?_
          rintro e w1 ⟨aw, cw, rfl, hcw, hrw, hbw⟩
          obtain ⟨os3, d3, rfl⟩ := More.of_below hbw
          clear hbw
          go_wp2_with fail
          refine (jdelays_any a0 ap k k cap0 cp f (jPass f g) _ (by repeat (first | (with_reducible assumption) | (with_reducible exact Row.nil) | (with_reducible apply Row.drewN) | (with_reducible apply Row.drew) | (with_reducible apply Row.more) | (with_reducible apply Row.alloc))) (by repeat (first | (with_reducible assumption) | (with_reducible exact Row.nil) | (with_reducible apply Row.drewN) | (with_reducible apply Row.drew) | (with_reducible apply Row.more) | (with_reducible apply Row.alloc))) (by omega) (by omega) H1.out H2.out).mono ?_
          rw [Nat.min_self]
          rintro e w1 ⟨ad, cd, rfl, hcd, hrd, hbd⟩
          obtain ⟨os4, d4, rfl⟩ := More.of_below hbd
          clear hbd
          replace hrd : Row ((wr.more os3 d3).more os4 d4) ad k (jLate f (jPass f g)) := hrd
          go_wp2_with fail
          refine (base_any ad k cd (jLate f (jPass f g)) _ (by repeat (first | (with_reducible assumption) | (with_reducible exact Row.nil) | (with_reducible apply Row.drewN) | (with_reducible apply Row.drew) | (with_reducible apply Row.more) | (with_reducible apply Row.alloc))) (by omega) a2 a3 p1 g1 p2 g2).mono ?_
          rintro e w1 ⟨ab, cb, rfl, hcb, hrb, hbb⟩
          obtain ⟨os5, d5, rfl⟩ := More.of_below hbb
          clear hbb
          have hbq : Below w.heap.size w (((wr.more os3 d3).more os4 d4).more os5 d5) := below_then hbr hbr.size (by repeat (first | (with_reducible exact More.refl _) | (with_reducible refine More.alloc ?_ _) | (with_reducible refine More.more ?_ _ _) | (with_reducible refine More.drewN ?_ _) | (with_reducible refine More.drew ?_)))
          have hWq : Row (((wr.more os3 d3).more os4 d4).more os5 d5) aw k (pwaits (pkOf f (jPass f g) a4) a2 a3) := (by repeat (first | (with_reducible assumption) | (with_reducible exact Row.nil) | (with_reducible apply Row.drewN) | (with_reducible apply Row.drew) | (with_reducible apply Row.more) | (with_reducible apply Row.alloc)))
          have hDq : Row (((wr.more os3 d3).more os4 d4).more os5 d5) ad k (jLate f (jPass f g)) := (by repeat (first | (with_reducible assumption) | (with_reducible exact Row.nil) | (with_reducible apply Row.drewN) | (with_reducible apply Row.drew) | (with_reducible apply Row.more) | (with_reducible apply Row.alloc)))
          have hGq : Row (((wr.more os3 d3).more os4 d4).more os5 d5) a1 k g := (by repeat (first | (with_reducible assumption) | (with_reducible exact Row.nil) | (with_reducible apply Row.drewN) | (with_reducible apply Row.drew) | (with_reducible apply Row.more) | (with_reducible apply Row.alloc)))
          clear hpk hfr hgr hpr hbr hrw hrd
          generalize (((wr.more os3 d3).more os4 d4).more os5 d5) = wq at *
          go_wp2_with fail
          go_loopw [75] (fun i wi => ∃ j dr : Nat, i = .int .i64 j ∧ j ≤ k ∧ wi = wq.drewN dr) (fun i _ => k - (intOf i).toNat)
          case atStart => exact ⟨0, 0, rfl, Nat.zero_le _, rfl⟩
          case round =>
            obtain ⟨j, dr, rfl, hj, rfl⟩ := hrel
            by_cases hlt : j < k
            · obtain ⟨M, hM⟩ := isMax_ex (f := g) (show 0 < k by omega)
              obtain ⟨m', hm'⟩ := isMin_ex (f := g) (show 0 < k by omega)
              have hmost := tc_most HR.out hM hm' p1 p2 hlt
              have hsame := tc_waits f (jPass f g) a4 p1 p2 j
              have hbd1 := base_bounds p1 p2 hlt HPB.out
              have hbd2 := HPB.out j hlt
              have hMb : m' ≤ M ∧ 0 ≤ m' ∧ M ≤ 1099511627776 := by
                obtain ⟨⟨i1, e1, e2⟩, e3⟩ := hM
                obtain ⟨⟨i2, e4, e5⟩, e6⟩ := hm'
                have := e6 i1 e1
                have := HR.out.2.2.1 i1 e1
                have := HR.out.2.2.1 i2 e4
                omega
              obtain ⟨p1', o1, X, rfl, g1', k1, hX⟩ := hWq.at_ hlt
              obtain ⟨p2', o2, V, rfl, g2', k2, hV⟩ := hDq.at_ hlt
              obtain ⟨p3', o3, B, rfl, g3', k3, hB⟩ := hrb.at_ hlt
              rw [← hX.out, ← hV.out, ← hB.out] at hsame
              rw [← hV.out, ← hB.out] at hmost
              rw [← hB.out] at hbd1
              rw [← hV.out] at hbd2
              subst hsame
              have t1 : (j : Int) < (k : Int) := by omega
              have t2 : (0 : Int) ≤ (j : Int) := by omega
              have w1_ : IntKind.i64.wrap (V - B) = V - B := IntWalk.i64_in _ (by omega)
              have w2_ : IntKind.i64.wrap (M - m') = M - m' := IntWalk.i64_in _ (by omega)
              have e1 : (V - B != V - B) = false := by simp
              have e2 : decide (M - m' < V - B) = false := by simp; omega
              have HQ1 : Hid (∀ m c, Calls Tryz.prog 23 #[.slice a1 k c] (wq.drewN m) fun e w' => e = .returned (.int .i64 M) ∧ wq.drewN m = w') := fun m c => max_is a1 k c g _ (hGq.drewN m) (by omega) (by omega) hM
              have HQ2 : Hid (∀ m c, Calls Tryz.prog 28 #[.slice a1 k c] (wq.drewN m) fun e w' => e = .returned (.int .i64 m') ∧ wq.drewN m = w') := fun m c => min_is a1 k c g _ (hGq.drewN m) (by omega) (by omega) hm'
              clear hM hm' hmost hbd1 hbd2 hMb hX hV hB
              go_wp2_with fail
              go_quiet (first
                | (go_at_call 23; first | exact quiet_left (HQ1.out _ _) | exact quiet_add_left (HQ1.out _ _))
                | (go_at_call 28; first | exact quiet_left (HQ2.out _ _) | exact quiet_add_left (HQ2.out _ _)))
              go_wp2
              go_roundw
              case rel => exact ⟨j + 1, _, by go_num, by omega, rfl⟩
              case measure => simp [intOf]; omega
            · obtain rfl : j = k := by omega
              have q1 : ((j : Int) == (j : Int)) = true := by simp
              go_wp2
              go_ret
              exact ⟨rfl, hbq.drewN _⟩
  · have hr' : jRight len0 len1 f g = false := by simpa using hr
    have E0 := Lib.hid hr'
    clear hr hr'
    refine (jpass_none a0 a1 len0 len1 cap0 cap1 f g _ (by repeat (first | (with_reducible assumption) | (with_reducible exact Row.nil) | (with_reducible apply Row.drewN) | (with_reducible apply Row.drew) | (with_reducible apply Row.more) | (with_reducible apply Row.alloc))) (by repeat (first | (with_reducible assumption) | (with_reducible exact Row.nil) | (with_reducible apply Row.drewN) | (with_reducible apply Row.drew) | (with_reducible apply Row.more) | (with_reducible apply Row.alloc))) (by omega) (by omega) E0.out).mono ?_
    rintro e w1 ⟨rfl, os1, d1, rfl⟩
    go_wp2_with fail
    refine (jright_any a0 a1 len0 len1 cap0 cap1 f g _ (by repeat (first | (with_reducible assumption) | (with_reducible exact Row.nil) | (with_reducible apply Row.drewN) | (with_reducible apply Row.drew) | (with_reducible apply Row.more) | (with_reducible apply Row.alloc))) (by repeat (first | (with_reducible assumption) | (with_reducible exact Row.nil) | (with_reducible apply Row.drewN) | (with_reducible apply Row.drew) | (with_reducible apply Row.more) | (with_reducible apply Row.alloc))) (by omega) (by omega)).mono ?_
    rintro e w1 ⟨rfl, os2, d2, rfl⟩
    rw [E0.out]
    go_wp2
    go_ret
    exact ⟨rfl, More.below (by repeat (first | (with_reducible exact More.refl _) | (with_reducible refine More.alloc ?_ _) | (with_reducible refine More.more ?_ _ _) | (with_reducible refine More.drewN ?_ _) | (with_reducible refine More.drew ?_)))⟩
end Go.Proofs.YtgmljgcmfooniaaGreatDoor
