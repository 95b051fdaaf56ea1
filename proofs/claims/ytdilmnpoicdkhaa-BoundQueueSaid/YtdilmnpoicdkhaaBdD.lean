/- BoundQueue: for every input the law returns true. Conditions: none. -/
import Derived.Test.YtdilmnpoicdkhaaBdA
import Derived.Test.YtdilmnpoicdkhaaQuLaws
set_option linter.unusedVariables false
set_option linter.unusedSimpArgs false
namespace Go.Tide
theorem queue_serve {R : Int} {n : Nat} {x : Nat → Int} (h : BRight R 1099511627776 n x) (hl : ∀ k, k < n → quLost R 1099511627776 x k = 0) : CWithin (n + 1) (n + 1) (conv (ofRow x) (servOf R 0)) (ofRow (quWent R 1099511627776 x)) := by
  intro t h1 h2
  have h3 := bound_serve (R := R) (x := x) (n := n) (M := 1099511627776) h.1 h.2.2 (by omega) hl t h1 h2
  rw [Small.of (went_small h) t (by omega), conv_congr (f' := isum x) (g' := servOf R 0) (fun s hs => h.of s (by omega)) (fun s _ => rfl)]
  exact h3
end Go.Tide
namespace Go.Proofs.Ytdilmnpoicdkhaa
open Go.RowKit Go.Tide
set_option linter.unusedVariables false
set_option linter.unusedSimpArgs false

theorem serves_succ (R : Int) (n : Nat) (w : World) (hR : 0 ≤ R ∧ R ≤ 1099511627776) (hn : n + 1 ≤ 300) :
    Calls Try.prog 59 #[.int .i64 R, .int .i64 0, .int .i64 ((n : Int) + 1)] w fun e w' => ∃ a' c', e = .returned (.slice a' (n + 1) c') ∧ n + 1 ≤ c' ∧ Row w' a' (n + 1) (servOf R 0) ∧ Below w.heap.size w w' := by
  have h := serves_any R 0 (n + 1) w hR (by omega) (by omega) hn
  rwa [show ((n + 1 : Nat) : Int) = (n : Int) + 1 by omega] at h

set_option maxHeartbeats 4000000 in
theorem boundQueue_walk (a0_0 a0_1 : Int) (a1 : Int) (a2 : Option Addr) (len2 cap2 : Nat) (z2 : List Int) (w : World) (b0_0 : InI64 a0_0) (b0_1 : InI64 a0_1) (b1 : InI64 a1) (f2 : IsFlat w a2 len2 cap2 1 z2) (r2 : cap2 * 8 ≤ 140737488351232) :
    Calls Try.prog 24 #[.agg #[.int .i64 a0_0, .int .i64 a0_1], .int .i64 a1, .slice a2 len2 cap2] w fun e w' => e = .returned (.bool true) ∧ Below w.heap.size w w' := by
  have hle := f2.le
  have hs := f2.row
  generalize (fun k => z2.getD k 0) = x at hs
  clear f2
  by_cases c1 : bRight a0_0 a0_1 len2 x = true
  · have RB := bRight_iff.1 c1
    have hn := RB.2.2.1
    have E1 := Lib.hid c1
    clear c1
    by_cases c2 : bRight a1 0 0 (fun _ => 0) = true
    · have RQ := bRight_iff.1 c2
      have hR := RQ.1
      have E2 := Lib.hid c2
      clear c2
      rcases Nat.eq_zero_or_pos len2 with h0 | h0
      · subst h0
        clear RB RQ
        go_enter Try.func24, Try.ntmps24
        go_wp2_with (go_at_call 51; refine (bound_alive _).mono ?_; rintro e w' ⟨rfl, os, n_, rfl⟩)
        refine (bright_any a0_0 a0_1 _ 0 _ x _ (by repeat (first | (with_reducible assumption) | (with_reducible exact Row.nil) | (with_reducible apply Row.drewN) | (with_reducible apply Row.drew) | (with_reducible apply Row.more) | (with_reducible apply Row.alloc))) (by omega)).mono ?_
        rintro e w1 ⟨rfl, os_1, d_1, rfl⟩
        rw [E1.out]
        go_wp2_with fail
        refine (qright_any a1 0 none 0 0 (fun _ => 0) _ Row.nil (by omega)).mono ?_
        rintro e w1 ⟨rfl, os_2, d_2, rfl⟩
        rw [E2.out]
        go_wp2
        go_ret
        exact ⟨rfl, More.below (by repeat (first | (with_reducible assumption) | (with_reducible exact More.refl _) | (with_reducible refine More.alloc ?_ _) | (with_reducible refine More.more ?_ _ _) | (with_reducible refine More.drewN ?_ _) | (with_reducible refine More.drew ?_)))⟩
      · have hz : ((len2 : Int) == 0) = false := by simp; omega
        have R2 : BRight a1 1099511627776 len2 x := ⟨hR, by omega, RB.2.2⟩
        have HQ := Lib.hid R2
        have HB := Lib.hid RB
        have kw : IntKind.i64.wrap ((len2 : Int) + 1) = (len2 : Int) + 1 := IntWalk.i64_in _ (by omega)
        by_cases hm : 0 < mxOf len2 (quLost a1 1099511627776 x)
        · have hd : decide (0 < mxOf len2 (quLost a1 1099511627776 x)) = true := by simpa using hm
          clear RB RQ R2 hm
          go_enter Try.func24, Try.ntmps24
          go_wp2_with (go_at_call 51; refine (bound_alive _).mono ?_; rintro e w' ⟨rfl, os, n_, rfl⟩)
          refine (bright_any a0_0 a0_1 _ len2 _ x _ (by repeat (first | (with_reducible assumption) | (with_reducible exact Row.nil) | (with_reducible apply Row.drewN) | (with_reducible apply Row.drew) | (with_reducible apply Row.more) | (with_reducible apply Row.alloc))) (by omega)).mono ?_
          rintro e w1 ⟨rfl, os_1, d_1, rfl⟩
          rw [E1.out]
          go_wp2_with fail
          refine (qright_any a1 0 none 0 0 (fun _ => 0) _ Row.nil (by omega)).mono ?_
          rintro e w1 ⟨rfl, os_2, d_2, rfl⟩
          rw [E2.out]
          go_wp2_with fail
          refine (play_any a1 1099511627776 _ len2 _ x _ (by repeat (first | (with_reducible assumption) | (with_reducible exact Row.nil) | (with_reducible apply Row.drewN) | (with_reducible apply Row.drew) | (with_reducible apply Row.more) | (with_reducible apply Row.alloc))) HQ.out).mono ?_
          rintro e w1 ⟨av_3, cv_3, al_3, cl_3, aw_3, cw_3, rfl, ⟨hcv_3, hcl_3, hcw_3⟩, ⟨hrv_3, hrl_3, hrw_3⟩, hb_3⟩
          obtain ⟨os_3, d_3, rfl⟩ := More.of_below hb_3
          go_wp2_with fail
          refine (max_eq _ len2 _ (quLost a1 1099511627776 x) _ (by repeat (first | (with_reducible assumption) | (with_reducible exact Row.nil) | (with_reducible apply Row.drewN) | (with_reducible apply Row.drew) | (with_reducible apply Row.more) | (with_reducible apply Row.alloc))) (by omega) h0).mono ?_
          rintro e w1 ⟨rfl, rfl⟩
          go_wp2
          go_ret
          exact ⟨rfl, More.below (by repeat (first | (with_reducible assumption) | (with_reducible exact More.refl _) | (with_reducible refine More.alloc ?_ _) | (with_reducible refine More.more ?_ _ _) | (with_reducible refine More.drewN ?_ _) | (with_reducible refine More.drew ?_)))⟩
        · have hd : decide (0 < mxOf len2 (quLost a1 1099511627776 x)) = false := by simpa using hm
          have hl := nolost R2 h0 (by omega)
          have E3 := Lib.hid (cWithin_true (queue_serve R2 hl))
          have HL := Lib.hid hl
          obtain ⟨q, hq⟩ : ∃ q, Hid (bKept a0_0 a0_1 len2 x = q) := ⟨_, rfl⟩
          clear RB RQ R2 hm hl
          go_enter Try.func24, Try.ntmps24
          go_wp2_with (go_at_call 51; refine (bound_alive _).mono ?_; rintro e w' ⟨rfl, os, n_, rfl⟩)
          refine (bright_any a0_0 a0_1 _ len2 _ x _ (by repeat (first | (with_reducible assumption) | (with_reducible exact Row.nil) | (with_reducible apply Row.drewN) | (with_reducible apply Row.drew) | (with_reducible apply Row.more) | (with_reducible apply Row.alloc))) (by omega)).mono ?_
          rintro e w1 ⟨rfl, os_1, d_1, rfl⟩
          rw [E1.out]
          go_wp2_with fail
          refine (qright_any a1 0 none 0 0 (fun _ => 0) _ Row.nil (by omega)).mono ?_
          rintro e w1 ⟨rfl, os_2, d_2, rfl⟩
          rw [E2.out]
          go_wp2_with fail
          refine (play_any a1 1099511627776 _ len2 _ x _ (by repeat (first | (with_reducible assumption) | (with_reducible exact Row.nil) | (with_reducible apply Row.drewN) | (with_reducible apply Row.drew) | (with_reducible apply Row.more) | (with_reducible apply Row.alloc))) HQ.out).mono ?_
          rintro e w1 ⟨av_3, cv_3, al_3, cl_3, aw_3, cw_3, rfl, ⟨hcv_3, hcl_3, hcw_3⟩, ⟨hrv_3, hrl_3, hrw_3⟩, hb_3⟩
          obtain ⟨os_3, d_3, rfl⟩ := More.of_below hb_3
          go_wp2_with fail
          refine (max_eq _ len2 _ (quLost a1 1099511627776 x) _ (by repeat (first | (with_reducible assumption) | (with_reducible exact Row.nil) | (with_reducible apply Row.drewN) | (with_reducible apply Row.drew) | (with_reducible apply Row.more) | (with_reducible apply Row.alloc))) (by omega) h0).mono ?_
          rintro e w1 ⟨rfl, rfl⟩
          go_wp2_with fail
          refine (serves_succ a1 len2 _ hR (by omega)).mono ?_
          rintro e w1 ⟨a_4, c_4, rfl, hc_4, hr_4, hb_4⟩
          obtain ⟨os_4, d_4, rfl⟩ := More.of_below hb_4
          go_wp2_with fail
          refine (cof_any _ len2 _ (x) _ (by repeat (first | (with_reducible assumption) | (with_reducible exact Row.nil) | (with_reducible apply Row.drewN) | (with_reducible apply Row.drew) | (with_reducible apply Row.more) | (with_reducible apply Row.alloc))) (by omega)).mono ?_
          rintro e w1 ⟨a_5, c_5, rfl, hc_5, hr_5, hb_5⟩
          obtain ⟨os_5, d_5, rfl⟩ := More.of_below hb_5
          go_wp2_with fail
          refine (conv_any _ _ (len2 + 1) (len2 + 1) _ _ (ofRow x) (servOf a1 0) _ (by repeat (first | (with_reducible assumption) | (with_reducible exact Row.nil) | (with_reducible apply Row.drewN) | (with_reducible apply Row.drew) | (with_reducible apply Row.more) | (with_reducible apply Row.alloc))) (by repeat (first | (with_reducible assumption) | (with_reducible exact Row.nil) | (with_reducible apply Row.drewN) | (with_reducible apply Row.drew) | (with_reducible apply Row.more) | (with_reducible apply Row.alloc))) (by omega) (by omega)).mono ?_
          rw [Nat.min_self]
          rintro e w1 ⟨a_6, c_6, rfl, hc_6, hr_6, hb_6⟩
          obtain ⟨os_6, d_6, rfl⟩ := More.of_below hb_6
          go_wp2_with fail
          refine (cof_any _ len2 _ (quWent a1 1099511627776 x) _ (by repeat (first | (with_reducible assumption) | (with_reducible exact Row.nil) | (with_reducible apply Row.drewN) | (with_reducible apply Row.drew) | (with_reducible apply Row.more) | (with_reducible apply Row.alloc))) (by omega)).mono ?_
          rintro e w1 ⟨a_7, c_7, rfl, hc_7, hr_7, hb_7⟩
          obtain ⟨os_7, d_7, rfl⟩ := More.of_below hb_7
          go_wp2_with fail
          refine (cwithin_any _ _ (len2 + 1) (len2 + 1) _ _ (conv (ofRow x) (servOf a1 0)) (ofRow (quWent a1 1099511627776 x)) _ (by repeat (first | (with_reducible assumption) | (with_reducible exact Row.nil) | (with_reducible apply Row.drewN) | (with_reducible apply Row.drew) | (with_reducible apply Row.more) | (with_reducible apply Row.alloc))) (by repeat (first | (with_reducible assumption) | (with_reducible exact Row.nil) | (with_reducible apply Row.drewN) | (with_reducible apply Row.drew) | (with_reducible apply Row.more) | (with_reducible apply Row.alloc))) (by omega) (by omega)).mono ?_
          rintro e w1 ⟨rfl, os_8, d_8, rfl⟩
          rw [E3.out]
          go_wp2_with fail
          refine (bkeeps_any a0_0 a0_1 _ len2 _ x _ (by repeat (first | (with_reducible assumption) | (with_reducible exact Row.nil) | (with_reducible apply Row.drewN) | (with_reducible apply Row.drew) | (with_reducible apply Row.more) | (with_reducible apply Row.alloc))) HB.out).mono ?_
          rintro e w1 ⟨rfl, os_9, d_9, rfl⟩
          rw [hq.out]
          cases q with
          | false =>
            go_wp2_with fail
            go_ret
            exact ⟨rfl, More.below (by repeat (first | (with_reducible assumption) | (with_reducible exact More.refl _) | (with_reducible refine More.alloc ?_ _) | (with_reducible refine More.more ?_ _ _) | (with_reducible refine More.drewN ?_ _) | (with_reducible refine More.drew ?_)))⟩
          | true =>
            by_cases hc1 : a1 < a0_0
            · have d1 : decide (a1 < a0_0) = true := by simpa using hc1
              clear hc1
              go_wp2_with fail
              go_ret
              exact ⟨rfl, More.below (by repeat (first | (with_reducible assumption) | (with_reducible exact More.refl _) | (with_reducible refine More.alloc ?_ _) | (with_reducible refine More.more ?_ _ _) | (with_reducible refine More.drewN ?_ _) | (with_reducible refine More.drew ?_)))⟩
            · have d1 : decide (a1 < a0_0) = false := by simpa using hc1
              rcases Int.lt_or_eq_of_le hR.1 with hR0 | hR0
              · have d2 : (a1 == 0) = false := by simp; omega
                have hk := bKept_iff.1 hq.out
                have RR := HQ.out
                have hb := bound_burst hR.1 HB.out.2.2 (M := 1099511627776) (by omega) HL.out hk HB.out.1.1 HB.out.2.1.1 (by omega)
                have HBU : Hid (∀ t, t < len2 → quWait a1 1099511627776 x (t + 1) ≤ max (a0_1 - a1) 0 ∧ delayOf len2 (isum x) (isum (quWent a1 1099511627776 x)) t ≤ (a0_1 + a1 - 1) / a1) := fun t ht => ⟨hb (t + 1) (by omega), by
                  rw [delay_law hR.1 (by omega) (fun k hk => (RR.2.2.2 k hk).1) HL.out ht]
                  exact bound_takes hR0 HB.out.2.1.1 (hb (t + 1) (by omega)) len2 t⟩
                have hB := HB.out.2.1
                clear hc1 hk RR hb
                go_wp2_with fail
                refine (delays_any a1 _ len2 _ x _ (by repeat (first | (with_reducible assumption) | (with_reducible exact Row.nil) | (with_reducible apply Row.drewN) | (with_reducible apply Row.drew) | (with_reducible apply Row.more) | (with_reducible apply Row.alloc))) HQ.out).mono ?_
                rintro e w1 ⟨a_10, c_10, rfl, hc_10, hr_10, hb_10⟩
                obtain ⟨os_10, d_10, rfl⟩ := More.of_below hb_10
                have hmz : More w ((((((((((((w.alloc (.cells #[.int .i64 a0_0, .int .i64 a0_1] 35)).more os n_).more os_1 d_1).more os_2 d_2).more os_3 d_3).more os_4 d_4).more os_5 d_5).more os_6 d_6).more os_7 d_7).more os_8 d_8).more os_9 d_9).more os_10 d_10) := (by repeat (first | (with_reducible assumption) | (with_reducible exact More.refl _) | (with_reducible refine More.alloc ?_ _) | (with_reducible refine More.more ?_ _ _) | (with_reducible refine More.drewN ?_ _) | (with_reducible refine More.drew ?_)))
                have hrw : Row ((((((((((((w.alloc (.cells #[.int .i64 a0_0, .int .i64 a0_1] 35)).more os n_).more os_1 d_1).more os_2 d_2).more os_3 d_3).more os_4 d_4).more os_5 d_5).more os_6 d_6).more os_7 d_7).more os_8 d_8).more os_9 d_9).more os_10 d_10) aw_3 len2 (fun k => quWait a1 1099511627776 x (k + 1)) := (by repeat (first | (with_reducible assumption) | (with_reducible exact Row.nil) | (with_reducible apply Row.drewN) | (with_reducible apply Row.drew) | (with_reducible apply Row.more) | (with_reducible apply Row.alloc)))
                have hrd : Row ((((((((((((w.alloc (.cells #[.int .i64 a0_0, .int .i64 a0_1] 35)).more os n_).more os_1 d_1).more os_2 d_2).more os_3 d_3).more os_4 d_4).more os_5 d_5).more os_6 d_6).more os_7 d_7).more os_8 d_8).more os_9 d_9).more os_10 d_10) a_10 len2 (delayOf len2 (isum x) (isum (quWent a1 1099511627776 x))) := (by repeat (first | (with_reducible assumption) | (with_reducible exact Row.nil) | (with_reducible apply Row.drewN) | (with_reducible apply Row.drew) | (with_reducible apply Row.more) | (with_reducible apply Row.alloc)))
                have hbb : Blk ((((((((((((w.alloc (.cells #[.int .i64 a0_0, .int .i64 a0_1] 35)).more os n_).more os_1 d_1).more os_2 d_2).more os_3 d_3).more os_4 d_4).more os_5 d_5).more os_6 d_6).more os_7 d_7).more os_8 d_8).more os_9 d_9).more os_10 d_10) w.heap.size 35 #[.int .i64 a0_0, .int .i64 a0_1] := (by repeat (first | (with_reducible assumption) | ((with_reducible refine Blk.new' ?_); (simp [Nat.add_assoc]; done)) | (with_reducible refine Blk.alloc ?_ _) | (with_reducible refine Blk.more ?_ _ _) | (with_reducible refine Blk.drew ?_) | (with_reducible refine Blk.drewN ?_ _)))
                clear hb_3 hb_4 hb_5 hb_6 hb_7 hb_10
                generalize ((((((((((((w.alloc (.cells #[.int .i64 a0_0, .int .i64 a0_1] 35)).more os n_).more os_1 d_1).more os_2 d_2).more os_3 d_3).more os_4 d_4).more os_5 d_5).more os_6 d_6).more os_7 d_7).more os_8 d_8).more os_9 d_9).more os_10 d_10) = wz at *
                have hbc0 : wz.cell? ⟨w.heap.size, 0, none⟩ = some (.int .i64 a0_0) := hbb.cell 0
                have hbc1 : wz.cell? ⟨w.heap.size, 1, none⟩ = some (.int .i64 a0_1) := hbb.cell 1
                have hbl := hbb.lt
                go_wp2_with fail
                go_loopw [82] (fun j wr => ∃ k dr : Nat, j = .int .i64 k ∧ k ≤ len2 ∧ wr = wz.drewN dr) (fun j _ => len2 - (intOf j).toNat)
                case atStart => exact ⟨0, 0, rfl, Nat.zero_le _, rfl⟩
                case round =>
                  obtain ⟨k, dr, rfl, hk, rfl⟩ := hrel
                  by_cases hlt : k < len2
                  · obtain ⟨p3, o3, V, rfl, g3, k3, hV⟩ := hrw.at_ hlt
                    obtain ⟨p4, o4, Y, rfl, g4, k4, hY⟩ := hrd.at_ hlt
                    have hV2 : Hid (V = quWait a1 1099511627776 x (k + 1)) := hV
                    have s1 := HBU.out k hlt
                    rw [← hV2.out, ← hY.out] at s1
                    have q4 : (k : Int) < (len2 : Int) := by omega
                    obtain ⟨Q, hQ⟩ : ∃ Q, (a0_1 + a1 - 1) / a1 = Q := ⟨_, rfl⟩
                    have hQ0 : 0 ≤ Q := by rw [← hQ]; exact Int.ediv_nonneg (by omega) (by omega)
                    have hQ1 : Q ≤ a0_1 + a1 - 1 := by rw [← hQ]; exact Int.ediv_le_self a1 (by omega)
                    have hQt : (a0_1 + a1 - 1).tdiv a1 = Q := by rw [Int.tdiv_eq_ediv_of_nonneg (by omega)]; exact hQ
                    rw [hQ] at s1
                    obtain ⟨Z, hZ⟩ : ∃ Z, Hid (max (a0_1 - a1) 0 = Z) := ⟨_, rfl⟩
                    rw [hZ.out] at s1
                    have hmx : (if a0_1 - a1 < 0 then 0 else a0_1 - a1) = Z := by have := hZ.out; omega
                    have kw1 : IntKind.i64.wrap (a0_1 - a1) = a0_1 - a1 := IntWalk.i64_in _ (by omega)
                    have kw2 : IntKind.i64.wrap (a0_1 + a1) = a0_1 + a1 := IntWalk.i64_in _ (by omega)
                    have kw3 : IntKind.i64.wrap (a0_1 + a1 - 1) = a0_1 + a1 - 1 := IntWalk.i64_in _ (by omega)
                    have kw5 : IntKind.i64.wrap Q = Q := IntWalk.i64_in _ (by omega)
                    have kx5 : wrap64 Q = Q := IntWalk.wrap64_in _ (by omega)
                    have d3 : decide (Z < V) = false := by simp; omega
                    have d4 : decide (Q < Y) = false := by simp; omega
                    clear hQ s1
                    go_wp2_with fail
                    go_quiet (fail)
                    go_wp2
                    go_roundw
                    case rel => exact ⟨k + 1, _, by go_num, by omega, rfl⟩
                    case measure => simp [intOf]; omega
                  · obtain rfl : k = len2 := by omega
                    go_wp2
                    go_ret
                    exact ⟨rfl, (hmz.drewN _).below⟩
              · subst hR0
                clear hc1
                go_wp2_with fail
                go_ret
                exact ⟨rfl, More.below (by repeat (first | (with_reducible assumption) | (with_reducible exact More.refl _) | (with_reducible refine More.alloc ?_ _) | (with_reducible refine More.more ?_ _ _) | (with_reducible refine More.drewN ?_ _) | (with_reducible refine More.drew ?_)))⟩
    · have c2' : bRight a1 0 0 (fun _ => 0) = false := by simpa using c2
      have E2 := Lib.hid c2'
      clear c2 c2' RB
      go_enter Try.func24, Try.ntmps24
      go_wp2_with (go_at_call 51; refine (bound_alive _).mono ?_; rintro e w' ⟨rfl, os, n_, rfl⟩)
      refine (bright_any a0_0 a0_1 _ len2 _ x _ (by repeat (first | (with_reducible assumption) | (with_reducible exact Row.nil) | (with_reducible apply Row.drewN) | (with_reducible apply Row.drew) | (with_reducible apply Row.more) | (with_reducible apply Row.alloc))) (by omega)).mono ?_
      rintro e w1 ⟨rfl, os_1, d_1, rfl⟩
      rw [E1.out]
      go_wp2_with fail
      refine (qright_any a1 0 none 0 0 (fun _ => 0) _ Row.nil (by omega)).mono ?_
      rintro e w1 ⟨rfl, os_2, d_2, rfl⟩
      rw [E2.out]
      go_wp2
      go_ret
      exact ⟨rfl, More.below (by repeat (first | (with_reducible assumption) | (with_reducible exact More.refl _) | (with_reducible refine More.alloc ?_ _) | (with_reducible refine More.more ?_ _ _) | (with_reducible refine More.drewN ?_ _) | (with_reducible refine More.drew ?_)))⟩
  · have c1' : bRight a0_0 a0_1 len2 x = false := by simpa using c1
    have E1 := Lib.hid c1'
    clear c1 c1'
    go_enter Try.func24, Try.ntmps24
    go_wp2_with (go_at_call 51; refine (bound_alive _).mono ?_; rintro e w' ⟨rfl, os, n_, rfl⟩)
    refine (bright_any a0_0 a0_1 _ len2 _ x _ (by repeat (first | (with_reducible assumption) | (with_reducible exact Row.nil) | (with_reducible apply Row.drewN) | (with_reducible apply Row.drew) | (with_reducible apply Row.more) | (with_reducible apply Row.alloc))) (by omega)).mono ?_
    rintro e w1 ⟨rfl, os_1, d_1, rfl⟩
    rw [E1.out]
    go_wp2
    go_ret
    exact ⟨rfl, More.below (by repeat (first | (with_reducible assumption) | (with_reducible exact More.refl _) | (with_reducible refine More.alloc ?_ _) | (with_reducible refine More.more ?_ _ _) | (with_reducible refine More.drewN ?_ _) | (with_reducible refine More.drew ?_)))⟩
end Go.Proofs.Ytdilmnpoicdkhaa
