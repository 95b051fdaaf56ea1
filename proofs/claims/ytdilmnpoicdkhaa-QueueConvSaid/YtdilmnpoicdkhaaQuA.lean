/- QueueConv: for every input the law returns true. Conditions: none. -/
import Derived.Test.YtdilmnpoicdkhaaQuLaws
set_option linter.unusedVariables false
set_option linter.unusedSimpArgs false
namespace Go.Proofs.Ytdilmnpoicdkhaa
open Go.RowKit Go.Tide
set_option linter.unusedVariables false
set_option linter.unusedSimpArgs false

set_option maxHeartbeats 4000000 in
theorem queueConv_walk (a0 : Int) (a1 : Option Addr) (len1 cap1 : Nat) (z1 : List Int) (w : World) (b0 : InI64 a0) (f1 : IsFlat w a1 len1 cap1 1 z1) (r1 : cap1 * 8 ≤ 140737488351232) :
    Calls Try.prog 21 #[.int .i64 a0, .slice a1 len1 cap1] w fun e w' => e = .returned (.bool true) ∧ Below w.heap.size w w' := by
  have hle := f1.le
  have hs := f1.row
  generalize (fun k => z1.getD k 0) = x at hs
  clear f1
  by_cases hr : bRight a0 1099511627776 len1 x = true
  · have RR := bRight_iff.1 hr
    have hn := RR.2.2.1
    have hR := RR.1
    have HR := Lib.hid RR
    clear hr
    rcases Nat.eq_zero_or_pos len1 with h0 | h0
    · subst h0
      clear RR
      go_enter Try.func21, Try.ntmps21
      go_wp2_with (go_at_call 25; refine (queue_alive _).mono ?_; rintro e w' ⟨rfl, os, n_, rfl⟩)
      refine (play_any a0 1099511627776 _ 0 _ x _ (by repeat (first | (with_reducible assumption) | (with_reducible exact Row.nil) | (with_reducible apply Row.drewN) | (with_reducible apply Row.drew) | (with_reducible apply Row.more) | (with_reducible apply Row.alloc))) HR.out).mono ?_
      rintro e w1 ⟨av_1, cv_1, al_1, cl_1, aw_1, cw_1, rfl, ⟨hcv_1, hcl_1, hcw_1⟩, ⟨hrv_1, hrl_1, hrw_1⟩, hb_1⟩
      obtain ⟨os_1, d_1, rfl⟩ := More.of_below hb_1
      go_wp2
      go_ret
      exact ⟨rfl, More.below (by repeat (first | (with_reducible assumption) | (with_reducible exact More.refl _) | (with_reducible refine More.alloc ?_ _) | (with_reducible refine More.more ?_ _ _) | (with_reducible refine More.drewN ?_ _) | (with_reducible refine More.drew ?_)))⟩
    · have hz : ((len1 : Int) == 0) = false := by simp; omega
      by_cases hm : 0 < mxOf len1 (quLost a0 1099511627776 x)
      · have hd : decide (0 < mxOf len1 (quLost a0 1099511627776 x)) = true := by simpa using hm
        clear RR hm
        go_enter Try.func21, Try.ntmps21
        go_wp2_with (go_at_call 25; refine (queue_alive _).mono ?_; rintro e w' ⟨rfl, os, n_, rfl⟩)
        refine (play_any a0 1099511627776 _ len1 _ x _ (by repeat (first | (with_reducible assumption) | (with_reducible exact Row.nil) | (with_reducible apply Row.drewN) | (with_reducible apply Row.drew) | (with_reducible apply Row.more) | (with_reducible apply Row.alloc))) HR.out).mono ?_
        rintro e w1 ⟨av_1, cv_1, al_1, cl_1, aw_1, cw_1, rfl, ⟨hcv_1, hcl_1, hcw_1⟩, ⟨hrv_1, hrl_1, hrw_1⟩, hb_1⟩
        obtain ⟨os_1, d_1, rfl⟩ := More.of_below hb_1
        go_wp2_with fail
        refine (max_eq _ len1 _ (quLost a0 1099511627776 x) _ (by repeat (first | (with_reducible assumption) | (with_reducible exact Row.nil) | (with_reducible apply Row.drewN) | (with_reducible apply Row.drew) | (with_reducible apply Row.more) | (with_reducible apply Row.alloc))) (by omega) h0).mono ?_
        rintro e w1 ⟨rfl, rfl⟩
        go_wp2
        go_ret
        exact ⟨rfl, More.below (by repeat (first | (with_reducible assumption) | (with_reducible exact More.refl _) | (with_reducible refine More.alloc ?_ _) | (with_reducible refine More.more ?_ _ _) | (with_reducible refine More.drewN ?_ _) | (with_reducible refine More.drew ?_)))⟩
      · have hd : decide (0 < mxOf len1 (quLost a0 1099511627776 x)) = false := by simpa using hm
        have hl := nolost RR h0 (by omega)
        have hnow := qu_now (n := len1) hR.1 (by omega) (fun k hk => (RR.2.2.2 k hk).1) hl
        have RB : BRight a0 a0 len1 x := ⟨RR.1, RR.1, RR.2.2⟩
        have hW := Small.of (went_small RR)
        have E1 := Lib.hid (eqLit (n := len1 + 1) (m := len1 + 1) (f := ofRow (quWent a0 1099511627776 x)) (g := conv (ofRow x) (lineOf a0 a0)) rfl (fun k hk => by
          rw [hW k (by omega), ← isum_congr k (fun j hj => hnow j (by omega)), ← RB.now.of k (by omega)]
          exact bk_conv RB k hk))
        have E2 := Lib.hid (eqLit (n := len1) (m := len1) (f := quWent a0 1099511627776 x) (g := bkNow a0 a0 x) rfl (fun k hk => (hnow k hk).symm))
        have HB := Lib.hid RB
        have kw : IntKind.i64.wrap ((len1 : Int) + 1) = (len1 : Int) + 1 := IntWalk.i64_in _ (by omega)
        clear RR hm hl hnow RB hW
        go_enter Try.func21, Try.ntmps21
        go_wp2_with (go_at_call 25; refine (queue_alive _).mono ?_; rintro e w' ⟨rfl, os, n_, rfl⟩)
        refine (play_any a0 1099511627776 _ len1 _ x _ (by repeat (first | (with_reducible assumption) | (with_reducible exact Row.nil) | (with_reducible apply Row.drewN) | (with_reducible apply Row.drew) | (with_reducible apply Row.more) | (with_reducible apply Row.alloc))) HR.out).mono ?_
        rintro e w1 ⟨av_1, cv_1, al_1, cl_1, aw_1, cw_1, rfl, ⟨hcv_1, hcl_1, hcw_1⟩, ⟨hrv_1, hrl_1, hrw_1⟩, hb_1⟩
        obtain ⟨os_1, d_1, rfl⟩ := More.of_below hb_1
        go_wp2_with fail
        refine (max_eq _ len1 _ (quLost a0 1099511627776 x) _ (by repeat (first | (with_reducible assumption) | (with_reducible exact Row.nil) | (with_reducible apply Row.drewN) | (with_reducible apply Row.drew) | (with_reducible apply Row.more) | (with_reducible apply Row.alloc))) (by omega) h0).mono ?_
        rintro e w1 ⟨rfl, rfl⟩
        go_wp2_with fail
        have hk2_0 : Blk (((w.more os n_).more os_1 d_1).alloc (.cells #[.int .i64 a0, .int .i64 a0] 35)) (w.heap.size + (os.size + os_1.size)) 35 #[.int .i64 a0, .int .i64 a0] := (by repeat (first | (with_reducible assumption) | ((with_reducible refine Blk.new' ?_); (simp [Nat.add_assoc]; done)) | (with_reducible refine Blk.alloc ?_ _) | (with_reducible refine Blk.more ?_ _ _) | (with_reducible refine Blk.drew ?_) | (with_reducible refine Blk.drewN ?_ _)))
        have hm_2 : More w (((w.more os n_).more os_1 d_1).alloc (.cells #[.int .i64 a0, .int .i64 a0] 35)) := (by repeat (first | (with_reducible assumption) | (with_reducible exact More.refl _) | (with_reducible refine More.alloc ?_ _) | (with_reducible refine More.more ?_ _ _) | (with_reducible refine More.drewN ?_ _) | (with_reducible refine More.drew ?_)))
        have hw2_0 : Row (((w.more os n_).more os_1 d_1).alloc (.cells #[.int .i64 a0, .int .i64 a0] 35)) a1 len1 (x) := (by repeat (first | (with_reducible assumption) | (with_reducible exact Row.nil) | (with_reducible apply Row.drewN) | (with_reducible apply Row.drew) | (with_reducible apply Row.more) | (with_reducible apply Row.alloc)))
        have hw2_1 : Row (((w.more os n_).more os_1 d_1).alloc (.cells #[.int .i64 a0, .int .i64 a0] 35)) av_1 len1 (quWent a0 1099511627776 x) := (by repeat (first | (with_reducible assumption) | (with_reducible exact Row.nil) | (with_reducible apply Row.drewN) | (with_reducible apply Row.drew) | (with_reducible apply Row.more) | (with_reducible apply Row.alloc)))
        have hg2_0 := hk2_0.lt
        have hp2_0 : (((w.more os n_).more os_1 d_1).alloc (.cells #[.int .i64 a0, .int .i64 a0] 35)).cell? ⟨(w.heap.size + (os.size + os_1.size)), 0, none⟩ = some (.int .i64 a0) := hk2_0.cell 0
        have hq2_0 : (((w.more os n_).more os_1 d_1).alloc (.cells #[.int .i64 a0, .int .i64 a0] 35)).cell? ⟨(w.heap.size + (os.size + os_1.size)), 1, none⟩ = some (.int .i64 a0) := hk2_0.cell 1
        generalize (((w.more os n_).more os_1 d_1).alloc (.cells #[.int .i64 a0, .int .i64 a0] 35)) = wb_2 at *
        have keep_2 : ∀ w', More wb_2 w' → w'.cell? ⟨(w.heap.size + (os.size + os_1.size)), 0, none⟩ = some (.int .i64 a0) ∧ w'.cell? ⟨(w.heap.size + (os.size + os_1.size)), 1, none⟩ = some (.int .i64 a0) ∧ More wb_2 w' := fun w' h => ⟨(h.cell hg2_0).trans hp2_0, (h.cell hg2_0).trans hq2_0, h⟩
        first | (go_region_held (fun w' => w'.cell? ⟨(w.heap.size + (os.size + os_1.size)), 0, none⟩ = some (.int .i64 a0) ∧ w'.cell? ⟨(w.heap.size + (os.size + os_1.size)), 1, none⟩ = some (.int .i64 a0) ∧ More wb_2 w') (exact keep_2 _ (by repeat (first | (with_reducible assumption) | (with_reducible exact More.refl _) | (with_reducible refine More.alloc ?_ _) | (with_reducible refine More.more ?_ _ _) | (with_reducible refine More.drewN ?_ _) | (with_reducible refine More.drew ?_)))) (first
            | (go_at_call_of 27 av_1; refine (cof_any _ len1 _ (quWent a0 1099511627776 x) _ (by repeat (first | (with_reducible assumption) | (with_reducible exact Row.nil) | (with_reducible apply Row.drewN) | (with_reducible apply Row.drew) | (with_reducible apply Row.more) | (with_reducible apply Row.alloc))) (by omega)).mono ?_; rintro e w' ⟨a_p, c_p, rfl, hc_p, hr_p, hb_p⟩; obtain ⟨os_p, d_p, rfl⟩ := More.of_below hb_p; clear hb_p; replace hr_p : Row (wb_2.more os_p d_p) a_p (len1 + 1) (ofRow (quWent a0 1099511627776 x)) := hr_p)
            | (go_at_call_of 27 a1; refine (cof_any _ len1 _ (x) _ (by repeat (first | (with_reducible assumption) | (with_reducible exact Row.nil) | (with_reducible apply Row.drewN) | (with_reducible apply Row.drew) | (with_reducible apply Row.more) | (with_reducible apply Row.alloc))) (by omega)).mono ?_; rintro e w' ⟨a_s, c_s, rfl, hc_s, hr_s, hb_s⟩; obtain ⟨os_s, d_s, rfl⟩ := More.of_below hb_s; clear hb_s)
            | (go_at_call_of 50 a0; refine (bline_succ a0 a0 len1 _ hR hR (by omega)).mono ?_; rintro e w' ⟨a_l, c_l, rfl, hc_l, hr_l, hb_l⟩; obtain ⟨os_l, d_l, rfl⟩ := More.of_below hb_l; clear hb_l)
            | (go_at_call_of 44 a_l; refine (conv_any _ _ (len1 + 1) (len1 + 1) _ _ (ofRow x) (lineOf a0 a0) _ (by repeat (first | (with_reducible assumption) | (with_reducible exact Row.nil) | (with_reducible apply Row.drewN) | (with_reducible apply Row.drew) | (with_reducible apply Row.more) | (with_reducible apply Row.alloc))) (by repeat (first | (with_reducible assumption) | (with_reducible exact Row.nil) | (with_reducible apply Row.drewN) | (with_reducible apply Row.drew) | (with_reducible apply Row.more) | (with_reducible apply Row.alloc))) (by omega) (by omega)).mono ?_; rw [Nat.min_self]; rintro e w' ⟨a_c, c_c, rfl, hc_c, hr_c, hb_c⟩; obtain ⟨os_c, d_c, rfl⟩ := More.of_below hb_c; clear hb_c)
            | (go_at_call_of 32 a_p; refine (equal_any _ _ (len1 + 1) (len1 + 1) _ _ (ofRow (quWent a0 1099511627776 x)) (conv (ofRow x) (lineOf a0 a0)) _ (by repeat (first | (with_reducible assumption) | (with_reducible exact Row.nil) | (with_reducible apply Row.drewN) | (with_reducible apply Row.drew) | (with_reducible apply Row.more) | (with_reducible apply Row.alloc))) (by repeat (first | (with_reducible assumption) | (with_reducible exact Row.nil) | (with_reducible apply Row.drewN) | (with_reducible apply Row.drew) | (with_reducible apply Row.more) | (with_reducible apply Row.alloc))) (by omega) (by omega)).mono ?_; rintro e w' ⟨rfl, os_e, d_e, rfl⟩; rw [E1.out])
            | (go_at_call_of 39 a0; refine (bpass_any a0 a0 _ len1 _ x _ (by repeat (first | (with_reducible assumption) | (with_reducible exact Row.nil) | (with_reducible apply Row.drewN) | (with_reducible apply Row.drew) | (with_reducible apply Row.more) | (with_reducible apply Row.alloc))) HB.out).mono ?_; rintro e w' ⟨a_b, c_b, rfl, hc_b, hr_b, hb_b⟩; obtain ⟨os_b, d_b, rfl⟩ := More.of_below hb_b; clear hb_b)
            | (go_at_call_of 32 av_1; refine (equal_any _ _ len1 len1 _ _ (quWent a0 1099511627776 x) (bkNow a0 a0 x) _ (by repeat (first | (with_reducible assumption) | (with_reducible exact Row.nil) | (with_reducible apply Row.drewN) | (with_reducible apply Row.drew) | (with_reducible apply Row.more) | (with_reducible apply Row.alloc))) (by repeat (first | (with_reducible assumption) | (with_reducible exact Row.nil) | (with_reducible apply Row.drewN) | (with_reducible apply Row.drew) | (with_reducible apply Row.more) | (with_reducible apply Row.alloc))) (by omega) (by omega)).mono ?_; rintro e w' ⟨rfl, os_f, d_f, rfl⟩; rw [E2.out]))) | fail
        all_goals
          go_wp2
          go_ret
          exact ⟨rfl, More.below (by repeat (first | (with_reducible assumption) | (with_reducible exact More.refl _) | (with_reducible refine More.alloc ?_ _) | (with_reducible refine More.more ?_ _ _) | (with_reducible refine More.drewN ?_ _) | (with_reducible refine More.drew ?_)))⟩
  · have hr' : bRight a0 1099511627776 len1 x = false := by simpa using hr
    have E0 := Lib.hid hr'
    clear hr hr'
    go_enter Try.func21, Try.ntmps21
    go_wp2_with (go_at_call 25; refine (queue_alive _).mono ?_; rintro e w' ⟨rfl, os, n_, rfl⟩)
    refine (play_none a0 1099511627776 _ len1 _ x _ (by repeat (first | (with_reducible assumption) | (with_reducible exact Row.nil) | (with_reducible apply Row.drewN) | (with_reducible apply Row.drew) | (with_reducible apply Row.more) | (with_reducible apply Row.alloc))) (by omega) E0.out).mono ?_
    rintro e w1 ⟨rfl, os_1, d_1, rfl⟩
    go_wp2
    go_ret
    exact ⟨rfl, More.below (by repeat (first | (with_reducible assumption) | (with_reducible exact More.refl _) | (with_reducible refine More.alloc ?_ _) | (with_reducible refine More.more ?_ _ _) | (with_reducible refine More.drewN ?_ _) | (with_reducible refine More.drew ?_)))⟩
end Go.Proofs.Ytdilmnpoicdkhaa
