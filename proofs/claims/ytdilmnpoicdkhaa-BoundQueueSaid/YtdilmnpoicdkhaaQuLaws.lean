/- What all laws of queues use: alive7, the greatest of a row. Conditions: none. -/
import Derived.Test.YtdilmnpoicdkhaaDelays
import Derived.Test.YtdilmnpoicdkhaaSlMax
import Derived.Test.YtdilmnpoicdkhaaIsFlat
import Derived.Test.YtdilmnpoicdkhaaBkLaws
set_option linter.unusedVariables false
set_option linter.unusedSimpArgs false
namespace Go.Tide
noncomputable def mxOf (n : Nat) (f : Nat → Int) : Int := @dite _ (∃ m, IsMax n f m) (Classical.propDecidable _) (fun h => h.choose) (fun _ => 0)
theorem mxOf_eq {n : Nat} {f : Nat → Int} {m : Int} (h : IsMax n f m) : m = mxOf n f := by
  have hex : ∃ m, IsMax n f m := ⟨m, h⟩
  unfold mxOf
  rw [dif_pos hex]
  have h2 := hex.choose_spec
  generalize hex.choose = c at *
  obtain ⟨⟨k, a1, a2⟩, a3⟩ := h
  obtain ⟨⟨j, b1, b2⟩, b3⟩ := h2
  have := a3 j b1
  have := b3 k a1
  omega
theorem isMax_ex {f : Nat → Int} {n : Nat} (h0 : 0 < n) : ∃ m, IsMax n f m := by
  induction n with
  | zero => omega
  | succ n ih =>
    by_cases hn : 0 < n
    · obtain ⟨m, ⟨k, a1, a2⟩, a3⟩ := ih hn
      by_cases hc : m ≤ f n
      · refine ⟨f n, ⟨n, by omega, rfl⟩, fun j hj => ?_⟩
        rcases Nat.lt_succ_iff_lt_or_eq.1 hj with h | h
        · have := a3 j h; omega
        · subst h; omega
      · refine ⟨m, ⟨k, by omega, a2⟩, fun j hj => ?_⟩
        rcases Nat.lt_succ_iff_lt_or_eq.1 hj with h | h
        · exact a3 j h
        · subst h; omega
    · obtain rfl : n = 0 := by omega
      exact ⟨f 0, ⟨0, by omega, rfl⟩, fun j hj => by obtain rfl : j = 0 := by omega
                                                     exact Int.le_refl _⟩
theorem mxOf_le {n : Nat} {f : Nat → Int} (h0 : 0 < n) : ∀ k, k < n → f k ≤ mxOf n f := by
  obtain ⟨m, hm⟩ := isMax_ex (f := f) h0
  rw [← mxOf_eq hm]
  exact hm.2
theorem nolost {R M : Int} {n : Nat} {x : Nat → Int} (h : BRight R M n x) (h0 : 0 < n) (hm : mxOf n (quLost R M x) ≤ 0) : ∀ k, k < n → quLost R M x k = 0 := by
  intro k hk
  have h1 := mxOf_le (f := quLost R M x) h0 k hk
  have h2 := qu_bounds h.1.1 h.2.1.1 (fun k hk => (h.2.2.2 k hk).1) k hk
  omega
theorem alive7_delays : ∀ k, k < 3 → delayOf 3 (isum (rowOf [3, 0, 5])) (isum (quWent 2 1099511627776 (rowOf [3, 0, 5]))) k = rowOf [1, 0, -1] k := by
  intro k hk
  match k, hk with
  | 0, _ =>
    rw [delay_at (d := 2) ⟨by omega, by omega, by decide +kernel, fun j h1 h2 => by obtain rfl : j = 1 := by omega
                                                                                    decide +kernel⟩]
    decide +kernel
  | 1, _ =>
    rw [delay_at (d := 2) ⟨by omega, by omega, by decide +kernel, fun j h1 h2 => by omega⟩]
    decide +kernel
  | 2, _ =>
    rw [delay_none fun d h1 h2 => by obtain rfl : d = 3 := by omega
                                     decide +kernel]
    decide +kernel
end Go.Tide
namespace Go.Proofs.Ytdilmnpoicdkhaa
open Go.RowKit Go.Tide
set_option linter.unusedVariables false
set_option linter.unusedSimpArgs false

theorem max_eq (a : Option Addr) (n c : Nat) (f : Nat → Int) (w : World) (hf : Row w a n f) (hn : n ≤ 1152921504606846976) (h0 : 0 < n) :
    Calls Try.prog 47 #[.slice a n c] w fun e w' => e = .returned (.int .i64 (mxOf n f)) ∧ w = w' :=
  (max_any a n c f w hf hn h0).mono fun e w' ⟨m, he, hm, hw⟩ => ⟨by rw [he, mxOf_eq hm], hw⟩

set_option maxHeartbeats 1000000 in
theorem queue_alive (w : World) : Calls Try.prog 25 #[] w fun e w' => e = .returned (.bool true) ∧ More w w' := by
  have R1 : BRight 2 3 3 (rowOf [7, 0, 1]) := ⟨by omega, by omega, small_lit (by omega) (by decide +kernel)⟩
  have R2 : BRight 2 1099511627776 3 (rowOf [3, 0, 5]) := ⟨by omega, by omega, small_lit (by omega) (by decide +kernel)⟩
  have E1 := Lib.hid (eqLit (n := 3) (m := 3) (f := quWent 2 3 (rowOf [7, 0, 1])) (g := rowOf [2, 2, 2]) rfl (by decide +kernel))
  have E2 := Lib.hid (eqLit (n := 3) (m := 3) (f := quLost 2 3 (rowOf [7, 0, 1])) (g := rowOf [2, 0, 0]) rfl (by decide +kernel))
  have E3 := Lib.hid (eqLit (n := 3) (m := 3) (f := fun k => quWait 2 3 (rowOf [7, 0, 1]) (k + 1)) (g := rowOf [3, 1, 0]) rfl (by decide +kernel))
  have E4 := Lib.hid (eqLit (n := 3) (m := 3) rfl alive7_delays)
  have H1 := Lib.hid R1
  have H2 := Lib.hid R2
  clear R1 R2
  go_enter Try.func25, Try.ntmps25
  go_wp2_with fail
  refine (play_any 2 3 _ 3 _ _ _ (by repeat (first | (with_reducible apply Row.drewN) | (with_reducible apply Row.more) | (refine Row.litR [7, 0, 1] (by simp [Nat.add_assoc]; done) (by rfl) (by rfl)) | (with_reducible apply Row.alloc))) H1.out).mono ?_
  rintro e w1 ⟨av_1, cv_1, al_1, cl_1, aw_1, cw_1, rfl, ⟨hcv_1, hcl_1, hcw_1⟩, ⟨hrv_1, hrl_1, hrw_1⟩, hb_1⟩
  obtain ⟨os_1, d_1, rfl⟩ := More.of_below hb_1
  go_wp2_with fail
  refine (equal_any _ _ 3 3 _ _ _ _ _ (by repeat (first | (with_reducible assumption) | (with_reducible exact Row.nil) | (with_reducible apply Row.drewN) | (with_reducible apply Row.drew) | (with_reducible apply Row.more) | (with_reducible apply Row.alloc))) (by repeat (first | (with_reducible apply Row.drewN) | (with_reducible apply Row.more) | (refine Row.litR [2, 2, 2] (by simp [Nat.add_assoc]; done) (by rfl) (by rfl)) | (with_reducible apply Row.alloc))) (by omega) (by omega)).mono ?_
  rintro e w1 ⟨rfl, os_2, d_2, rfl⟩
  rw [E1.out]
  go_wp2_with fail
  refine (equal_any _ _ 3 3 _ _ _ _ _ (by repeat (first | (with_reducible assumption) | (with_reducible exact Row.nil) | (with_reducible apply Row.drewN) | (with_reducible apply Row.drew) | (with_reducible apply Row.more) | (with_reducible apply Row.alloc))) (by repeat (first | (with_reducible apply Row.drewN) | (with_reducible apply Row.more) | (refine Row.litR [2, 0, 0] (by simp [Nat.add_assoc]; done) (by rfl) (by rfl)) | (with_reducible apply Row.alloc))) (by omega) (by omega)).mono ?_
  rintro e w1 ⟨rfl, os_3, d_3, rfl⟩
  rw [E2.out]
  go_wp2_with fail
  refine (equal_any _ _ 3 3 _ _ _ _ _ (by repeat (first | (with_reducible assumption) | (with_reducible exact Row.nil) | (with_reducible apply Row.drewN) | (with_reducible apply Row.drew) | (with_reducible apply Row.more) | (with_reducible apply Row.alloc))) (by repeat (first | (with_reducible apply Row.drewN) | (with_reducible apply Row.more) | (refine Row.litR [3, 1, 0] (by simp [Nat.add_assoc]; done) (by rfl) (by rfl)) | (with_reducible apply Row.alloc))) (by omega) (by omega)).mono ?_
  rintro e w1 ⟨rfl, os_4, d_4, rfl⟩
  rw [E3.out]
  go_wp2_with fail
  refine (delays_any 2 _ 3 _ _ _ (by repeat (first | (with_reducible apply Row.drewN) | (with_reducible apply Row.more) | (refine Row.litR [3, 0, 5] (by simp [Nat.add_assoc]; done) (by rfl) (by rfl)) | (with_reducible apply Row.alloc))) H2.out).mono ?_
  rintro e w1 ⟨a_5, c_5, rfl, hc_5, hr_5, hb_5⟩
  obtain ⟨os_5, d_5, rfl⟩ := More.of_below hb_5
  go_wp2_with fail
  refine (equal_any _ _ 3 3 _ _ _ _ _ (by repeat (first | (with_reducible assumption) | (with_reducible exact Row.nil) | (with_reducible apply Row.drewN) | (with_reducible apply Row.drew) | (with_reducible apply Row.more) | (with_reducible apply Row.alloc))) (by repeat (first | (with_reducible apply Row.drewN) | (with_reducible apply Row.more) | (refine Row.litR [1, 0, -1] (by simp [Nat.add_assoc]; done) (by rfl) (by rfl)) | (with_reducible apply Row.alloc))) (by omega) (by omega)).mono ?_
  rintro e w1 ⟨rfl, os_6, d_6, rfl⟩
  rw [E4.out]
  go_wp2
  go_ret
  exact ⟨rfl, (by repeat (first | (with_reducible assumption) | (with_reducible exact More.refl _) | (with_reducible refine More.alloc ?_ _) | (with_reducible refine More.more ?_ _ _) | (with_reducible refine More.drewN ?_ _) | (with_reducible refine More.drew ?_)))⟩
end Go.Proofs.Ytdilmnpoicdkhaa
