/- BucketKeeps, BucketGreedy, BucketConv, BucketTwice, BucketLine: for every input the laws return true. Conditions: none. -/
import Derived.Test.YtdilmnpoicdkhaaBkKeeps
import Derived.Test.YtdilmnpoicdkhaaMp
import Derived.Test.YtdilmnpoicdkhaaIsFlat
set_option linter.unusedVariables false
set_option linter.unusedSimpArgs false
namespace Go.Tide
theorem kept_yes : BKept 2 3 3 (rowOf [3, 2, 2]) := by
  intro s d h
  have h1 : ∀ s, s < 4 → ∀ d, d < 4 → s + d ≤ 3 → isum (rowOf [3, 2, 2]) (s + d) ≤ isum (rowOf [3, 2, 2]) s + lineOf 2 3 d := by decide +kernel
  exact h1 s (by omega) d (by omega) h
theorem kept_no : ¬ BKept 2 3 2 (rowOf [3, 3]) := by
  intro h
  have := h 0 2 (by omega)
  revert this
  decide +kernel
theorem small_lit {n : Nat} {x : Nat → Int} (hn : n < 300) (h : ∀ k, k < n → 0 ≤ x k ∧ x k ≤ 1099511627776) : Small n x := ⟨hn, h⟩
theorem BRight.of {r B : Int} {n : Nat} {x : Nat → Int} (h : BRight r B n x) : ∀ k, k ≤ n → ofRow x k = isum x k := h.2.2.of
theorem BRight.kept {r B : Int} {n : Nat} {x : Nat → Int} (h : BRight r B n x) : BKept r B n (bkNow r B x) := fun s d hd => bk_keeps h.1.1 h.2.1.1 (fun k hk => (h.2.2.2 k hk).1) s d hd
theorem BKept.congr {r B : Int} {n : Nat} {x y : Nat → Int} (h : BKept r B n x) (e : ∀ k, k < n → x k = y k) : BKept r B n y := by
  intro s d hd
  rw [← isum_congr (s + d) (fun k hk => e k (by omega)), ← isum_congr s (fun k hk => e k (by omega))]
  exact h s d hd
/-- Sums that are nowhere above, as curves. -/
theorem within_sums {r B r' B' : Int} {n : Nat} {x y : Nat → Int} (hx : BRight r B n x) (hy : BRight r' B' n y) (h : ∀ t, t ≤ n → isum x t ≤ isum y t) : CWithin (n + 1) (n + 1) (ofRow x) (ofRow y) := by
  intro t ht _
  rw [hx.of t (by omega), hy.of t (by omega)]
  exact fit_mono (h t (by omega))
theorem sums_within {r B r' B' : Int} {n : Nat} {x y : Nat → Int} (hx : BRight r B n x) (hy : BRight r' B' n y) (h : CWithin (n + 1) (n + 1) (ofRow x) (ofRow y)) : ∀ t, t ≤ n → isum x t ≤ isum y t := by
  intro t ht
  have h1 := h t (by omega) (by omega)
  have h2 := hx.2.2.sum t ht
  have h3 := hy.2.2.sum t ht
  rwa [hx.of t ht, hy.of t ht, fit_of h2.1 (by omega), fit_of h3.1 (by omega)] at h1
theorem bk_equal {r B : Int} {n : Nat} {x : Nat → Int} (h : BRight r B n x) : eqRows n n (bkNow r B x) x = bKept r B n x := by
  rw [Bool.eq_iff_iff, eqRows_iff, bKept_iff]
  constructor
  · rintro ⟨_, e⟩
    exact h.kept.congr e
  · intro hk
    exact ⟨rfl, bk_at_once h.1.1 h.2.1.1 (fun k hk => (h.2.2.2 k hk).1) hk⟩
theorem bk_conv {r B : Int} {n : Nat} {x : Nat → Int} (h : BRight r B n x) : ∀ t, t < n + 1 → ofRow (bkNow r B x) t = conv (ofRow x) (lineOf r B) t := by
  intro t ht
  have hn := h.now
  have hx := fun k hk => (h.2.2.2 k hk).1
  rw [hn.of t (by omega)]
  have hp : ∀ s d, s + d ≤ n → plus (ofRow x s) (lineOf r B d) = isum x s + lineOf r B d := by
    intro s d hd
    have h1 := h.2.2.sum s (by omega)
    have h2 := line_bounds h.1.1 h.2.1.1 h.2.1.2 d (by have := h.2.2.1; omega)
    rw [h.of s (by omega)]
    unfold plus
    rw [fit_of (a := isum x s) (by omega) (by omega), fit_of (a := lineOf r B d) (by omega) (by omega)]
    omega
  refine Int.le_antisymm ?_ ?_
  · obtain ⟨s, d, e1, e2⟩ := conv_at (ofRow x) (lineOf r B) t
    subst e1
    rw [e2, hp s d (by omega)]
    exact bk_out_le h.1.1 h.2.1.1 hx s d (by omega)
  · obtain ⟨s, d, e1, e2⟩ := bk_out_at h.1.1 h.2.1.1 hx t (by omega)
    subst e1
    rw [e2, ← hp s d (by omega)]
    exact conv_le' _ _ s d
theorem line_sorted {r B : Int} (hr : 0 ≤ r) (hB : 0 ≤ B) (n : Nat) : Sorted n (lineOf r B) := fun k _ => line_rises hr hB k
theorem line_Parts {r B : Int} (hr : 0 ≤ r) (hB : 0 ≤ B ∧ B ≤ 1099511627776) {n : Nat} (hn : n ≤ 300) : Parts n (lineOf r B) := Parts.of (show fit 0 = 0 by decide) fun s d hd => by
  have h1 := line_bounds hr hB.1 hB.2 s (by omega)
  have h2 := line_bounds hr hB.1 hB.2 d (by omega)
  have h3 := line_bounds hr hB.1 hB.2 (s + d) (by omega)
  have h4 := line_parts hr hB.1 s d
  unfold plus
  rw [fit_of h1.1 (by omega), fit_of h2.1 (by omega), fit_of h3.1 (by omega)]
  omega
end Go.Tide
namespace Go.Proofs.Ytdilmnpoicdkhaa
open Go.RowKit Go.Tide
set_option linter.unusedVariables false
set_option linter.unusedSimpArgs false

set_option maxHeartbeats 1000000 in
theorem bucket_alive (w : World) : Calls Try.prog 37 #[] w fun e w' => e = .returned (.bool true) ∧ More w w' := by
  have R1 : BRight 2 3 5 (rowOf [9, 0, 0, 0, 0]) := ⟨by omega, by omega, small_lit (by omega) (by decide +kernel)⟩
  have R2 : BRight 2 3 3 (rowOf [3, 2, 2]) := ⟨by omega, by omega, small_lit (by omega) (by decide +kernel)⟩
  have R3 : BRight 2 3 2 (rowOf [3, 3]) := ⟨by omega, by omega, small_lit (by omega) (by decide +kernel)⟩
  have E1 := Lib.hid (eqLit (n := 4) (m := 4) (f := lineOf 2 3) (g := rowOf [0, 3, 5, 7]) rfl (by decide +kernel))
  have E2 := Lib.hid (eqLit (n := 5) (m := 5) (f := bkNow 2 3 (rowOf [9, 0, 0, 0, 0])) (g := rowOf [3, 2, 2, 2, 0]) rfl (by decide +kernel))
  have E3 := Lib.hid (bKept_true kept_yes)
  have E4 := Lib.hid (bKept_false kept_no)
  have E5 := Lib.hid (bRight_iff.2 (⟨⟨by omega, by omega⟩, ⟨by omega, by omega⟩, Small.nil _⟩ : BRight 2 3 0 (fun _ => 0)))
  go_enter Try.func37, Try.ntmps37
  go_wp2_with fail
  refine (bline_any 2 3 4 _ (by omega) (by omega) (by omega)).mono ?_
  rintro e w1 ⟨a_1, c_1, rfl, hc_1, hr_1, hb_1⟩
  obtain ⟨os_1, d_1, rfl⟩ := More.of_below hb_1
  go_wp2_with fail
  refine (equal_any _ _ 4 4 _ _ _ _ _ (by repeat (first | (with_reducible assumption) | (with_reducible exact Row.nil) | (with_reducible apply Row.drewN) | (with_reducible apply Row.drew) | (with_reducible apply Row.more) | (with_reducible apply Row.alloc))) (by repeat (first | (with_reducible apply Row.drewN) | (with_reducible apply Row.more) | (refine Row.litR [0, 3, 5, 7] (by simp [Nat.add_assoc]; done) (by rfl) (by rfl)) | (with_reducible apply Row.alloc))) (by omega) (by omega)).mono ?_
  rintro e w1 ⟨rfl, os_2, d_2, rfl⟩
  rw [E1.out]
  go_wp2_with fail
  refine (bpass_any 2 3 _ 5 _ _ _ (by repeat (first | (with_reducible apply Row.drewN) | (with_reducible apply Row.more) | (refine Row.litR [9, 0, 0, 0, 0] (by simp [Nat.add_assoc]; done) (by rfl) (by rfl)) | (with_reducible apply Row.alloc))) R1).mono ?_
  rintro e w1 ⟨a_3, c_3, rfl, hc_3, hr_3, hb_3⟩
  obtain ⟨os_3, d_3, rfl⟩ := More.of_below hb_3
  go_wp2_with fail
  refine (equal_any _ _ 5 5 _ _ _ _ _ (by repeat (first | (with_reducible assumption) | (with_reducible exact Row.nil) | (with_reducible apply Row.drewN) | (with_reducible apply Row.drew) | (with_reducible apply Row.more) | (with_reducible apply Row.alloc))) (by repeat (first | (with_reducible apply Row.drewN) | (with_reducible apply Row.more) | (refine Row.litR [3, 2, 2, 2, 0] (by simp [Nat.add_assoc]; done) (by rfl) (by rfl)) | (with_reducible apply Row.alloc))) (by omega) (by omega)).mono ?_
  rintro e w1 ⟨rfl, os_4, d_4, rfl⟩
  rw [E2.out]
  go_wp2_with fail
  refine (bkeeps_any 2 3 _ 3 _ _ _ (by repeat (first | (with_reducible apply Row.drewN) | (with_reducible apply Row.more) | (refine Row.litR [3, 2, 2] (by simp [Nat.add_assoc]; done) (by rfl) (by rfl)) | (with_reducible apply Row.alloc))) R2).mono ?_
  rintro e w1 ⟨rfl, os_5, d_5, rfl⟩
  rw [E3.out]
  go_wp2_with fail
  refine (bkeeps_any 2 3 _ 2 _ _ _ (by repeat (first | (with_reducible apply Row.drewN) | (with_reducible apply Row.more) | (refine Row.litR [3, 3] (by simp [Nat.add_assoc]; done) (by rfl) (by rfl)) | (with_reducible apply Row.alloc))) R3).mono ?_
  rintro e w1 ⟨rfl, os_6, d_6, rfl⟩
  rw [E4.out]
  go_wp2_with fail
  refine (bright_any 2 3 none 0 0 (fun _ => 0) _ Row.nil (by omega)).mono ?_
  rintro e w1 ⟨rfl, os_7, d_7, rfl⟩
  rw [E5.out]
  go_wp2
  go_ret
  exact ⟨rfl, (by repeat (first | (with_reducible exact More.refl _) | (with_reducible refine More.alloc ?_ _) | (with_reducible refine More.more ?_ _ _) | (with_reducible refine More.drewN ?_ _) | (with_reducible refine More.drew ?_)))⟩

end Go.Proofs.Ytdilmnpoicdkhaa
