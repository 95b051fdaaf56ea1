/- LinkFair: for every input the law returns true. Conditions: none. -/
import Derived.Test.YtjmialpjgaddaaaLinkSums
set_option linter.unusedVariables false
set_option linter.unusedSimpArgs false
namespace Go.Tide
theorem lcnt_fair {n p : Nat} (h : p ≤ n + n) : lcnt0 0 0 n n p = (p + 1) / 2 ∧ lcnt1 0 0 n n p = p / 2 := by
  unfold lcnt0 lcnt1 lalt
  omega
theorem lpass_fair {rate room n k c0 c1 l0 l1 x0 x1 : Nat} (h : lpass rate room 0 0 n n = ⟨k, c0, c1, l0, l1, x0, x1⟩) :
    c1 ≤ c0 ∧ c0 ≤ c1 + 1 ∧ x0 ≤ x1 ∧ x1 ≤ x0 + 1 ∧ l0 ≤ l1 + 1 ∧ l1 ≤ l0 + 1 := by
  rw [lpass_eq] at h
  injection h with h1 h2 h3 h4 h5 h6 h7
  have s1 := lcnt_fair (show min (0 + 0 + n + n) rate ≤ n + n by omega)
  have s2 := lcnt_fair (show min (0 + 0 + n + n) (rate + room) ≤ n + n by omega)
  rw [s1.1] at h2 h4
  rw [s1.2] at h3 h5
  rw [s2.1] at h4 h6
  rw [s2.2] at h5 h7
  omega
theorem sq_le {K : Int} (h : -1 ≤ K ∧ K ≤ 1) : IntKind.i64.wrap (K * K) = K * K ∧ K * K ≤ 1 := by
  rcases (show K = -1 ∨ K = 0 ∨ K = 1 by omega) with rfl | rfl | rfl <;> decide
end Go.Tide
namespace Go.Proofs.Ytjmialpjgaddaaa
open Go.RowKit Go.Tide
set_option linter.unusedVariables false
set_option linter.unusedSimpArgs false
set_option maxRecDepth 20000 in
set_option maxHeartbeats 4000000 in
theorem linkFair_walk (a0 : Int) (a1 : Int) (a2 : Int) (w : World) (b0 : InI64 a0) (b1 : InI64 a1) (b2 : InI64 a2) :
    Calls Try.prog 4 #[.int .i64 a0, .int .i64 a1, .int .i64 a2] w fun e w' => e = .returned (.bool true) ∧ Below w.heap.size w w' := by
  by_cases hR : LRight a0 a1 0 0 a2 a2
  · have HR := Lib.hid hR
    obtain ⟨q1, q2, q3, q4, q5, q6, q7, q8, q9, q10, q11⟩ := hR
    obtain ⟨rate, rfl⟩ : ∃ n : Nat, a0 = n := ⟨a0.toNat, by omega⟩
    obtain ⟨room, rfl⟩ : ∃ n : Nat, a1 = n := ⟨a1.toNat, by omega⟩
    obtain ⟨n, rfl⟩ : ∃ n : Nat, a2 = n := ⟨a2.toNat, by omega⟩
    obtain ⟨s, hs⟩ : ∃ s, Hid (lpass rate room 0 0 n n = s) := ⟨_, rfl⟩
    obtain ⟨k, c0, c1, l0, l1, x0, x1⟩ := s
    obtain ⟨p1, p2, p3, p4, p5⟩ := lpass_sums hs.out
    obtain ⟨y1, y2, y3, y4, y5, y6⟩ := lpass_fair hs.out
    obtain ⟨e1, u0, g1, g2⟩ : ∃ e, IntKind.i64.wrap ((c0 : Int) - c1) = e ∧ decide (0 ≤ e) = true ∧ decide (e ≤ 1) = true := ⟨_, rfl, by rw [IntWalk.i64_in _ (by omega)]; simp; omega, by rw [IntWalk.i64_in _ (by omega)]; simp; omega⟩
    obtain ⟨e2, u1, g3, g4⟩ : ∃ e, IntKind.i64.wrap ((x1 : Int) - x0) = e ∧ decide (0 ≤ e) = true ∧ decide (e ≤ 1) = true := ⟨_, rfl, by rw [IntWalk.i64_in _ (by omega)]; simp; omega, by rw [IntWalk.i64_in _ (by omega)]; simp; omega⟩
    obtain ⟨e3, u2, g5⟩ : ∃ e, IntKind.i64.wrap ((l0 : Int) - l1) = e ∧ (-1 ≤ e ∧ e ≤ 1) := ⟨_, rfl, by rw [IntWalk.i64_in _ (by omega)]; omega⟩
    obtain ⟨u3, u4⟩ := sq_le g5
    have g6 : decide (e3 * e3 ≤ 1) = true := by simpa using u4
    clear p1 p2 p3 p4 p5 y1 y2 y3 y4 y5 y6 q1 q2 q3 q4 q5 q6 q7 q8 q9 q10 q11 b0 b1 b2 u4 g5
    go_enter Try.func4, Try.ntmps4
    go_wp2_with (first | (go_at_call 10; refine (link_alive _).mono ?_; rintro e w' ⟨rfl, os0, d0, rfl⟩) | (go_at_call 11; refine (pass_good rate room 0 0 n n _ HR.out _ hs).mono ?_; rintro e w' ⟨rfl, os1, d1, rfl⟩))
    go_quiet (fail)
    go_wp2
    go_ret
    exact ⟨rfl, (More.below (by repeat (first | (with_reducible assumption) | (with_reducible exact More.refl _) | (with_reducible refine More.alloc ?_ _) | (with_reducible refine More.more ?_ _ _) | (with_reducible refine More.drewN ?_ _) | (with_reducible refine More.drew ?_))))⟩
  · have HR := Lib.hid hR
    clear hR
    go_enter Try.func4, Try.ntmps4
    go_wp2_with (first | (go_at_call 10; refine (link_alive _).mono ?_; rintro e w' ⟨rfl, os0, d0, rfl⟩) | (go_at_call 11; refine (pass_bad a0 a1 0 0 a2 a2 _ ⟨by omega, by omega⟩ ⟨by omega, by omega⟩ HR.out).mono ?_; rintro e w' ⟨rfl, os1, d1, rfl⟩))
    go_ret
    exact ⟨rfl, (More.below (by repeat (first | (with_reducible assumption) | (with_reducible exact More.refl _) | (with_reducible refine More.alloc ?_ _) | (with_reducible refine More.more ?_ _ _) | (with_reducible refine More.drewN ?_ _) | (with_reducible refine More.drew ?_))))⟩
end Go.Proofs.Ytjmialpjgaddaaa
