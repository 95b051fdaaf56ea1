/- slices.Equal at []int, by the draws that it makes. Conditions: lengths that fit. -/
import Derived.Test.YtmlkebemkibipaaSlEqual
set_option linter.unusedVariables false
set_option linter.unusedSimpArgs false
namespace Go.Proofs.Ytmlkebemkibipaa
open Go.RowKit Go.Tide
set_option linter.unusedVariables false
set_option linter.unusedSimpArgs false

set_option maxHeartbeats 400000 in
theorem equal_d (a b : Option Addr) (n m ca cb : Nat) (f g : Nat → Int) (w : World) (hf : Row w a n f) (hg : Row w b m g) (hn : n ≤ 1152921504606846976) (hm : m ≤ 1152921504606846976) :
    Calls Try.prog 14 #[.slice a n ca, .slice b m cb] w fun e w' => e = .returned (.bool (eqRows n m f g)) ∧ ∃ d, w' = w.drewN d := by
  by_cases hnm : n = m
  · subst hnm
    go_enter Try.func14, Try.ntmps14
    go_wp2
    go_loopw [13] (fun i wr => ∃ (k d : Nat), i = .int .i64 k ∧ k ≤ n ∧ wr = w.drewN d ∧ ∀ j, j < k → f j = g j) (fun i _ => n - (intOf i).toNat)
    case atStart => exact ⟨0, 0, rfl, Nat.zero_le _, rfl, fun j hj => absurd hj (by omega)⟩
    case round =>
      obtain ⟨k, d, rfl, hk, rfl, hq⟩ := hrel
      have HQ := Lib.hid hq
      clear hq
      by_cases hlt : k < n
      · obtain ⟨b1, o1, x, rfl, hb1, hc1, hx⟩ := hf.at_ hlt
        obtain ⟨b2, o2, y, rfl, hb2, hc2, hy⟩ := hg.at_ hlt
        by_cases hxy : x = y
        · have hne : (x != y) = false := by simp [hxy]
          have HXY := Lib.hid hxy
          clear hxy
          go_wp2
          go_quiet (fail)
          go_wp2
          go_roundw
          case rel =>
            refine ⟨k + 1, _, by go_num, by omega, rfl, fun j hj => ?_⟩
            rcases Nat.lt_succ_iff_lt_or_eq.1 hj with h | h
            · exact HQ.out j h
            · subst h
              rw [← hx.out, ← hy.out]
              exact HXY.out
          case measure => simp [intOf]; omega
        · have hne : (x != y) = true := by simp [hxy]
          go_wp2
          go_quiet (fail)
          go_wp2
          go_ret
          refine ⟨ret_bool (eqRows_false fun h => hxy ?_).symm, d + nq, by simp [World.drewN, Nat.add_assoc]⟩
          rw [hx.out, hy.out]
          exact h.2 k hlt
      · go_wp2
        go_ret
        exact ⟨ret_bool (eqRows_true ⟨rfl, fun j hj => HQ.out j (by omega)⟩).symm, _, rfl⟩
  · have hne : ((n : Int) != (m : Int)) = true := by simp; omega
    go_enter Try.func14, Try.ntmps14
    go_wp2
    go_ret
    exact ⟨ret_bool (eqRows_false fun h => hnm h.1).symm, 0, rfl⟩
end Go.Proofs.Ytmlkebemkibipaa
