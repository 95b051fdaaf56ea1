/- slices.Equal at []int: whether both have the same numbers, for every input. Conditions: lengths that fit. -/
import Derived.Test.YtgmljgcmfooniaaGreatDoorProg
import Derived.Test.YtgmljgcmfooniaaGreatDoorKit
set_option linter.unusedVariables false
set_option linter.unusedSimpArgs false
namespace Go.Tide
/-- Two rows of numbers are one: as long, and the same at each place. -/
def EqRows (n m : Nat) (f g : Nat → Int) : Prop := n = m ∧ ∀ k, k < n → f k = g k
noncomputable def eqRows (n m : Nat) (f g : Nat → Int) : Bool := @decide (EqRows n m f g) (Classical.propDecidable _)
theorem eqRows_true {n m : Nat} {f g : Nat → Int} (h : EqRows n m f g) : eqRows n m f g = true := by simp [eqRows, h]
theorem eqRows_false {n m : Nat} {f g : Nat → Int} (h : ¬ EqRows n m f g) : eqRows n m f g = false := by simp [eqRows, h]
theorem eqRows_iff {n m : Nat} {f g : Nat → Int} : eqRows n m f g = true ↔ EqRows n m f g := by simp [eqRows]
end Go.Tide
namespace Go.Proofs.YtgmljgcmfooniaaGreatDoor
open Go.RowKit Go.Tide
set_option linter.unusedVariables false
set_option linter.unusedSimpArgs false

set_option maxHeartbeats 400000 in
theorem equal_any (a b : Option Addr) (n m ca cb : Nat) (f g : Nat → Int) (w : World) (hf : Row w a n f) (hg : Row w b m g) (hn : n ≤ 1152921504606846976) (hm : m ≤ 1152921504606846976) :
    Calls Tryz.prog 19 #[.slice a n ca, .slice b m cb] w fun e w' => e = .returned (.bool (eqRows n m f g)) ∧ More w w' := by
  by_cases hnm : n = m
  · subst hnm
    go_enter Tryz.func19, Tryz.ntmps19
    go_wp2
    go_loopw [13] (fun i wr => ∃ (k d : Nat), i = .int .i64 k ∧ k ≤ n ∧ wr = w.drewN d ∧ ∀ j, j < k → f j = g j) (fun i _ => n - (intOf i).toNat)
    case atStart => exact ⟨0, 0, rfl, Nat.zero_le _, rfl, fun j hj => absurd hj (by omega)⟩
    case round =>
      obtain ⟨k, d, rfl, hk, rfl, hq⟩ := hrel
      have HQ := Lib.hid hq
      clear hq
      by_cases hlt : k < n
      · obtain ⟨b1, o1, x, rfl, hb1, hc1, hx⟩ := hf.at_ hlt
        obtain ⟨b2, o2, y, rfl, hb2, hc2, hy⟩ := hg.at_ hlt
        by_cases hxy : x = y
        · have hne : (x != y) = false := by simp [hxy]
          have HXY := Lib.hid hxy
          clear hxy
          go_wp2
          go_quiet (fail)
          go_wp2
          go_roundw
          case rel =>
            refine ⟨k + 1, _, by go_num, by omega, rfl, fun j hj => ?_⟩
            rcases Nat.lt_succ_iff_lt_or_eq.1 hj with h | h
            · exact HQ.out j h
            · subst h
              rw [← hx.out, ← hy.out]
              exact HXY.out
          case measure => simp [intOf]; omega
        · have hne : (x != y) = true := by simp [hxy]
          go_wp2
          go_quiet (fail)
          go_wp2
          go_ret
          refine ⟨ret_bool (eqRows_false fun h => hxy ?_).symm, (by repeat (first | (with_reducible exact More.refl _) | (with_reducible refine More.alloc ?_ _) | (with_reducible refine More.more ?_ _ _) | (with_reducible refine More.drewN ?_ _) | (with_reducible refine More.drew ?_)))⟩
          rw [hx.out, hy.out]
          exact h.2 k hlt
      · go_wp2
        go_ret
        exact ⟨ret_bool (eqRows_true ⟨rfl, fun j hj => HQ.out j (by omega)⟩).symm, (by repeat (first | (with_reducible exact More.refl _) | (with_reducible refine More.alloc ?_ _) | (with_reducible refine More.more ?_ _ _) | (with_reducible refine More.drewN ?_ _) | (with_reducible refine More.drew ?_)))⟩
  · have hne : ((n : Int) != (m : Int)) = true := by simp; omega
    go_enter Tryz.func19, Tryz.ntmps19
    go_wp2
    go_ret
    exact ⟨ret_bool (eqRows_false fun h => hnm h.1).symm, (by repeat (first | (with_reducible exact More.refl _) | (with_reducible refine More.alloc ?_ _) | (with_reducible refine More.more ?_ _ _) | (with_reducible refine More.drewN ?_ _) | (with_reducible refine More.drew ?_)))⟩
end Go.Proofs.YtgmljgcmfooniaaGreatDoor
