/- The link's line, walked as an iterator. Conditions: none. -/
import Derived.RangeFuncNested
import Derived.RangeFuncFrom
import Derived.RangeFuncBound
import Derived.RangeFuncCalls
import Derived.RangeFuncLeaves
import Derived.Shelf.Abstract
import Derived.Shelf.RegionOpen
import Derived.WalkKit
import Derived.OwnWalkIn
import Derived.TacticsInMore
import Derived.LoopNIn
import Derived.LoopIn
import Derived.Test.YtgmljgcmfooniaaGreatDoorProg
import Derived.Test.YtgmljgcmfooniaaGreatDoorLinkLaw
import Derived.Test.YtgmljgcmfooniaaGreatDoorKit2
set_option linter.unusedVariables false
set_option linter.unusedSimpArgs false
namespace Go.Tide
/-- Who: as a number. -/
def lbit : Bool → Int
  | true => 1
  | false => 0
theorem lwho_w0 {W0 W1 S0 S1 p : Nat} (h : p < W0) : lwho W0 W1 S0 S1 p = false := by simp [lwho, h]
theorem lwho_w1 {W0 W1 S0 S1 p : Nat} (h : p < W1) : lwho W0 W1 S0 S1 (W0 + p) = true := by simp [lwho, h]
theorem lwho_s0 {W0 W1 S0 S1 k : Nat} (h : k < S0) : lwho W0 W1 S0 S1 (W0 + W1 + min k S0 + min k S1) = false := by
  unfold lwho
  rw [if_neg (by omega), if_neg (by omega)]
  by_cases c : k < S1
  · rw [if_pos (by omega), show W0 + W1 + min k S0 + min k S1 - (W0 + W1) = 2 * k from by omega]
    simp
  · rw [if_neg (by omega)]
    simp
    omega
theorem lwho_s1 {W0 W1 S0 S1 k : Nat} (h : k < S1) : lwho W0 W1 S0 S1 (W0 + W1 + min (k + 1) S0 + min k S1) = true := by
  unfold lwho
  rw [if_neg (by omega), if_neg (by omega)]
  by_cases c : k < S0
  · rw [if_pos (by omega), show W0 + W1 + min (k + 1) S0 + min k S1 - (W0 + W1) = 2 * k + 1 from by omega]
    simp
  · rw [if_neg (by omega)]
    simp
    omega
/-- What a round of the caller's keeps: the two blocks that the line reads. -/
def LKeeps (B1 B2 : Nat) (W W' : World) : Prop := W'.heap[B1]? = W.heap[B1]? ∧ W'.heap[B2]? = W.heap[B2]?
theorem LKeeps.trans {B1 B2 : Nat} {A B C : World} (h : LKeeps B1 B2 A B) (k : LKeeps B1 B2 B C) : LKeeps B1 B2 A C := ⟨k.1.trans h.1, k.2.trans h.2⟩
end Go.Tide
namespace Go.Proofs.YtgmljgcmfooniaaGreatDoor
open Go.RowKit Go.Shelf Go.Tide
set_option linter.unusedVariables false
set_option linter.unusedSimpArgs false
attribute [local go_sem] Oper.semAt_some
@[go_sem] theorem index2_0 (a b : Value) (w : World) : (Instr.index 30 (.agg #[a, b]) (.int .i64 0)).run Tryz.prog w = .ok a w := by kernel_rfl
@[go_sem] theorem index2_1 (a b : Value) (w : World) : (Instr.index 30 (.agg #[a, b]) (.int .i64 1)).run Tryz.prog w = .ok b w := by kernel_rfl

set_option maxRecDepth 100000 in
set_option maxHeartbeats 4000000 in
theorem line1_in (F : Fence) (n : Nat) (h31 : F.fn 127) (hro : F.round = none) (hn : 1 ≤ n) (l B1 B2 W0 W1 S0 S1 : Nat) (hW0 : W0 ≤ 16) (hW1 : W1 ≤ 16) (hS0 : S0 ≤ 12) (hS1 : S1 ≤ 12) (J Jx : List Bool → World → Prop)
    (hY : ∀ pre x W, J pre W → pre.length < W0 + W1 + S0 + S1 → YieldAt F (n - 1) Tryz.prog l #[.int .i64 (lbit x)] W fun e W' =>
      (e = .returned (.bool true) ∧ J (pre ++ [x]) W' ∧ LKeeps B1 B2 W W') ∨ (e = .returned (.bool false) ∧ Jx (pre ++ [x]) W'))
    (W : World) (hB1 : Blk W B1 30 #[.int .i64 W0, .int .i64 W1]) (hB2 : Blk W B2 30 #[.int .i64 S0, .int .i64 S1]) (h0 : J [] W) :
    CallsIn F n Tryz.prog 127 #[.func (.yield l) #[] #[], .pointer (some ⟨B1, 0, none⟩), .pointer (some ⟨B2, 0, none⟩)] W fun e W' => (∃ v, e = .returned v) ∧
      ((∃ ys, ys = lline W0 W1 S0 S1 (W0 + W1 + S0 + S1) ∧ J ys W') ∨ (∃ pre, (∃ k, k ≤ W0 + W1 + S0 + S1 ∧ pre = lline W0 W1 S0 S1 k) ∧ Jx pre W')) := by
  refine callsIn_of_wp Tryz.func127 rfl h31 ?_ hro
  simp only [Tryz.ntmps127, List.size_toArray, List.length_cons, List.length_nil, Nat.reduceAdd, Nat.reduceSub, Array.replicate_succ, Array.replicate_zero, List.push_toArray, List.append_toArray, List.nil_append, List.cons_append]
  have c10 := hB1.cell 0
  have c11 := hB1.cell 1
  simp at c10 c11
  gi_wp2
  gi_loopw [10] (fun i wr => ∃ k : Nat, k ≤ 2 ∧ i = .int .i64 k ∧ J (lline W0 W1 S0 S1 (if k = 0 then 0 else if k = 1 then W0 else W0 + W1)) wr ∧ LKeeps B1 B2 W wr)
    (fun i _ => 2 - (intOf i).toNat)
  case atStart => exact ⟨0, by omega, rfl, h0, rfl, rfl⟩
  case round =>
    obtain ⟨k, hk, hi, hJs, hnx⟩ := hrel
    rcases (show k = 0 ∨ k = 1 ∨ k = 2 by omega) with rfl | rfl | rfl
    · -- WAITS0
      have hi : _ = Value.int .i64 0 := hi
      subst hi
      gi_wp2
      gi_loopw [15] (fun i wr => ∃ q : Nat, q ≤ W0 ∧ i = .int .i64 q ∧ J (lline W0 W1 S0 S1 (q)) wr ∧ LKeeps B1 B2 W wr)
        (fun i _ => W0 - (intOf i).toNat)
      case atStart => exact ⟨0, by omega, rfl, by simpa using hJs, hnx⟩
      case round =>
        obtain ⟨q, hq, rfl, hJq, hnq⟩ := hrel
        by_cases hlt : q < W0
        · obtain ⟨fn, tmps, assign, body, hy, hR⟩ := hY _ false wr hJq (by rw [lline_length]; omega)
          simp only [lbit] at hy
          have t1 : (q : Int) < (W0 : Int) := by omega
          gi_wp2
          refine hR.mono ?_
          rintro e W3 (⟨rfl, hJ3, hk3⟩ | ⟨rfl, hJx3⟩)
          · gi_wp2
            go_roundw
            case rel => exact ⟨q + 1, by omega, by simp, by rw [lline_succ, lwho_w0 (by omega)]; exact hJ3, hnq.trans hk3⟩
            case measure => simp [intOf]; omega
          · gi_wp2
            refine bodyPost_ret (results_none rfl _ _ _) rfl ?_
            exact ⟨⟨_, rfl⟩, .inr ⟨_, ⟨q + 1, by omega, by rw [lline_succ, lwho_w0 (by omega)]⟩, hJx3⟩⟩
        · obtain rfl : q = W0 := by omega
          gi_wp2
          go_roundw
          case rel => exact ⟨1, by omega, by simp, by simpa using hJq, hnq⟩
          case measure => simp [intOf]
    · -- WAITS1
      have hi : _ = Value.int .i64 1 := hi
      subst hi
      gi_wp2
      gi_loopw [15] (fun i wr => ∃ q : Nat, q ≤ W1 ∧ i = .int .i64 q ∧ J (lline W0 W1 S0 S1 (W0 + q)) wr ∧ LKeeps B1 B2 W wr)
        (fun i _ => W1 - (intOf i).toNat)
      case atStart => exact ⟨0, by omega, rfl, by simpa using hJs, hnx⟩
      case round =>
        obtain ⟨q, hq, rfl, hJq, hnq⟩ := hrel
        by_cases hlt : q < W1
        · obtain ⟨fn, tmps, assign, body, hy, hR⟩ := hY _ true wr hJq (by rw [lline_length]; omega)
          simp only [lbit] at hy
          have t1 : (q : Int) < (W1 : Int) := by omega
          gi_wp2
          refine hR.mono ?_
          rintro e W3 (⟨rfl, hJ3, hk3⟩ | ⟨rfl, hJx3⟩)
          · gi_wp2
            go_roundw
            case rel => exact ⟨q + 1, by omega, by simp, by rw [← Nat.add_assoc, lline_succ, lwho_w1 (by omega)]; exact hJ3, hnq.trans hk3⟩
            case measure => simp [intOf]; omega
          · gi_wp2
            refine bodyPost_ret (results_none rfl _ _ _) rfl ?_
            exact ⟨⟨_, rfl⟩, .inr ⟨_, ⟨W0 + q + 1, by omega, by rw [lline_succ, lwho_w1 (by omega)]⟩, hJx3⟩⟩
        · obtain rfl : q = W1 := by omega
          gi_wp2
          go_roundw
          case rel => exact ⟨2, by omega, by simp, by simpa using hJq, hnq⟩
          case measure => simp [intOf]
    · have hi : _ = Value.int .i64 2 := hi
      subst hi
      have hB2' : Blk wr B2 30 #[.int .i64 S0, .int .i64 S1] := hnx.2.trans hB2
      have c20 := hB2'.cell 0
      have c21 := hB2'.cell 1
      simp at c20 c21
      gi_wp2
      · -- MAXS1
        gi_loopw [28] (fun i wr => ∃ k : Nat, k ≤ S1 ∧ i = .int .i64 k ∧ J (lline W0 W1 S0 S1 (W0 + W1 + min k S0 + min k S1)) wr ∧ LKeeps B1 B2 W wr)
          (fun i _ => S1 - (intOf i).toNat)
        case atStart => exact ⟨0, by omega, rfl, by simpa using hJs, hnx⟩
        case round =>
          obtain ⟨k, hk, rfl, hJk, hnk⟩ := hrel
          have hB2' : Blk wr B2 30 #[.int .i64 S0, .int .i64 S1] := hnk.2.trans hB2
          have c20 := hB2'.cell 0
          have c21 := hB2'.cell 1
          simp at c20 c21
          by_cases hkl : k < S1
          · have t0 : (k : Int) < (S1 : Int) := by omega
            gi_wp2
            gi_loopw [32] (fun i wr => ∃ j : Nat, j ≤ 2 ∧ i = .int .i64 j ∧ J (lline W0 W1 S0 S1 (W0 + W1 + (if j = 0 then min k S0 else min (k + 1) S0) + (if j = 2 then min (k + 1) S1 else min k S1))) wr ∧ LKeeps B1 B2 W wr)
              (fun i _ => 2 - (intOf i).toNat)
            case atStart => exact ⟨0, by omega, rfl, by simpa using hJk, hnk⟩
            case round =>
              obtain ⟨j, hj, hi2, hJj, hnj⟩ := hrel
              rcases (show j = 0 ∨ j = 1 ∨ j = 2 by omega) with rfl | rfl | rfl
              · have hi2 : _ = Value.int .i64 0 := hi2
                subst hi2
                simp only [if_pos, if_neg (show ¬ (0 : Nat) = 2 by omega)] at hJj
                by_cases hlt : k < S0
                · obtain ⟨fn, tmps, assign, body, hy, hR⟩ := hY _ false wr hJj (by rw [lline_length]; omega)
                  simp only [lbit] at hy
                  have t1 : (k : Int) < (S0 : Int) := by omega
                  gi_wp2
                  refine hR.mono ?_
                  rintro e W3 (⟨rfl, hJ3, hk3⟩ | ⟨rfl, hJx3⟩)
                  · gi_wp2
                    go_roundw
                    case rel =>
                      refine ⟨1, by omega, by simp, ?_, hnj.trans hk3⟩
                      simp only [if_neg (show ¬ (1 : Nat) = 0 by omega), if_neg (show ¬ (1 : Nat) = 2 by omega)]
                      rw [show W0 + W1 + min (k + 1) S0 + min k S1 = W0 + W1 + min k S0 + min k S1 + 1 from by omega, lline_succ, lwho_s0 hlt]
                      exact hJ3
                    case measure => simp [intOf]
                  · gi_wp2
                    refine bodyPost_ret (results_none rfl _ _ _) rfl ?_
                    exact ⟨⟨_, rfl⟩, .inr ⟨_, ⟨W0 + W1 + min k S0 + min k S1 + 1, by omega, by rw [lline_succ, lwho_s0 hlt]⟩, hJx3⟩⟩
                · have t1 : ¬ (k : Int) < (S0 : Int) := by omega
                  gi_wp2
                  refine ⟨fun _ h => (by cases h), ?_⟩
                  gi_wp2
                  go_roundw
                  case rel =>
                    refine ⟨1, by omega, by simp, ?_, hnj⟩
                    simp only [if_neg (show ¬ (1 : Nat) = 0 by omega), if_neg (show ¬ (1 : Nat) = 2 by omega)]
                    rw [show W0 + W1 + min (k + 1) S0 + min k S1 = W0 + W1 + min k S0 + min k S1 from by omega]
                    exact hJj
                  case measure => simp [intOf]
              · have hi2 : _ = Value.int .i64 1 := hi2
                subst hi2
                simp only [if_neg (show ¬ (1 : Nat) = 0 by omega), if_neg (show ¬ (1 : Nat) = 2 by omega)] at hJj
                by_cases hlt : k < S1
                · obtain ⟨fn, tmps, assign, body, hy, hR⟩ := hY _ true wr hJj (by rw [lline_length]; omega)
                  simp only [lbit] at hy
                  have t1 : (k : Int) < (S1 : Int) := by omega
                  gi_wp2
                  refine hR.mono ?_
                  rintro e W3 (⟨rfl, hJ3, hk3⟩ | ⟨rfl, hJx3⟩)
                  · gi_wp2
                    go_roundw
                    case rel =>
                      refine ⟨2, by omega, by simp, ?_, hnj.trans hk3⟩
                      simp only [if_neg (show ¬ (2 : Nat) = 0 by omega), if_pos]
                      rw [show W0 + W1 + min (k + 1) S0 + min (k + 1) S1 = W0 + W1 + min (k + 1) S0 + min k S1 + 1 from by omega, lline_succ, lwho_s1 hlt]
                      exact hJ3
                    case measure => simp [intOf]
                  · gi_wp2
                    refine bodyPost_ret (results_none rfl _ _ _) rfl ?_
                    exact ⟨⟨_, rfl⟩, .inr ⟨_, ⟨W0 + W1 + min (k + 1) S0 + min k S1 + 1, by omega, by rw [lline_succ, lwho_s1 hlt]⟩, hJx3⟩⟩
                · exact absurd hkl hlt
              · have hi2 : _ = Value.int .i64 2 := hi2
                subst hi2
                gi_wp2
                go_roundw
                case rel => exact ⟨k + 1, by omega, by simp, by simpa using hJj, hnj⟩
                case measure => simp [intOf]; omega
          · obtain rfl : S1 = k := by omega
            gi_wp2
            go_end0
            exact ⟨⟨_, rfl⟩, .inl ⟨_, rfl, by rw [show W0 + W1 + S0 + S1 = W0 + W1 + min S1 S0 + min S1 S1 from by omega]; exact hJk⟩⟩
      · -- MAXS0
        gi_loopw [28] (fun i wr => ∃ k : Nat, k ≤ S0 ∧ i = .int .i64 k ∧ J (lline W0 W1 S0 S1 (W0 + W1 + min k S0 + min k S1)) wr ∧ LKeeps B1 B2 W wr)
          (fun i _ => S0 - (intOf i).toNat)
        case atStart => exact ⟨0, by omega, rfl, by simpa using hJs, hnx⟩
        case round =>
          obtain ⟨k, hk, rfl, hJk, hnk⟩ := hrel
          have hB2' : Blk wr B2 30 #[.int .i64 S0, .int .i64 S1] := hnk.2.trans hB2
          have c20 := hB2'.cell 0
          have c21 := hB2'.cell 1
          simp at c20 c21
          by_cases hkl : k < S0
          · have t0 : (k : Int) < (S0 : Int) := by omega
            gi_wp2
            gi_loopw [32] (fun i wr => ∃ j : Nat, j ≤ 2 ∧ i = .int .i64 j ∧ J (lline W0 W1 S0 S1 (W0 + W1 + (if j = 0 then min k S0 else min (k + 1) S0) + (if j = 2 then min (k + 1) S1 else min k S1))) wr ∧ LKeeps B1 B2 W wr)
              (fun i _ => 2 - (intOf i).toNat)
            case atStart => exact ⟨0, by omega, rfl, by simpa using hJk, hnk⟩
            case round =>
              obtain ⟨j, hj, hi2, hJj, hnj⟩ := hrel
              rcases (show j = 0 ∨ j = 1 ∨ j = 2 by omega) with rfl | rfl | rfl
              · have hi2 : _ = Value.int .i64 0 := hi2
                subst hi2
                simp only [if_pos, if_neg (show ¬ (0 : Nat) = 2 by omega)] at hJj
                by_cases hlt : k < S0
                · obtain ⟨fn, tmps, assign, body, hy, hR⟩ := hY _ false wr hJj (by rw [lline_length]; omega)
                  simp only [lbit] at hy
                  have t1 : (k : Int) < (S0 : Int) := by omega
                  gi_wp2
                  refine hR.mono ?_
                  rintro e W3 (⟨rfl, hJ3, hk3⟩ | ⟨rfl, hJx3⟩)
                  · gi_wp2
                    go_roundw
                    case rel =>
                      refine ⟨1, by omega, by simp, ?_, hnj.trans hk3⟩
                      simp only [if_neg (show ¬ (1 : Nat) = 0 by omega), if_neg (show ¬ (1 : Nat) = 2 by omega)]
                      rw [show W0 + W1 + min (k + 1) S0 + min k S1 = W0 + W1 + min k S0 + min k S1 + 1 from by omega, lline_succ, lwho_s0 hlt]
                      exact hJ3
                    case measure => simp [intOf]
                  · gi_wp2
                    refine bodyPost_ret (results_none rfl _ _ _) rfl ?_
                    exact ⟨⟨_, rfl⟩, .inr ⟨_, ⟨W0 + W1 + min k S0 + min k S1 + 1, by omega, by rw [lline_succ, lwho_s0 hlt]⟩, hJx3⟩⟩
                · exact absurd hkl hlt
              · have hi2 : _ = Value.int .i64 1 := hi2
                subst hi2
                simp only [if_neg (show ¬ (1 : Nat) = 0 by omega), if_neg (show ¬ (1 : Nat) = 2 by omega)] at hJj
                by_cases hlt : k < S1
                · obtain ⟨fn, tmps, assign, body, hy, hR⟩ := hY _ true wr hJj (by rw [lline_length]; omega)
                  simp only [lbit] at hy
                  have t1 : (k : Int) < (S1 : Int) := by omega
                  gi_wp2
                  refine hR.mono ?_
                  rintro e W3 (⟨rfl, hJ3, hk3⟩ | ⟨rfl, hJx3⟩)
                  · gi_wp2
                    go_roundw
                    case rel =>
                      refine ⟨2, by omega, by simp, ?_, hnj.trans hk3⟩
                      simp only [if_neg (show ¬ (2 : Nat) = 0 by omega), if_pos]
                      rw [show W0 + W1 + min (k + 1) S0 + min (k + 1) S1 = W0 + W1 + min (k + 1) S0 + min k S1 + 1 from by omega, lline_succ, lwho_s1 hlt]
                      exact hJ3
                    case measure => simp [intOf]
                  · gi_wp2
                    refine bodyPost_ret (results_none rfl _ _ _) rfl ?_
                    exact ⟨⟨_, rfl⟩, .inr ⟨_, ⟨W0 + W1 + min (k + 1) S0 + min k S1 + 1, by omega, by rw [lline_succ, lwho_s1 hlt]⟩, hJx3⟩⟩
                · have t1 : ¬ (k : Int) < (S1 : Int) := by omega
                  gi_wp2
                  refine ⟨fun _ h => (by cases h), ?_⟩
                  gi_wp2
                  go_roundw
                  case rel =>
                    refine ⟨2, by omega, by simp, ?_, hnj⟩
                    simp only [if_neg (show ¬ (2 : Nat) = 0 by omega), if_pos]
                    rw [show W0 + W1 + min (k + 1) S0 + min (k + 1) S1 = W0 + W1 + min (k + 1) S0 + min k S1 from by omega]
                    exact hJj
                  case measure => simp [intOf]
              · have hi2 : _ = Value.int .i64 2 := hi2
                subst hi2
                gi_wp2
                go_roundw
                case rel => exact ⟨k + 1, by omega, by simp, by simpa using hJj, hnj⟩
                case measure => simp [intOf]; omega
          · obtain rfl : S0 = k := by omega
            gi_wp2
            go_end0
            exact ⟨⟨_, rfl⟩, .inl ⟨_, rfl, by rw [show W0 + W1 + S0 + S1 = W0 + W1 + min S0 S0 + min S0 S1 from by omega]; exact hJk⟩⟩
end Go.Proofs.YtgmljgcmfooniaaGreatDoor
