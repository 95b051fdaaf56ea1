/- LinkSums: for every input the law returns true. Conditions: none. -/
import Derived.Test.YtjmialpjgaddaaaLinkA
import Derived.Laws.Cover1
set_option linter.unusedVariables false
set_option linter.unusedSimpArgs false
namespace Go.Tide
theorem lcnt_sum {W0 W1 S0 S1 : Nat} : ∀ p, p ≤ W0 + W1 + S0 + S1 → lcnt0 W0 W1 S0 S1 p + lcnt1 W0 W1 S0 S1 p = p := by
  intro p
  induction p with
  | zero => intro _; simp [lcnt0, lcnt1, lalt]
  | succ p ih =>
    intro hp
    have h1 := ih (by omega)
    have h2 := lcnt_succ (show p < W0 + W1 + S0 + S1 by omega)
    omega
theorem lcnt_all (W0 W1 S0 S1 : Nat) : lcnt0 W0 W1 S0 S1 (W0 + W1 + S0 + S1) = W0 + S0 ∧ lcnt1 W0 W1 S0 S1 (W0 + W1 + S0 + S1) = W1 + S1 := by
  unfold lcnt0 lcnt1 lalt
  omega
theorem lpass_eq (rate room W0 W1 S0 S1 : Nat) : lpass rate room W0 W1 S0 S1 = ⟨W0 + W1 + S0 + S1, lcnt0 W0 W1 S0 S1 (min (W0 + W1 + S0 + S1) rate), lcnt1 W0 W1 S0 S1 (min (W0 + W1 + S0 + S1) rate),
    lcnt0 W0 W1 S0 S1 (min (W0 + W1 + S0 + S1) (rate + room)) - lcnt0 W0 W1 S0 S1 (min (W0 + W1 + S0 + S1) rate), lcnt1 W0 W1 S0 S1 (min (W0 + W1 + S0 + S1) (rate + room)) - lcnt1 W0 W1 S0 S1 (min (W0 + W1 + S0 + S1) rate),
      W0 + S0 - lcnt0 W0 W1 S0 S1 (min (W0 + W1 + S0 + S1) (rate + room)), W1 + S1 - lcnt1 W0 W1 S0 S1 (min (W0 + W1 + S0 + S1) (rate + room))⟩ := by
  unfold lpass
  rw [lgo_line rate room _ (Nat.le_refl _), (lcnt_all W0 W1 S0 S1).1, (lcnt_all W0 W1 S0 S1).2]
theorem lpass_sums {rate room W0 W1 S0 S1 k c0 c1 l0 l1 x0 x1 : Nat} (h : lpass rate room W0 W1 S0 S1 = ⟨k, c0, c1, l0, l1, x0, x1⟩) :
    c0 + l0 + x0 = W0 + S0 ∧ c1 + l1 + x1 = W1 + S1 ∧ c0 + c1 = min (W0 + W1 + S0 + S1) rate ∧ l0 + l1 = min (W0 + W1 + S0 + S1) (rate + room) - min (W0 + W1 + S0 + S1) rate ∧ x0 + x1 = W0 + W1 + S0 + S1 - min (W0 + W1 + S0 + S1) (rate + room) := by
  rw [lpass_eq] at h
  injection h with h1 h2 h3 h4 h5 h6 h7
  have m1 := lcnt_mono (W0 := W0) (W1 := W1) (S0 := S0) (S1 := S1) (Nat.min_le_left (W0 + W1 + S0 + S1) (rate + room))
  have m2 := lcnt_mono (W0 := W0) (W1 := W1) (S0 := S0) (S1 := S1) (show min (W0 + W1 + S0 + S1) rate ≤ min (W0 + W1 + S0 + S1) (rate + room) by omega)
  have s1 := lcnt_sum (W0 := W0) (W1 := W1) (S0 := S0) (S1 := S1) _ (Nat.min_le_left (W0 + W1 + S0 + S1) rate)
  have s2 := lcnt_sum (W0 := W0) (W1 := W1) (S0 := S0) (S1 := S1) _ (Nat.min_le_left (W0 + W1 + S0 + S1) (rate + room))
  have al := lcnt_all W0 W1 S0 S1
  omega
end Go.Tide
namespace Go.Proofs.Ytjmialpjgaddaaa
open Go.RowKit Go.Tide
set_option linter.unusedVariables false
set_option linter.unusedSimpArgs false
set_option maxRecDepth 20000 in
set_option maxHeartbeats 4000000 in
theorem linkSums_walk (a0 : Int) (a1 : Int) (a2_0 a2_1 : Int) (a3_0 a3_1 : Int) (w : World) (b0 : InI64 a0) (b1 : InI64 a1) (b2_0 : InI64 a2_0) (b2_1 : InI64 a2_1) (b3_0 : InI64 a3_0) (b3_1 : InI64 a3_1) :
    Calls Try.prog 3 #[.int .i64 a0, .int .i64 a1, .agg #[.int .i64 a2_0, .int .i64 a2_1], .agg #[.int .i64 a3_0, .int .i64 a3_1]] w fun e w' => e = .returned (.bool true) ∧ Below w.heap.size w w' := by
  by_cases hR : LRight a0 a1 a2_0 a2_1 a3_0 a3_1
  · have HR := Lib.hid hR
    obtain ⟨q1, q2, q3, q4, q5, q6, q7, q8, q9, q10, q11⟩ := hR
    obtain ⟨rate, rfl⟩ : ∃ n : Nat, a0 = n := ⟨a0.toNat, by omega⟩
    obtain ⟨room, rfl⟩ : ∃ n : Nat, a1 = n := ⟨a1.toNat, by omega⟩
    obtain ⟨W0, rfl⟩ : ∃ n : Nat, a2_0 = n := ⟨a2_0.toNat, by omega⟩
    obtain ⟨W1, rfl⟩ : ∃ n : Nat, a2_1 = n := ⟨a2_1.toNat, by omega⟩
    obtain ⟨S0, rfl⟩ : ∃ n : Nat, a3_0 = n := ⟨a3_0.toNat, by omega⟩
    obtain ⟨S1, rfl⟩ : ∃ n : Nat, a3_1 = n := ⟨a3_1.toNat, by omega⟩
    obtain ⟨s, hs⟩ : ∃ s, Hid (lpass rate room W0 W1 S0 S1 = s) := ⟨_, rfl⟩
    obtain ⟨k, c0, c1, l0, l1, x0, x1⟩ := s
    obtain ⟨p1, p2, p3, p4, p5⟩ := lpass_sums hs.out
    have r0 : c0 + c1 ≤ rate ∧ l0 + l1 ≤ room := by omega
    have u0 : IntKind.i64.wrap ((W0 : Int) + S0) = (W0 : Int) + S0 := IntWalk.i64_in _ (by omega)
    have v0 : IntKind.i64.wrap ((c0 : Int) + l0) = (c0 : Int) + l0 := IntWalk.i64_in _ (by omega)
    have t0 : IntKind.i64.wrap ((c0 : Int) + l0 + x0) = (c0 : Int) + l0 + x0 := IntWalk.i64_in _ (by omega)
    have y0 : ((W0 : Int) + S0 != (c0 : Int) + l0 + x0) = false := by simp; omega
    have zm0 : decide ((if (x0 : Int) < (if (l0 : Int) < c0 then (l0 : Int) else c0) then (x0 : Int) else (if (l0 : Int) < c0 then (l0 : Int) else c0)) < 0) = false := by simp only [decide_eq_false_iff_not]; (repeat' split) <;> omega
    have zc0 : decide ((c0 : Int) < 0) = false := by simp <;> omega
    have zl0 : decide ((l0 : Int) < 0) = false := by simp <;> omega
    have zx0 : decide ((x0 : Int) < 0) = false := by simp <;> omega
    have u1 : IntKind.i64.wrap ((W1 : Int) + S1) = (W1 : Int) + S1 := IntWalk.i64_in _ (by omega)
    have v1 : IntKind.i64.wrap ((c1 : Int) + l1) = (c1 : Int) + l1 := IntWalk.i64_in _ (by omega)
    have t1 : IntKind.i64.wrap ((c1 : Int) + l1 + x1) = (c1 : Int) + l1 + x1 := IntWalk.i64_in _ (by omega)
    have y1 : ((W1 : Int) + S1 != (c1 : Int) + l1 + x1) = false := by simp; omega
    have zm1 : decide ((if (x1 : Int) < (if (l1 : Int) < c1 then (l1 : Int) else c1) then (x1 : Int) else (if (l1 : Int) < c1 then (l1 : Int) else c1)) < 0) = false := by simp only [decide_eq_false_iff_not]; (repeat' split) <;> omega
    have zc1 : decide ((c1 : Int) < 0) = false := by simp <;> omega
    have zl1 : decide ((l1 : Int) < 0) = false := by simp <;> omega
    have zx1 : decide ((x1 : Int) < 0) = false := by simp <;> omega
    have wc : IntKind.i64.wrap ((c0 : Int) + c1) = (c0 : Int) + c1 := IntWalk.i64_in _ (by omega)
    have wl : IntKind.i64.wrap ((l0 : Int) + l1) = (l0 : Int) + l1 := IntWalk.i64_in _ (by omega)
    have wx : IntKind.i64.wrap ((x0 : Int) + x1) = (x0 : Int) + x1 := IntWalk.i64_in _ (by omega)
    have wlx : IntKind.i64.wrap ((l0 : Int) + l1 + ((x0 : Int) + x1)) = (l0 : Int) + l1 + ((x0 : Int) + x1) := IntWalk.i64_in _ (by omega)
    have g1 : decide ((c0 : Int) + c1 ≤ rate) = true := by simp; omega
    have g2 : decide ((l0 : Int) + l1 ≤ room) = true := by simp; omega
    have HC : Hid (W0 + W1 + S0 + S1 ≤ rate ∨ (rate < W0 + W1 + S0 + S1 ∧ W0 + W1 + S0 + S1 ≤ rate + room) ∨ rate + room < W0 + W1 + S0 + S1) := by show _ ∨ _; omega
    have HP := Lib.hid (And.intro p3 (And.intro p4 p5))
    clear p1 p2 p3 p4 p5 r0
    go_enter Try.func3, Try.ntmps3
    go_wp2_with (first | (go_at_call 10; refine (link_alive _).mono ?_; rintro e w' ⟨rfl, os0, d0, rfl⟩) | (go_at_call 11; refine (pass_good rate room W0 W1 S0 S1 _ HR.out _ hs).mono ?_; rintro e w' ⟨rfl, os1, d1, rfl⟩))
    have hmz : More w ((((((w.alloc (.cells #[.int .i64 W0, .int .i64 W1] 22)).alloc (.cells #[.int .i64 S0, .int .i64 S1] 22)).more os0 d0).more os1 d1).alloc (.cells #[.int .i64 S0, .int .i64 S1, .int .i64 c0, .int .i64 c1, .int .i64 x0, .int .i64 x1] 25)).alloc (.cells #[.int .i64 l0, .int .i64 l1] 22)) := (by repeat (first | (with_reducible assumption) | (with_reducible exact More.refl _) | (with_reducible refine More.alloc ?_ _) | (with_reducible refine More.more ?_ _ _) | (with_reducible refine More.drewN ?_ _) | (with_reducible refine More.drew ?_)))
    have hB1 : Blk ((((((w.alloc (.cells #[.int .i64 W0, .int .i64 W1] 22)).alloc (.cells #[.int .i64 S0, .int .i64 S1] 22)).more os0 d0).more os1 d1).alloc (.cells #[.int .i64 S0, .int .i64 S1, .int .i64 c0, .int .i64 c1, .int .i64 x0, .int .i64 x1] 25)).alloc (.cells #[.int .i64 l0, .int .i64 l1] 22)) w.heap.size 22 #[.int .i64 W0, .int .i64 W1] := (by repeat (first | (with_reducible assumption) | ((with_reducible refine Blk.new' ?_); (simp [Nat.add_assoc]; done)) | (with_reducible refine Blk.alloc ?_ _) | (with_reducible refine Blk.more ?_ _ _) | (with_reducible refine Blk.drew ?_) | (with_reducible refine Blk.drewN ?_ _)))
    have hB2 : Blk ((((((w.alloc (.cells #[.int .i64 W0, .int .i64 W1] 22)).alloc (.cells #[.int .i64 S0, .int .i64 S1] 22)).more os0 d0).more os1 d1).alloc (.cells #[.int .i64 S0, .int .i64 S1, .int .i64 c0, .int .i64 c1, .int .i64 x0, .int .i64 x1] 25)).alloc (.cells #[.int .i64 l0, .int .i64 l1] 22)) (w.heap.size + 1) 22 #[.int .i64 S0, .int .i64 S1] := (by repeat (first | (with_reducible assumption) | ((with_reducible refine Blk.new' ?_); (simp [Nat.add_assoc]; done)) | (with_reducible refine Blk.alloc ?_ _) | (with_reducible refine Blk.more ?_ _ _) | (with_reducible refine Blk.drew ?_) | (with_reducible refine Blk.drewN ?_ _)))
    have hB3 : Blk ((((((w.alloc (.cells #[.int .i64 W0, .int .i64 W1] 22)).alloc (.cells #[.int .i64 S0, .int .i64 S1] 22)).more os0 d0).more os1 d1).alloc (.cells #[.int .i64 S0, .int .i64 S1, .int .i64 c0, .int .i64 c1, .int .i64 x0, .int .i64 x1] 25)).alloc (.cells #[.int .i64 l0, .int .i64 l1] 22)) (w.heap.size + (2 + (os0.size + os1.size))) 25 #[.int .i64 S0, .int .i64 S1, .int .i64 c0, .int .i64 c1, .int .i64 x0, .int .i64 x1] := (by repeat (first | (with_reducible assumption) | ((with_reducible refine Blk.new' ?_); (simp [Nat.add_assoc]; done)) | (with_reducible refine Blk.alloc ?_ _) | (with_reducible refine Blk.more ?_ _ _) | (with_reducible refine Blk.drew ?_) | (with_reducible refine Blk.drewN ?_ _)))
    have hB4 : Blk ((((((w.alloc (.cells #[.int .i64 W0, .int .i64 W1] 22)).alloc (.cells #[.int .i64 S0, .int .i64 S1] 22)).more os0 d0).more os1 d1).alloc (.cells #[.int .i64 S0, .int .i64 S1, .int .i64 c0, .int .i64 c1, .int .i64 x0, .int .i64 x1] 25)).alloc (.cells #[.int .i64 l0, .int .i64 l1] 22)) (w.heap.size + (2 + (os0.size + (os1.size + 1)))) 22 #[.int .i64 l0, .int .i64 l1] := (by repeat (first | (with_reducible assumption) | ((with_reducible refine Blk.new' ?_); (simp [Nat.add_assoc]; done)) | (with_reducible refine Blk.alloc ?_ _) | (with_reducible refine Blk.more ?_ _ _) | (with_reducible refine Blk.drew ?_) | (with_reducible refine Blk.drewN ?_ _)))
    generalize w.heap.size + (2 + (os0.size + os1.size)) = R at *
    generalize w.heap.size + (2 + (os0.size + (os1.size + 1))) = L at *
    generalize ((((((w.alloc (.cells #[.int .i64 W0, .int .i64 W1] 22)).alloc (.cells #[.int .i64 S0, .int .i64 S1] 22)).more os0 d0).more os1 d1).alloc (.cells #[.int .i64 S0, .int .i64 S1, .int .i64 c0, .int .i64 c1, .int .i64 x0, .int .i64 x1] 25)).alloc (.cells #[.int .i64 l0, .int .i64 l1] 22)) = wq at *
    have e0 := hB1.cell 0
    have e1 := hB1.cell 1
    have e2 := hB2.cell 0
    have e3 := hB2.cell 1
    have e4 := hB3.cell 2
    have e5 := hB3.cell 3
    have e6 := hB3.cell 4
    have e7 := hB3.cell 5
    have e8 := hB4.cell 0
    have e9 := hB4.cell 1
    simp at e0 e1 e2 e3 e4 e5 e6 e7 e8 e9
    clear hB1 hB2 hB3 hB4 q1 q2 q3 q4 q5 q6 q7 q8 q9 q10 q11 b0 b1 b2_0 b2_1 b3_0 b3_1
    go_loopw [37] (fun i wr => ∃ j d : Nat, j ≤ 2 ∧ i = .int .i64 j ∧ wr = wq.drewN d) (fun i _ => 2 - (intOf i).toNat)
    case atStart => exact ⟨0, 0, by omega, rfl, rfl⟩
    case round =>
      obtain ⟨j, d, hj, hi, rfl⟩ := hrel
      rcases (show j = 0 ∨ j = 1 ∨ j = 2 by omega) with rfl | rfl | rfl
      · have hi : _ = Value.int .i64 0 := hi
        subst hi
        go_wp2_with fail
        go_quiet (fail)
        go_wp2
        go_roundw
        case rel => exact ⟨1, _, by omega, by go_num, rfl⟩
        case measure => simp [intOf]
      · have hi : _ = Value.int .i64 1 := hi
        subst hi
        go_wp2_with fail
        go_quiet (fail)
        go_wp2
        go_roundw
        case rel => exact ⟨2, _, by omega, by go_num, rfl⟩
        case measure => simp [intOf]
      · have hi : _ = Value.int .i64 2 := hi
        subst hi
        go_wp2_with fail
        go_quiet (fail)
        obtain ⟨p3, p4, p5⟩ := HP.out
        rcases HC.out with hc0 | hc1 | hc2
        · have hc : W0 + W1 + S0 + S1 ≤ rate := hc0
          have g3 : (((l0 : Int) + l1 + ((x0 : Int) + x1) == 0)) = true := by simp; omega
          have g4 : (((x0 : Int) + x1 == 0)) = true := by simp; omega
          clear p3 p4 p5
          go_wp2
          go_ret
          exact ⟨rfl, (More.below (by repeat (first | (with_reducible assumption) | (with_reducible exact More.refl _) | (with_reducible refine More.alloc ?_ _) | (with_reducible refine More.more ?_ _ _) | (with_reducible refine More.drewN ?_ _) | (with_reducible refine More.drew ?_))))⟩
        · have hc : rate < W0 + W1 + S0 + S1 ∧ W0 + W1 + S0 + S1 ≤ rate + room := hc1
          have g3 : (((l0 : Int) + l1 + ((x0 : Int) + x1) == 0)) = false := by simp; omega
          have g4 : (((c0 : Int) + c1 == rate)) = true := by simp; omega
          have g5 : (((x0 : Int) + x1 == 0)) = true := by simp; omega
          clear p3 p4 p5
          go_wp2
          go_ret
          exact ⟨rfl, (More.below (by repeat (first | (with_reducible assumption) | (with_reducible exact More.refl _) | (with_reducible refine More.alloc ?_ _) | (with_reducible refine More.more ?_ _ _) | (with_reducible refine More.drewN ?_ _) | (with_reducible refine More.drew ?_))))⟩
        · have hc : rate + room < W0 + W1 + S0 + S1 := hc2
          have g3 : (((l0 : Int) + l1 + ((x0 : Int) + x1) == 0)) = false := by simp; omega
          have g4 : (((c0 : Int) + c1 == rate)) = true := by simp; omega
          have g5 : (((x0 : Int) + x1 == 0)) = false := by simp; omega
          have g6 : (((l0 : Int) + l1 == room)) = true := by simp; omega
          clear p3 p4 p5
          go_wp2
          go_ret
          exact ⟨rfl, (More.below (by repeat (first | (with_reducible assumption) | (with_reducible exact More.refl _) | (with_reducible refine More.alloc ?_ _) | (with_reducible refine More.more ?_ _ _) | (with_reducible refine More.drewN ?_ _) | (with_reducible refine More.drew ?_))))⟩
  · have HR := Lib.hid hR
    clear hR
    go_enter Try.func3, Try.ntmps3
    go_wp2_with (first | (go_at_call 10; refine (link_alive _).mono ?_; rintro e w' ⟨rfl, os0, d0, rfl⟩) | (go_at_call 11; refine (pass_bad a0 a1 a2_0 a2_1 a3_0 a3_1 _ b2_0 b2_1 HR.out).mono ?_; rintro e w' ⟨rfl, os1, d1, rfl⟩))
    go_ret
    exact ⟨rfl, (More.below (by repeat (first | (with_reducible assumption) | (with_reducible exact More.refl _) | (with_reducible refine More.alloc ?_ _) | (with_reducible refine More.more ?_ _ _) | (with_reducible refine More.drewN ?_ _) | (with_reducible refine More.drew ?_))))⟩
end Go.Proofs.Ytjmialpjgaddaaa
