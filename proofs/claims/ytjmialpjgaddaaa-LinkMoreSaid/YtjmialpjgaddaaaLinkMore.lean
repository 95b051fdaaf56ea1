/- LinkMore: for every input the law returns true. Conditions: none. -/
import Derived.Test.YtjmialpjgaddaaaLinkSums
set_option linter.unusedVariables false
set_option linter.unusedSimpArgs false
namespace Go.Tide
theorem lalt_inc {s t h q : Nat} : lalt s t h q ≤ lalt (s + 1) t h q ∧ lalt (s + 1) t h q ≤ lalt s t h q + 1 := by
  unfold lalt
  omega
theorem lcnt_more0 (W0 W1 S0 S1 R : Nat) : lcnt0 W0 W1 S0 S1 (min (W0 + W1 + S0 + S1) R) ≤ lcnt0 W0 W1 (S0 + 1) S1 (min (W0 + W1 + (S0 + 1) + S1) R) ∧ lcnt0 W0 W1 (S0 + 1) S1 (min (W0 + W1 + (S0 + 1) + S1) R) ≤ lcnt0 W0 W1 S0 S1 (min (W0 + W1 + S0 + S1) R) + 1 ∧
    lcnt1 W0 W1 (S0 + 1) S1 (min (W0 + W1 + (S0 + 1) + S1) R) ≤ lcnt1 W0 W1 S0 S1 (min (W0 + W1 + S0 + S1) R) := by
  by_cases h : R ≤ W0 + W1 + S0 + S1
  · rw [Nat.min_eq_right h, Nat.min_eq_right (by omega)]
    have s1 := lcnt_sum (W0 := W0) (W1 := W1) (S0 := S0) (S1 := S1) R h
    have s2 := lcnt_sum (W0 := W0) (W1 := W1) (S0 := S0 + 1) (S1 := S1) R (by omega)
    have h1 := lalt_inc (s := S0) (t := S1) (h := (R - (W0 + W1) + 1) / 2) (q := R - (W0 + W1))
    unfold lcnt0 at *
    omega
  · rw [Nat.min_eq_left (by omega), Nat.min_eq_left (by omega)]
    have s1 := lcnt_all W0 W1 S0 S1
    have s2 := lcnt_all W0 W1 (S0 + 1) S1
    omega
theorem lcnt_more1 (W0 W1 S0 S1 R : Nat) : lcnt1 W0 W1 S0 S1 (min (W0 + W1 + S0 + S1) R) ≤ lcnt1 W0 W1 S0 (S1 + 1) (min (W0 + W1 + S0 + (S1 + 1)) R) ∧ lcnt1 W0 W1 S0 (S1 + 1) (min (W0 + W1 + S0 + (S1 + 1)) R) ≤ lcnt1 W0 W1 S0 S1 (min (W0 + W1 + S0 + S1) R) + 1 ∧
    lcnt0 W0 W1 S0 (S1 + 1) (min (W0 + W1 + S0 + (S1 + 1)) R) ≤ lcnt0 W0 W1 S0 S1 (min (W0 + W1 + S0 + S1) R) := by
  by_cases h : R ≤ W0 + W1 + S0 + S1
  · rw [Nat.min_eq_right h, Nat.min_eq_right (by omega)]
    have s1 := lcnt_sum (W0 := W0) (W1 := W1) (S0 := S0) (S1 := S1) R h
    have s2 := lcnt_sum (W0 := W0) (W1 := W1) (S0 := S0) (S1 := S1 + 1) R (by omega)
    have h1 := lalt_inc (s := S1) (t := S0) (h := (R - (W0 + W1)) / 2) (q := R - (W0 + W1))
    unfold lcnt1 at *
    omega
  · rw [Nat.min_eq_left (by omega), Nat.min_eq_left (by omega)]
    have s1 := lcnt_all W0 W1 S0 S1
    have s2 := lcnt_all W0 W1 S0 (S1 + 1)
    omega
theorem lpass_more0 (rate room W0 W1 S0 S1 : Nat) : (lpass rate room W0 W1 S0 S1).c0 ≤ (lpass rate room W0 W1 (S0 + 1) S1).c0 ∧ (lpass rate room W0 W1 S0 S1).c0 + (lpass rate room W0 W1 S0 S1).l0 ≤ (lpass rate room W0 W1 (S0 + 1) S1).c0 + (lpass rate room W0 W1 (S0 + 1) S1).l0 ∧
    (lpass rate room W0 W1 S0 S1).x0 ≤ (lpass rate room W0 W1 (S0 + 1) S1).x0 ∧ (lpass rate room W0 W1 (S0 + 1) S1).c1 ≤ (lpass rate room W0 W1 S0 S1).c1 ∧ (lpass rate room W0 W1 S0 S1).x1 ≤ (lpass rate room W0 W1 (S0 + 1) S1).x1 := by
  have h1 := lcnt_more0 W0 W1 S0 S1 rate
  have h2 := lcnt_more0 W0 W1 S0 S1 (rate + room)
  have m1 := lcnt_mono (W0 := W0) (W1 := W1) (S0 := S0) (S1 := S1) (show min (W0 + W1 + S0 + S1) rate ≤ min (W0 + W1 + S0 + S1) (rate + room) by omega)
  have m2 := lcnt_mono (W0 := W0) (W1 := W1) (S0 := S0 + 1) (S1 := S1) (show min (W0 + W1 + (S0 + 1) + S1) rate ≤ min (W0 + W1 + (S0 + 1) + S1) (rate + room) by omega)
  rw [lpass_eq, lpass_eq]
  dsimp only
  omega
theorem lpass_more1 (rate room W0 W1 S0 S1 : Nat) : (lpass rate room W0 W1 S0 S1).c1 ≤ (lpass rate room W0 W1 S0 (S1 + 1)).c1 ∧ (lpass rate room W0 W1 S0 S1).c1 + (lpass rate room W0 W1 S0 S1).l1 ≤ (lpass rate room W0 W1 S0 (S1 + 1)).c1 + (lpass rate room W0 W1 S0 (S1 + 1)).l1 ∧
    (lpass rate room W0 W1 S0 S1).x1 ≤ (lpass rate room W0 W1 S0 (S1 + 1)).x1 ∧ (lpass rate room W0 W1 S0 (S1 + 1)).c0 ≤ (lpass rate room W0 W1 S0 S1).c0 ∧ (lpass rate room W0 W1 S0 S1).x0 ≤ (lpass rate room W0 W1 S0 (S1 + 1)).x0 := by
  have h1 := lcnt_more1 W0 W1 S0 S1 rate
  have h2 := lcnt_more1 W0 W1 S0 S1 (rate + room)
  have m1 := lcnt_mono (W0 := W0) (W1 := W1) (S0 := S0) (S1 := S1) (show min (W0 + W1 + S0 + S1) rate ≤ min (W0 + W1 + S0 + S1) (rate + room) by omega)
  have m2 := lcnt_mono (W0 := W0) (W1 := W1) (S0 := S0) (S1 := S1 + 1) (show min (W0 + W1 + S0 + (S1 + 1)) rate ≤ min (W0 + W1 + S0 + (S1 + 1)) (rate + room) by omega)
  rw [lpass_eq, lpass_eq]
  dsimp only
  omega
theorem lpass_small (rate room W0 W1 S0 S1 : Nat) : (lpass rate room W0 W1 S0 S1).c0 ≤ W0 + W1 + S0 + S1 ∧ (lpass rate room W0 W1 S0 S1).c1 ≤ W0 + W1 + S0 + S1 ∧ (lpass rate room W0 W1 S0 S1).l0 ≤ W0 + W1 + S0 + S1 ∧ (lpass rate room W0 W1 S0 S1).l1 ≤ W0 + W1 + S0 + S1 := by
  have h := lgo_le rate room (lline W0 W1 S0 S1 (W0 + W1 + S0 + S1))
  rw [lline_length] at h
  exact ⟨h.1, h.2.1, h.2.2.1, h.2.2.2.1⟩
end Go.Tide
namespace Go.Proofs.Ytjmialpjgaddaaa
open Go.RowKit Go.Tide
set_option linter.unusedVariables false
set_option linter.unusedSimpArgs false
theorem pass_at (rate room W0 W1 S0 S1 : Nat) (w : World) (h : LRight rate room W0 W1 S0 S1) (C0 C1 L0 L1 X0 X1 : Int) (hs : Hid ((lpass rate room W0 W1 S0 S1).c0 = C0 ∧ (lpass rate room W0 W1 S0 S1).c1 = C1 ∧ (lpass rate room W0 W1 S0 S1).l0 = L0 ∧ (lpass rate room W0 W1 S0 S1).l1 = L1 ∧ (lpass rate room W0 W1 S0 S1).x0 = X0 ∧ (lpass rate room W0 W1 S0 S1).x1 = X1)) :
    Calls Try.prog 11 #[.int .i64 rate, .int .i64 room, .agg #[.int .i64 W0, .int .i64 W1], .agg #[.int .i64 S0, .int .i64 S1]] w fun e w' =>
      e = .returned (.tuple #[.agg #[.int .i64 S0, .int .i64 S1, .int .i64 C0, .int .i64 C1, .int .i64 X0, .int .i64 X1], .agg #[.int .i64 L0, .int .i64 L1], .int .i64 0]) ∧ More w w' := by
  obtain ⟨h1, h2, h3, h4, h5, h6⟩ := hs.out
  subst h1 h2 h3 h4 h5 h6
  exact pass_good rate room W0 W1 S0 S1 w h _ rfl
theorem pass_some (rate room w0 w1 s0 s1 : Int) (w : World) (b0 : InI64 w0) (b1 : InI64 w1) :
    Calls Try.prog 11 #[.int .i64 rate, .int .i64 room, .agg #[.int .i64 w0, .int .i64 w1], .agg #[.int .i64 s0, .int .i64 s1]] w fun e w' =>
      ∃ v0 v1 v2 v3 v4 v5 u0 u1 E, e = .returned (.tuple #[.agg #[.int .i64 v0, .int .i64 v1, .int .i64 v2, .int .i64 v3, .int .i64 v4, .int .i64 v5], .agg #[.int .i64 u0, .int .i64 u1], .int .i64 E]) ∧ More w w' := by
  by_cases hR : LRight rate room w0 w1 s0 s1
  · have HR := hR
    obtain ⟨q1, q2, q3, q4, q5, q6, q7, q8, q9, q10, q11⟩ := hR
    obtain ⟨rate, rfl⟩ : ∃ n : Nat, rate = n := ⟨rate.toNat, by omega⟩
    obtain ⟨room, rfl⟩ : ∃ n : Nat, room = n := ⟨room.toNat, by omega⟩
    obtain ⟨W0, rfl⟩ : ∃ n : Nat, w0 = n := ⟨w0.toNat, by omega⟩
    obtain ⟨W1, rfl⟩ : ∃ n : Nat, w1 = n := ⟨w1.toNat, by omega⟩
    obtain ⟨S0, rfl⟩ : ∃ n : Nat, s0 = n := ⟨s0.toNat, by omega⟩
    obtain ⟨S1, rfl⟩ : ∃ n : Nat, s1 = n := ⟨s1.toNat, by omega⟩
    exact (pass_good rate room W0 W1 S0 S1 w HR _ rfl).mono fun e w' ⟨h1, h2⟩ => ⟨_, _, _, _, _, _, _, _, _, h1, h2⟩
  · exact (pass_bad rate room w0 w1 s0 s1 w b0 b1 hR).mono fun e w' ⟨h1, h2⟩ => ⟨_, _, _, _, _, _, _, _, _, h1, h2⟩
set_option maxRecDepth 20000 in
set_option maxHeartbeats 4000000 in
theorem linkMore_0g (a0 : Int) (a1 : Int) (a2_0 a2_1 : Int) (a3_0 a3_1 : Int) (w : World) (b0 : InI64 a0) (b1 : InI64 a1) (b2_0 : InI64 a2_0) (b2_1 : InI64 a2_1) (b3_0 : InI64 a3_0) (b3_1 : InI64 a3_1) (hR' : Hid (LRight a0 a1 a2_0 a2_1 a3_0 a3_1)) (hM' : Hid (LRight a0 a1 a2_0 a2_1 (a3_0 + 1) a3_1)) :
    Calls Try.prog 5 #[.int .i64 a0, .int .i64 a1, .agg #[.int .i64 a2_0, .int .i64 a2_1], .agg #[.int .i64 a3_0, .int .i64 a3_1], .int .i64 0] w fun e w' => e = .returned (.bool true) ∧ Below w.heap.size w w' := by
    have hR := hR'.out
    obtain ⟨q1, q2, q3, q4, q5, q6, q7, q8, q9, q10, q11⟩ := hR
    obtain ⟨rate, rfl⟩ : ∃ n : Nat, a0 = n := ⟨a0.toNat, by omega⟩
    obtain ⟨room, rfl⟩ : ∃ n : Nat, a1 = n := ⟨a1.toNat, by omega⟩
    obtain ⟨W0, rfl⟩ : ∃ n : Nat, a2_0 = n := ⟨a2_0.toNat, by omega⟩
    obtain ⟨W1, rfl⟩ : ∃ n : Nat, a2_1 = n := ⟨a2_1.toNat, by omega⟩
    obtain ⟨S0, rfl⟩ : ∃ n : Nat, a3_0 = n := ⟨a3_0.toNat, by omega⟩
    obtain ⟨S1, rfl⟩ : ∃ n : Nat, a3_1 = n := ⟨a3_1.toNat, by omega⟩
    have y := lpass_more0 rate room W0 W1 S0 S1
    have z := lpass_small rate room W0 W1 S0 S1
    have z2 := lpass_small rate room W0 W1 (S0 + 1) S1
    obtain ⟨Ac0, hAc0⟩ : ∃ v : Int, ((lpass rate room W0 W1 S0 S1).c0 : Int) = v := ⟨_, rfl⟩
    obtain ⟨Bc0, hBc0⟩ : ∃ v : Int, ((lpass rate room W0 W1 (S0 + 1) S1).c0 : Int) = v := ⟨_, rfl⟩
    obtain ⟨Ac1, hAc1⟩ : ∃ v : Int, ((lpass rate room W0 W1 S0 S1).c1 : Int) = v := ⟨_, rfl⟩
    obtain ⟨Bc1, hBc1⟩ : ∃ v : Int, ((lpass rate room W0 W1 (S0 + 1) S1).c1 : Int) = v := ⟨_, rfl⟩
    obtain ⟨Al0, hAl0⟩ : ∃ v : Int, ((lpass rate room W0 W1 S0 S1).l0 : Int) = v := ⟨_, rfl⟩
    obtain ⟨Bl0, hBl0⟩ : ∃ v : Int, ((lpass rate room W0 W1 (S0 + 1) S1).l0 : Int) = v := ⟨_, rfl⟩
    obtain ⟨Al1, hAl1⟩ : ∃ v : Int, ((lpass rate room W0 W1 S0 S1).l1 : Int) = v := ⟨_, rfl⟩
    obtain ⟨Bl1, hBl1⟩ : ∃ v : Int, ((lpass rate room W0 W1 (S0 + 1) S1).l1 : Int) = v := ⟨_, rfl⟩
    obtain ⟨Ax0, hAx0⟩ : ∃ v : Int, ((lpass rate room W0 W1 S0 S1).x0 : Int) = v := ⟨_, rfl⟩
    obtain ⟨Bx0, hBx0⟩ : ∃ v : Int, ((lpass rate room W0 W1 (S0 + 1) S1).x0 : Int) = v := ⟨_, rfl⟩
    obtain ⟨Ax1, hAx1⟩ : ∃ v : Int, ((lpass rate room W0 W1 S0 S1).x1 : Int) = v := ⟨_, rfl⟩
    obtain ⟨Bx1, hBx1⟩ : ∃ v : Int, ((lpass rate room W0 W1 (S0 + 1) S1).x1 : Int) = v := ⟨_, rfl⟩
    have HA := Lib.hid (And.intro hAc0 (And.intro hAc1 (And.intro hAl0 (And.intro hAl1 (And.intro hAx0 hAx1)))))
    have HB := Lib.hid (And.intro hBc0 (And.intro hBc1 (And.intro hBl0 (And.intro hBl1 (And.intro hBx0 hBx1)))))
    obtain ⟨e1, u1, ye1⟩ : ∃ e, IntKind.i64.wrap (Bc0 + Bl0) = e ∧ e = Bc0 + Bl0 := ⟨_, rfl, IntWalk.i64_in _ (by omega)⟩
    obtain ⟨e2, u2, ye2⟩ : ∃ e, IntKind.i64.wrap (Ac0 + Al0) = e ∧ e = Ac0 + Al0 := ⟨_, rfl, IntWalk.i64_in _ (by omega)⟩
    have g1 : decide (Ac0 ≤ Bc0) = true := by simp only [decide_eq_true_eq]; omega
    have g2 : decide (e2 ≤ e1) = true := by simp only [decide_eq_true_eq]; omega
    have g3 : decide (Ax0 ≤ Bx0) = true := by simp only [decide_eq_true_eq]; omega
    have g4 : decide (Bc1 ≤ Ac1) = true := by simp only [decide_eq_true_eq]; omega
    have g5 : decide (Ax1 ≤ Bx1) = true := by simp only [decide_eq_true_eq]; omega
    have i9 : IntKind.i64.wrap ((S0 : Int) + 1) = ((S0 + 1 : Nat) : Int) := IntWalk.i64_in _ (by omega)
    clear y z z2 ye1 ye2 hAc0 hAc1 hAl0 hAl1 hAx0 hAx1 hBc0 hBc1 hBl0 hBl1 hBx0 hBx1 q1 q2 q3 q4 q5 q6 q7 q8 q9 q10 q11 b0 b1 b2_0 b2_1 b3_0 b3_1
    go_enter Try.func5, Try.ntmps5
    go_wp2_with (go_at_call 10; refine (link_alive _).mono ?_; rintro e w' ⟨rfl, os0, d0, rfl⟩)
    refine (pass_at rate room W0 W1 S0 S1 _ hR'.out Ac0 Ac1 Al0 Al1 Ax0 Ax1 HA).mono ?_
    rintro e w' ⟨rfl, os1, d1, rfl⟩
    go_wp2_with fail
    refine (pass_at rate room W0 W1 (S0 + 1) S1 _ hM'.out Bc0 Bc1 Bl0 Bl1 Bx0 Bx1 HB).mono ?_
    rintro e w' ⟨rfl, os2, d2, rfl⟩
    go_wp2_with fail
    go_quiet (fail)
    go_wp2
    go_ret
    exact ⟨rfl, (More.below (by repeat (first | (with_reducible assumption) | (with_reducible exact More.refl _) | (with_reducible refine More.alloc ?_ _) | (with_reducible refine More.more ?_ _ _) | (with_reducible refine More.drewN ?_ _) | (with_reducible refine More.drew ?_))))⟩
set_option maxRecDepth 20000 in
set_option maxHeartbeats 4000000 in
theorem linkMore_0 (a0 : Int) (a1 : Int) (a2_0 a2_1 : Int) (a3_0 a3_1 : Int) (w : World) (b0 : InI64 a0) (b1 : InI64 a1) (b2_0 : InI64 a2_0) (b2_1 : InI64 a2_1) (b3_0 : InI64 a3_0) (b3_1 : InI64 a3_1) :
    Calls Try.prog 5 #[.int .i64 a0, .int .i64 a1, .agg #[.int .i64 a2_0, .int .i64 a2_1], .agg #[.int .i64 a3_0, .int .i64 a3_1], .int .i64 0] w fun e w' => e = .returned (.bool true) ∧ Below w.heap.size w w' := by
  by_cases hR : LRight a0 a1 a2_0 a2_1 a3_0 a3_1
  · by_cases hM : LRight a0 a1 a2_0 a2_1 (a3_0 + 1) a3_1
    · have HR := Lib.hid hR
      have HM := Lib.hid hM
      exact linkMore_0g a0 a1 a2_0 a2_1 a3_0 a3_1 w b0 b1 b2_0 b2_1 b3_0 b3_1 HR HM
    · have HR := Lib.hid hR
      have HM := Lib.hid hM
      obtain ⟨q1, q2, q3, q4, q5, q6, q7, q8, q9, q10, q11⟩ := hR
      obtain ⟨rate, rfl⟩ : ∃ n : Nat, a0 = n := ⟨a0.toNat, by omega⟩
      obtain ⟨room, rfl⟩ : ∃ n : Nat, a1 = n := ⟨a1.toNat, by omega⟩
      obtain ⟨W0, rfl⟩ : ∃ n : Nat, a2_0 = n := ⟨a2_0.toNat, by omega⟩
      obtain ⟨W1, rfl⟩ : ∃ n : Nat, a2_1 = n := ⟨a2_1.toNat, by omega⟩
      obtain ⟨S0, rfl⟩ : ∃ n : Nat, a3_0 = n := ⟨a3_0.toNat, by omega⟩
      obtain ⟨S1, rfl⟩ : ∃ n : Nat, a3_1 = n := ⟨a3_1.toNat, by omega⟩
      have i9 : IntKind.i64.wrap ((S0 : Int) + 1) = (S0 : Int) + 1 := IntWalk.i64_in _ (by omega)
      clear hM q1 q2 q3 q4 q5 q6 q7 q8 q9 q10 q11
      go_enter Try.func5, Try.ntmps5
      go_wp2_with (go_at_call 10; refine (link_alive _).mono ?_; rintro e w' ⟨rfl, os0, d0, rfl⟩)
      refine (pass_good rate room W0 W1 S0 S1 _ HR.out _ rfl).mono ?_
      rintro e w' ⟨rfl, os1, d1, rfl⟩
      go_wp2_with fail
      refine (pass_bad rate room W0 W1 (S0 + 1) S1 _ b2_0 b2_1 HM.out).mono ?_
      rintro e w' ⟨rfl, os2, d2, rfl⟩
      go_wp2
      go_ret
      exact ⟨rfl, (More.below (by repeat (first | (with_reducible assumption) | (with_reducible exact More.refl _) | (with_reducible refine More.alloc ?_ _) | (with_reducible refine More.more ?_ _ _) | (with_reducible refine More.drewN ?_ _) | (with_reducible refine More.drew ?_))))⟩
  · have HR := Lib.hid hR
    clear hR
    obtain ⟨t, i9⟩ : ∃ t, IntKind.i64.wrap (a3_0 + 1) = t := ⟨_, rfl⟩
    go_enter Try.func5, Try.ntmps5
    go_wp2_with (go_at_call 10; refine (link_alive _).mono ?_; rintro e w' ⟨rfl, os0, d0, rfl⟩)
    refine (pass_bad a0 a1 a2_0 a2_1 a3_0 a3_1 _ b2_0 b2_1 HR.out).mono ?_
    rintro e w' ⟨rfl, os1, d1, rfl⟩
    go_wp2_with fail
    refine (pass_some _ _ _ _ _ _ _ b2_0 b2_1).mono ?_
    rintro e w' ⟨v0, v1, v2, v3, v4, v5, u0, u1, E, rfl, os2, d2, rfl⟩
    go_wp2
    go_ret
    exact ⟨rfl, (More.below (by repeat (first | (with_reducible assumption) | (with_reducible exact More.refl _) | (with_reducible refine More.alloc ?_ _) | (with_reducible refine More.more ?_ _ _) | (with_reducible refine More.drewN ?_ _) | (with_reducible refine More.drew ?_))))⟩
set_option maxRecDepth 20000 in
set_option maxHeartbeats 4000000 in
theorem linkMore_1g (a0 : Int) (a1 : Int) (a2_0 a2_1 : Int) (a3_0 a3_1 : Int) (w : World) (b0 : InI64 a0) (b1 : InI64 a1) (b2_0 : InI64 a2_0) (b2_1 : InI64 a2_1) (b3_0 : InI64 a3_0) (b3_1 : InI64 a3_1) (hR' : Hid (LRight a0 a1 a2_0 a2_1 a3_0 a3_1)) (hM' : Hid (LRight a0 a1 a2_0 a2_1 a3_0 (a3_1 + 1))) :
    Calls Try.prog 5 #[.int .i64 a0, .int .i64 a1, .agg #[.int .i64 a2_0, .int .i64 a2_1], .agg #[.int .i64 a3_0, .int .i64 a3_1], .int .i64 1] w fun e w' => e = .returned (.bool true) ∧ Below w.heap.size w w' := by
    have hR := hR'.out
    obtain ⟨q1, q2, q3, q4, q5, q6, q7, q8, q9, q10, q11⟩ := hR
    obtain ⟨rate, rfl⟩ : ∃ n : Nat, a0 = n := ⟨a0.toNat, by omega⟩
    obtain ⟨room, rfl⟩ : ∃ n : Nat, a1 = n := ⟨a1.toNat, by omega⟩
    obtain ⟨W0, rfl⟩ : ∃ n : Nat, a2_0 = n := ⟨a2_0.toNat, by omega⟩
    obtain ⟨W1, rfl⟩ : ∃ n : Nat, a2_1 = n := ⟨a2_1.toNat, by omega⟩
    obtain ⟨S0, rfl⟩ : ∃ n : Nat, a3_0 = n := ⟨a3_0.toNat, by omega⟩
    obtain ⟨S1, rfl⟩ : ∃ n : Nat, a3_1 = n := ⟨a3_1.toNat, by omega⟩
    have y := lpass_more1 rate room W0 W1 S0 S1
    have z := lpass_small rate room W0 W1 S0 S1
    have z2 := lpass_small rate room W0 W1 S0 (S1 + 1)
    obtain ⟨Ac0, hAc0⟩ : ∃ v : Int, ((lpass rate room W0 W1 S0 S1).c0 : Int) = v := ⟨_, rfl⟩
    obtain ⟨Bc0, hBc0⟩ : ∃ v : Int, ((lpass rate room W0 W1 S0 (S1 + 1)).c0 : Int) = v := ⟨_, rfl⟩
    obtain ⟨Ac1, hAc1⟩ : ∃ v : Int, ((lpass rate room W0 W1 S0 S1).c1 : Int) = v := ⟨_, rfl⟩
    obtain ⟨Bc1, hBc1⟩ : ∃ v : Int, ((lpass rate room W0 W1 S0 (S1 + 1)).c1 : Int) = v := ⟨_, rfl⟩
    obtain ⟨Al0, hAl0⟩ : ∃ v : Int, ((lpass rate room W0 W1 S0 S1).l0 : Int) = v := ⟨_, rfl⟩
    obtain ⟨Bl0, hBl0⟩ : ∃ v : Int, ((lpass rate room W0 W1 S0 (S1 + 1)).l0 : Int) = v := ⟨_, rfl⟩
    obtain ⟨Al1, hAl1⟩ : ∃ v : Int, ((lpass rate room W0 W1 S0 S1).l1 : Int) = v := ⟨_, rfl⟩
    obtain ⟨Bl1, hBl1⟩ : ∃ v : Int, ((lpass rate room W0 W1 S0 (S1 + 1)).l1 : Int) = v := ⟨_, rfl⟩
    obtain ⟨Ax0, hAx0⟩ : ∃ v : Int, ((lpass rate room W0 W1 S0 S1).x0 : Int) = v := ⟨_, rfl⟩
    obtain ⟨Bx0, hBx0⟩ : ∃ v : Int, ((lpass rate room W0 W1 S0 (S1 + 1)).x0 : Int) = v := ⟨_, rfl⟩
    obtain ⟨Ax1, hAx1⟩ : ∃ v : Int, ((lpass rate room W0 W1 S0 S1).x1 : Int) = v := ⟨_, rfl⟩
    obtain ⟨Bx1, hBx1⟩ : ∃ v : Int, ((lpass rate room W0 W1 S0 (S1 + 1)).x1 : Int) = v := ⟨_, rfl⟩
    have HA := Lib.hid (And.intro hAc0 (And.intro hAc1 (And.intro hAl0 (And.intro hAl1 (And.intro hAx0 hAx1)))))
    have HB := Lib.hid (And.intro hBc0 (And.intro hBc1 (And.intro hBl0 (And.intro hBl1 (And.intro hBx0 hBx1)))))
    obtain ⟨e1, u1, ye1⟩ : ∃ e, IntKind.i64.wrap (Bc1 + Bl1) = e ∧ e = Bc1 + Bl1 := ⟨_, rfl, IntWalk.i64_in _ (by omega)⟩
    obtain ⟨e2, u2, ye2⟩ : ∃ e, IntKind.i64.wrap (Ac1 + Al1) = e ∧ e = Ac1 + Al1 := ⟨_, rfl, IntWalk.i64_in _ (by omega)⟩
    have g1 : decide (Ac1 ≤ Bc1) = true := by simp only [decide_eq_true_eq]; omega
    have g2 : decide (e2 ≤ e1) = true := by simp only [decide_eq_true_eq]; omega
    have g3 : decide (Ax1 ≤ Bx1) = true := by simp only [decide_eq_true_eq]; omega
    have g4 : decide (Bc0 ≤ Ac0) = true := by simp only [decide_eq_true_eq]; omega
    have g5 : decide (Ax0 ≤ Bx0) = true := by simp only [decide_eq_true_eq]; omega
    have i9 : IntKind.i64.wrap ((S1 : Int) + 1) = ((S1 + 1 : Nat) : Int) := IntWalk.i64_in _ (by omega)
    clear y z z2 ye1 ye2 hAc0 hAc1 hAl0 hAl1 hAx0 hAx1 hBc0 hBc1 hBl0 hBl1 hBx0 hBx1 q1 q2 q3 q4 q5 q6 q7 q8 q9 q10 q11 b0 b1 b2_0 b2_1 b3_0 b3_1
    go_enter Try.func5, Try.ntmps5
    go_wp2_with (go_at_call 10; refine (link_alive _).mono ?_; rintro e w' ⟨rfl, os0, d0, rfl⟩)
    refine (pass_at rate room W0 W1 S0 S1 _ hR'.out Ac0 Ac1 Al0 Al1 Ax0 Ax1 HA).mono ?_
    rintro e w' ⟨rfl, os1, d1, rfl⟩
    go_wp2_with fail
    refine (pass_at rate room W0 W1 S0 (S1 + 1) _ hM'.out Bc0 Bc1 Bl0 Bl1 Bx0 Bx1 HB).mono ?_
    rintro e w' ⟨rfl, os2, d2, rfl⟩
    go_wp2_with fail
    go_quiet (fail)
    go_wp2
    go_ret
    exact ⟨rfl, (More.below (by repeat (first | (with_reducible assumption) | (with_reducible exact More.refl _) | (with_reducible refine More.alloc ?_ _) | (with_reducible refine More.more ?_ _ _) | (with_reducible refine More.drewN ?_ _) | (with_reducible refine More.drew ?_))))⟩
set_option maxRecDepth 20000 in
set_option maxHeartbeats 4000000 in
theorem linkMore_1 (a0 : Int) (a1 : Int) (a2_0 a2_1 : Int) (a3_0 a3_1 : Int) (w : World) (b0 : InI64 a0) (b1 : InI64 a1) (b2_0 : InI64 a2_0) (b2_1 : InI64 a2_1) (b3_0 : InI64 a3_0) (b3_1 : InI64 a3_1) :
    Calls Try.prog 5 #[.int .i64 a0, .int .i64 a1, .agg #[.int .i64 a2_0, .int .i64 a2_1], .agg #[.int .i64 a3_0, .int .i64 a3_1], .int .i64 1] w fun e w' => e = .returned (.bool true) ∧ Below w.heap.size w w' := by
  by_cases hR : LRight a0 a1 a2_0 a2_1 a3_0 a3_1
  · by_cases hM : LRight a0 a1 a2_0 a2_1 a3_0 (a3_1 + 1)
    · have HR := Lib.hid hR
      have HM := Lib.hid hM
      exact linkMore_1g a0 a1 a2_0 a2_1 a3_0 a3_1 w b0 b1 b2_0 b2_1 b3_0 b3_1 HR HM
    · have HR := Lib.hid hR
      have HM := Lib.hid hM
      obtain ⟨q1, q2, q3, q4, q5, q6, q7, q8, q9, q10, q11⟩ := hR
      obtain ⟨rate, rfl⟩ : ∃ n : Nat, a0 = n := ⟨a0.toNat, by omega⟩
      obtain ⟨room, rfl⟩ : ∃ n : Nat, a1 = n := ⟨a1.toNat, by omega⟩
      obtain ⟨W0, rfl⟩ : ∃ n : Nat, a2_0 = n := ⟨a2_0.toNat, by omega⟩
      obtain ⟨W1, rfl⟩ : ∃ n : Nat, a2_1 = n := ⟨a2_1.toNat, by omega⟩
      obtain ⟨S0, rfl⟩ : ∃ n : Nat, a3_0 = n := ⟨a3_0.toNat, by omega⟩
      obtain ⟨S1, rfl⟩ : ∃ n : Nat, a3_1 = n := ⟨a3_1.toNat, by omega⟩
      have i9 : IntKind.i64.wrap ((S1 : Int) + 1) = (S1 : Int) + 1 := IntWalk.i64_in _ (by omega)
      clear hM q1 q2 q3 q4 q5 q6 q7 q8 q9 q10 q11
      go_enter Try.func5, Try.ntmps5
      go_wp2_with (go_at_call 10; refine (link_alive _).mono ?_; rintro e w' ⟨rfl, os0, d0, rfl⟩)
      refine (pass_good rate room W0 W1 S0 S1 _ HR.out _ rfl).mono ?_
      rintro e w' ⟨rfl, os1, d1, rfl⟩
      go_wp2_with fail
      refine (pass_bad rate room W0 W1 S0 (S1 + 1) _ b2_0 b2_1 HM.out).mono ?_
      rintro e w' ⟨rfl, os2, d2, rfl⟩
      go_wp2
      go_ret
      exact ⟨rfl, (More.below (by repeat (first | (with_reducible assumption) | (with_reducible exact More.refl _) | (with_reducible refine More.alloc ?_ _) | (with_reducible refine More.more ?_ _ _) | (with_reducible refine More.drewN ?_ _) | (with_reducible refine More.drew ?_))))⟩
  · have HR := Lib.hid hR
    clear hR
    obtain ⟨t, i9⟩ : ∃ t, IntKind.i64.wrap (a3_1 + 1) = t := ⟨_, rfl⟩
    go_enter Try.func5, Try.ntmps5
    go_wp2_with (go_at_call 10; refine (link_alive _).mono ?_; rintro e w' ⟨rfl, os0, d0, rfl⟩)
    refine (pass_bad a0 a1 a2_0 a2_1 a3_0 a3_1 _ b2_0 b2_1 HR.out).mono ?_
    rintro e w' ⟨rfl, os1, d1, rfl⟩
    go_wp2_with fail
    refine (pass_some _ _ _ _ _ _ _ b2_0 b2_1).mono ?_
    rintro e w' ⟨v0, v1, v2, v3, v4, v5, u0, u1, E, rfl, os2, d2, rfl⟩
    go_wp2
    go_ret
    exact ⟨rfl, (More.below (by repeat (first | (with_reducible assumption) | (with_reducible exact More.refl _) | (with_reducible refine More.alloc ?_ _) | (with_reducible refine More.more ?_ _ _) | (with_reducible refine More.drewN ?_ _) | (with_reducible refine More.drew ?_))))⟩
set_option maxRecDepth 20000 in
set_option maxHeartbeats 4000000 in
theorem linkMore_walk (a0 : Int) (a1 : Int) (a2_0 a2_1 : Int) (a3_0 a3_1 : Int) (a4 : Int) (w : World) (b0 : InI64 a0) (b1 : InI64 a1) (b2_0 : InI64 a2_0) (b2_1 : InI64 a2_1) (b3_0 : InI64 a3_0) (b3_1 : InI64 a3_1) (b4 : InI64 a4) :
    Calls Try.prog 5 #[.int .i64 a0, .int .i64 a1, .agg #[.int .i64 a2_0, .int .i64 a2_1], .agg #[.int .i64 a3_0, .int .i64 a3_1], .int .i64 a4] w fun e w' => e = .returned (.bool true) ∧ Below w.heap.size w w' := by
  by_cases h0 : a4 = 0
  · subst h0
    exact linkMore_0 a0 a1 a2_0 a2_1 a3_0 a3_1 w b0 b1 b2_0 b2_1 b3_0 b3_1
  · by_cases h1 : a4 = 1
    · subst h1
      exact linkMore_1 a0 a1 a2_0 a2_1 a3_0 a3_1 w b0 b1 b2_0 b2_1 b3_0 b3_1
    · by_cases h2 : a4 < 0
      · have g1 : decide (a4 < 0) = true := by simpa using h2
        go_enter Try.func5, Try.ntmps5
        go_wp2_with (go_at_call 10; refine (link_alive _).mono ?_; rintro e w' ⟨rfl, os0, d0, rfl⟩)
        go_ret
        exact ⟨rfl, (More.below (by repeat (first | (with_reducible assumption) | (with_reducible exact More.refl _) | (with_reducible refine More.alloc ?_ _) | (with_reducible refine More.more ?_ _ _) | (with_reducible refine More.drewN ?_ _) | (with_reducible refine More.drew ?_))))⟩
      · have g1 : decide (a4 < 0) = false := by simpa using h2
        have g2 : decide (1 < a4) = true := by simp; omega
        go_enter Try.func5, Try.ntmps5
        go_wp2_with (go_at_call 10; refine (link_alive _).mono ?_; rintro e w' ⟨rfl, os0, d0, rfl⟩)
        go_ret
        exact ⟨rfl, (More.below (by repeat (first | (with_reducible assumption) | (with_reducible exact More.refl _) | (with_reducible refine More.alloc ?_ _) | (with_reducible refine More.more ?_ _ _) | (with_reducible refine More.drewN ?_ _) | (with_reducible refine More.drew ?_))))⟩
end Go.Proofs.Ytjmialpjgaddaaa
