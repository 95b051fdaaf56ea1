/- DuelRight: for every input the law returns true. Conditions: none. -/
import Derived.Test.YtjmialpjgaddaabDuelA
set_option linter.unusedVariables false
set_option linter.unusedSimpArgs false
namespace Go.Proofs.Ytjmialpjgaddaab
open Go.RowKit Go.Tide
set_option linter.unusedVariables false
set_option linter.unusedSimpArgs false
@[go_sem] theorem equal_flows (w : World) : (Op.equalIn 9999 27 (.agg #[.int .i64 0, .int .i64 0, .int .i64 0, .int .i64 0, .int .i64 0, .int .i64 0, .int .i64 0, .int .i64 0, .int .i64 0, .int .i64 0, .int .i64 0, .int .i64 0]) (.agg #[.int .i64 0, .int .i64 0, .int .i64 0, .int .i64 0, .int .i64 0, .int .i64 0, .int .i64 0, .int .i64 0, .int .i64 0, .int .i64 0, .int .i64 0, .int .i64 0])).run Try.prog w = .ok true w := by kernel_rfl
set_option maxRecDepth 20000 in
set_option maxHeartbeats 8000000 in
theorem duelRight_walk (a0_0 a0_1 a0_2 a0_3 a0_4 : Int) (a1_0 a1_1 a1_2 a1_3 a1_4 a1_5 a1_6 a1_7 a1_8 a1_9 a1_10 a1_11 a1_12 a1_13 : Int) (a2_0 a2_1 : Int) (w : World) (b0_0 : InI64 a0_0) (b0_1 : InI64 a0_1) (b0_2 : InI64 a0_2) (b0_3 : InI64 a0_3) (b0_4 : InI64 a0_4) (b1_0 : InI64 a1_0) (b1_1 : InI64 a1_1) (b1_2 : InI64 a1_2) (b1_3 : InI64 a1_3) (b1_4 : InI64 a1_4) (b1_5 : InI64 a1_5) (b1_6 : InI64 a1_6) (b1_7 : InI64 a1_7) (b1_8 : InI64 a1_8) (b1_9 : InI64 a1_9) (b1_10 : InI64 a1_10) (b1_11 : InI64 a1_11) (b1_12 : InI64 a1_12) (b1_13 : InI64 a1_13) (b2_0 : InI64 a2_0) (b2_1 : InI64 a2_1) :
    Calls Try.prog 3 #[.agg #[.int .i64 a0_0, .int .i64 a0_1, .int .i64 a0_2, .int .i64 a0_3, .int .i64 a0_4], .agg #[.int .i64 a1_0, .int .i64 a1_1, .int .i64 a1_2, .int .i64 a1_3, .int .i64 a1_4, .int .i64 a1_5, .int .i64 a1_6, .int .i64 a1_7, .int .i64 a1_8, .int .i64 a1_9, .int .i64 a1_10, .int .i64 a1_11, .int .i64 a1_12, .int .i64 a1_13], .agg #[.int .i64 a2_0, .int .i64 a2_1]] w fun e w' => e = .returned (.bool true) ∧ Below w.heap.size w w' := by
  clear b0_0 b0_1 b0_2 b0_3 b0_4 b1_0 b1_1 b1_2 b1_3 b1_4 b1_5 b1_6 b1_7 b1_8 b1_9 b1_10 b1_11 b1_12 b1_13 b2_0 b2_1
  by_cases hM : dMay a0_0 a0_1 a0_2 a0_3 a0_4 a1_0 a1_1 a1_2 a1_3 a1_4 a1_5 a1_6 a1_7 a1_8 a1_9 a1_10 a1_11 a1_12 a1_13 a2_0 a2_1
  · obtain ⟨k0, k1, hn, hd, hl0, hl1⟩ := hM
    have hnn := hn
    obtain ⟨n1, n2, n3, n4, n5, n6⟩ := hnn
    have hdd := hd
    obtain ⟨c0, c1, c2, c3, c4⟩ := hdd
    obtain ⟨rate, rfl⟩ : ∃ n : Nat, a0_2 = n := ⟨a0_2.toNat, by omega⟩
    obtain ⟨buf, rfl⟩ : ∃ n : Nat, a0_3 = n := ⟨a0_3.toNat, by omega⟩
    obtain ⟨W0, rfl⟩ : ∃ n : Nat, a1_12 = n := ⟨a1_12.toNat, by omega⟩
    obtain ⟨W1, rfl⟩ : ∃ n : Nat, a1_13 = n := ⟨a1_13.toNat, by omega⟩
    obtain ⟨r, hr⟩ : ∃ r : DRules, r = ⟨a0_0, a0_1, rate, buf, a0_4⟩ := ⟨_, rfl⟩
    obtain ⟨s, hs⟩ : ∃ s : DSt, s = ⟨⟨a1_0, a1_1, a1_2, a1_3, a1_4, a1_5⟩, ⟨a1_6, a1_7, a1_8, a1_9, a1_10, a1_11⟩, W0, W1⟩ := ⟨_, rfl⟩
    have hro : r.ok := by rw [hr]; exact ⟨k0, k1, hn⟩
    have hso : s.ok r := by rw [hr, hs]; exact ⟨c0, c2, by show W0 + W1 ≤ buf; omega⟩
    have hlt : dLate r a2_0 a2_1 := by rw [hr]; exact ⟨hl0, hl1⟩
    have hgo := DSt.go_ok hro hso hlt
    obtain ⟨s', hs'⟩ : ∃ s', Hid (dGo r s a2_0 a2_1 = s') := ⟨_, rfl⟩
    obtain ⟨q, hq⟩ : ∃ q, Hid (dRow r s = q) := ⟨_, rfl⟩
    rw [hs'.out] at hgo
    have hwa := Ctl.window hso.1
    have hwb := Ctl.window hso.2.1
    have hsum := lpass_sums (rate := r.rate) (room := r.buf) (W0 := s.w0) (W1 := s.w1) (S0 := s.a.c1.toNat) (S1 := s.b.c1.toNat) (k := (dPass r s).k) (c0 := (dPass r s).c0) (c1 := (dPass r s).c1) (l0 := (dPass r s).l0) (l1 := (dPass r s).l1) (x0 := (dPass r s).x0) (x1 := (dPass r s).x1) rfl
    have q2 : q 2 = (dPass r s).c0 := by rw [← hq.out]; rfl
    have q3 : q 3 = (dPass r s).c1 := by rw [← hq.out]; rfl
    have q0 : q 0 = a1_1 := by rw [← hq.out, hs]; rfl
    have q1 : q 1 = a1_7 := by rw [← hq.out, hs]; rfl
    have hrr : (r.rate : Int) = rate := by rw [hr]
    have hpos : 1 ≤ q 2 + q 3 ∧ q 2 + q 3 ≤ 12 := by rw [q2, q3]; omega
    obtain ⟨cm, i1, g1⟩ : ∃ cm, IntKind.i64.wrap (q 2 + q 3) = cm ∧ decide (0 < cm) = true := ⟨_, rfl, by rw [IntWalk.i64_in _ (by omega)]; simp; omega⟩
    have g2 : (q 0 == a1_1) = true := by simpa using q0
    have g3 : (q 1 == a1_7) = true := by simpa using q1
    have HR : Hid (dRight a0_0 a0_1 rate buf a0_4 s'.a.c0 s'.a.c1 s'.a.c2 s'.a.c3 s'.a.c4 s'.a.c5 s'.b.c0 s'.b.c1 s'.b.c2 s'.b.c3 s'.b.c4 s'.b.c5 s'.w0 s'.w1) := by
      rw [hr] at hgo
      exact ⟨hgo.1, by omega, hgo.2.1, by omega, by have := hgo.2.2; dsimp only at this; omega⟩
    have HK0 := Lib.hid k0
    have HK1 := Lib.hid k1
    have HN := Lib.hid hn
    have HS := Lib.hid hso
    have HO := Lib.hid hro
    have HT := Lib.hid hlt
    have hstep := fun W => step_go r s a2_0 a2_1 W HO.out HS.out HT.out s' hs' q hq
    rw [hr, hs] at hstep
    have HSt := Lib.hid hstep
    clear hstep hs' hq hr hs hro hso hlt hgo hwa hwb hsum q2 q3 q0 q1 hrr hpos k0 k1 hn hd hl0 hl1 n1 n2 n3 n4 n5 n6 c0 c1 c2 c3 c4 HS HO HT
    go_enter Try.func3, Try.ntmps3
    go_wp2_with (go_at_call 7; refine (duel_alive _).mono ?_; rintro e w' ⟨rfl, os0, d0, rfl⟩)
    refine (HSt.out _).mono ?_
    rintro e w1 ⟨rfl, os1, d1, rfl⟩
    go_wp2_with fail
    refine (right_yes a0_0 a0_1 rate buf a0_4 s'.a.c0 s'.a.c1 s'.a.c2 s'.a.c3 s'.a.c4 s'.a.c5 s'.b.c0 s'.b.c1 s'.b.c2 s'.b.c3 s'.b.c4 s'.b.c5 s'.w0 s'.w1 _ HK0 HK1 HN.out HR.out).mono ?_
    rintro e w1 ⟨rfl, os2, d2, rfl⟩
    go_wp2
    go_ret
    exact ⟨rfl, (More.below (by repeat (first | (with_reducible assumption) | (with_reducible exact More.refl _) | (with_reducible refine More.alloc ?_ _) | (with_reducible refine More.more ?_ _ _) | (with_reducible refine More.drewN ?_ _) | (with_reducible refine More.drew ?_))))⟩
  · have HM := Lib.hid hM
    clear hM
    go_enter Try.func3, Try.ntmps3
    go_wp2_with (go_at_call 7; refine (duel_alive _).mono ?_; rintro e w' ⟨rfl, os0, d0, rfl⟩)
    refine (step_no a0_0 a0_1 a0_2 a0_3 a0_4 a1_0 a1_1 a1_2 a1_3 a1_4 a1_5 a1_6 a1_7 a1_8 a1_9 a1_10 a1_11 a1_12 a1_13 a2_0 a2_1 _ HM.out).mono ?_
    rintro e w1 ⟨er, rfl, he, os1, d1, rfl⟩
    have g1 : (er != 0) = true := by simpa using he.out.1
    clear he
    go_wp2
    go_ret
    exact ⟨rfl, (More.below (by repeat (first | (with_reducible assumption) | (with_reducible exact More.refl _) | (with_reducible refine More.alloc ?_ _) | (with_reducible refine More.more ?_ _ _) | (with_reducible refine More.drewN ?_ _) | (with_reducible refine More.drew ?_))))⟩
end Go.Proofs.Ytjmialpjgaddaab
