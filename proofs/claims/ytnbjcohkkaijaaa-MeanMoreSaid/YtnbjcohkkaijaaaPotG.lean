/- potential.Weigh. Conditions: lengths within the form's reach; walks no longer than 1048576. -/
import Derived.Test.YtnbjcohkkaijaaaPotM
set_option linter.unusedVariables false
set_option linter.unusedSimpArgs false
namespace Go.Proofs.Ytnbjcohkkaijaaa
open Go.RowKit Go.Tide
set_option linter.unusedVariables false
set_option linter.unusedSimpArgs false
set_option maxRecDepth 20000 in
set_option maxHeartbeats 4000000 in
theorem weigh_any (N : Nat) (a : Option Addr) (n c : Nat) (f : Nat → Nat → Int) (ax : Option Addr) (m cx : Nat) (x : Nat → Int) (w : World) (hf : RowC w 3 a n f) (hx : Row w ax m x) (hm : m ≤ 1048576) (hG : GRight N n f) :
    Calls Try.prog 11 #[.agg #[.int .i64 N, .slice a n c], .slice ax m cx] w fun e w' => ((WalkOk n f m x ∧ e = .returned (.tuple #[.int .i64 (wSum f x m), .int .i64 0])) ∨ (¬ WalkOk n f m x ∧ e = .returned (.tuple #[.int .i64 0, .int .i64 1]))) ∧ Below w.heap.size w w' := by
  have HG := Lib.hid hG
  have hn := hG.2.2.1
  have hbg := Blk.new w 24 #[.int .i64 N, .slice a n c]
  go_enter Try.func11, Try.ntmps11
  go_wp2_with (refine (pwrong_any N a n c f _ (by repeat (first | (with_reducible assumption) | (with_reducible exact RowC.nil) | (with_reducible apply RowC.drewN) | (with_reducible apply RowC.drew) | (with_reducible apply RowC.more) | (with_reducible apply RowC.alloc))) (by omega)).mono ?_; rintro e w1 ⟨rfl, os1, d1, rfl⟩; rw [gWrong_ok HG.out])
  have hbq := hbg.more os1 d1
  have hfq := (hf.alloc (.cells #[.int .i64 N, .slice a n c] 24)).more os1 d1
  have hxq := (hx.alloc (.cells #[.int .i64 N, .slice a n c] 24)).more os1 d1
  have hmq : Below w.heap.size w ((w.alloc (.cells #[.int .i64 N, .slice a n c] 24)).more os1 d1) := (More.below (by repeat (first | (with_reducible assumption) | (with_reducible exact More.refl _) | (with_reducible refine More.alloc ?_ _) | (with_reducible refine More.more ?_ _ _) | (with_reducible refine More.drewN ?_ _) | (with_reducible refine More.drew ?_))))
  clear hbg
  generalize (w.alloc (.cells #[.int .i64 N, .slice a n c] 24)).more os1 d1 = wq at *
  have HM := Lib.hid hmq
  clear hmq
  generalize hGe : w.heap.size = G at hbq ⊢
  have hgl := hbq.lt
  have hg1 := hbq.cell 1
  simp at hg1
  clear hbq
  go_wp2_with fail
  go_loopw [7, 17] (fun s i wr => ∃ (k d : Nat), s = .int .i64 (wSum f x k) ∧ i = .int .i64 k ∧ k ≤ m ∧ wr = wq.drewN d ∧ Hid (WalkOk n f k x)) (fun _ i _ => m - (intOf i).toNat)
  case atStart => exact ⟨0, 0, rfl, rfl, Nat.zero_le _, rfl, fun k hk => absurd hk (by omega)⟩
  case round =>
    obtain ⟨k, d, rfl, rfl, hk, rfl, hok⟩ := hrel
    by_cases hlt : k < m
    · obtain ⟨px, ox, X, rfl, hpx, hcx, hX⟩ := hxq.at_ hlt
      have t1 : (k : Int) < (m : Int) := by omega
      by_cases c1 : X < 0
      · have g1 : decide (X < 0) = true := by simpa using c1
        have HB : Hid (¬ WalkOk n f m x) := fun h => by have := (h k hlt).1; rw [← hX.out] at this; omega
        go_wp2_with fail
        go_quiet (fail)
        go_wp2
        go_ret2
        exact ⟨.inr ⟨HB.out, rfl⟩, by first | exact HM.out.drewN _ | exact (HM.out.drewN _).drewN _⟩
      · have g1 : decide (X < 0) = false := by simpa using c1
        obtain ⟨J, rfl⟩ : ∃ J : Nat, X = J := ⟨X.toNat, by omega⟩
        by_cases c2 : n ≤ J
        · have g2 : decide ((n : Int) ≤ (J : Int)) = true := by simp; omega
          have g2' : decide (n ≤ J) = true := by simp; omega
          have HB : Hid (¬ WalkOk n f m x) := fun h => by have := (h k hlt).2.1; rw [← hX.out] at this; omega
          go_wp2_with fail
          go_quiet (fail)
          go_wp2
          go_ret2
          exact ⟨.inr ⟨HB.out, rfl⟩, by first | exact HM.out.drewN _ | exact (HM.out.drewN _).drewN _⟩
        · have hJ : J < n := by omega
          have g2 : decide ((n : Int) ≤ (J : Int)) = false := by simp; omega
          have g2' : decide (n ≤ J) = false := by simp; omega
          have j0 : (0 : Int) ≤ (J : Int) := by omega
          have j1 : (J : Int) < (n : Int) := by omega
          obtain ⟨b, off, x0, x1, x2, rfl, hb, hc0, hc1, hc2, h0, h1, h2⟩ := hfq.at3 hJ
          have hSB := wSum_bound (x := x) HG.out k fun i hi => ⟨(hok.out i hi).1, (hok.out i hi).2.1⟩
          have hEB := HG.out.2.2.2 J hJ
          rw [← h2.out] at hEB
          obtain ⟨_, _, _, _, e5, e6⟩ := hEB
          have i1 : IntKind.i64.wrap (wSum f x k + x2) = wSum f x k + x2 := IntWalk.i64_in _ (by omega)
          have HSn : Hid (wSum f x (k + 1) = wSum f x k + x2) := by
            show wSum f x k + f (x k).toNat 2 = _
            rw [← hX.out, Int.toNat_natCast, h2.out]
          rcases Nat.eq_zero_or_pos k with rfl | hpos
          · have HO : Hid (WalkOk n f 1 x) := fun i hi => by
              obtain rfl : i = 0 := by omega
              exact ⟨by rw [← hX.out]; omega, by rw [← hX.out]; omega, fun h => absurd h (by omega)⟩
            simp only [Nat.add_zero] at hcx
            go_wp2_with fail
            go_quiet (fail)
            go_wp2
            go_roundw
            case rel => exact ⟨1, _, by rw [HSn.out], by go_num, by omega, rfl, HO⟩
            case measure => simp [intOf]; omega
          · obtain ⟨q, rfl⟩ : ∃ q, k = q + 1 := ⟨k - 1, by omega⟩
            have hprev := hok.out q (by omega)
            obtain ⟨px', ox', V, hpe, hpv, hcv, hV⟩ := hxq.at_ (show q < m by omega)
            obtain ⟨rfl, rfl⟩ : px = px' ∧ ox = ox' := by
              injection hpe with hpe
              injection hpe with e1 e2
              exact ⟨e1, e2⟩
            rw [← hV.out] at hprev
            obtain ⟨K, rfl⟩ : ∃ K : Nat, V = K := ⟨V.toNat, by omega⟩
            have hK : K < n := by have := hprev.2.1; omega
            obtain ⟨b', off', y0, y1, y2, hbe, hb', hd0, hd1, hd2, k0, k1, k2⟩ := hfq.at3 hK
            obtain ⟨rfl, rfl⟩ : b = b' ∧ off = off' := by
              injection hbe with hbe
              injection hbe with e1 e2
              exact ⟨e1, e2⟩
            clear hprev hpe hbe
            have g3 : decide (((q + 1 : Nat) : Int) > 0) = true := by first | (simp; done) | (simp; omega)
            have g3' : decide ((0 : Int) < (q : Int) + 1) = true := by first | (simp; done) | (simp; omega)
            have i2 : IntKind.i64.wrap ((q : Int) + 1 - 1) = (q : Int) := by rw [IntWalk.i64_in _ (by omega)]; omega
            have m0 : (0 : Int) ≤ (K : Int) := by omega
            have m1 : (K : Int) < (n : Int) := by omega
            have m2 : (q : Int) < (m : Int) := by omega
            have m3 : (q : Int) + 1 < (m : Int) := by omega
            by_cases hne : y1 = x0
            · have g4 : (y1 != x0) = false := by simp [hne]
              have HO : Hid (WalkOk n f (q + 1 + 1) x) := fun i hi => by
                rcases Nat.lt_succ_iff_lt_or_eq.1 hi with h | rfl
                · exact hok.out i h
                · refine ⟨by rw [← hX.out]; omega, by rw [← hX.out]; omega, fun _ => ?_⟩
                  rw [Nat.add_sub_cancel, ← hX.out, ← hV.out, Int.toNat_natCast, Int.toNat_natCast, ← h0.out, ← k1.out]
                  exact hne
              clear hne
              go_wp2_with fail
              go_quiet (fail)
              go_wp2
              go_roundw
              case rel => exact ⟨q + 1 + 1, _, by rw [HSn.out], by go_num, by omega, rfl, HO⟩
              case measure => simp [intOf]; omega
            · have g4 : (y1 != x0) = true := by simp [hne]
              have HB : Hid (¬ WalkOk n f m x) := fun h => by
                have h3 := (h (q + 1) hlt).2.2 (by omega)
                rw [Nat.add_sub_cancel, ← hX.out, ← hV.out, Int.toNat_natCast, Int.toNat_natCast, ← h0.out, ← k1.out] at h3
                exact hne h3
              clear hne
              go_wp2_with fail
              go_quiet (fail)
              go_wp2
              go_ret2
              exact ⟨.inr ⟨HB.out, rfl⟩, by first | exact HM.out.drewN _ | exact (HM.out.drewN _).drewN _⟩
    · obtain rfl : k = m := by omega
      go_wp2
      go_ret2
      exact ⟨.inl ⟨hok.out, rfl⟩, by first | exact HM.out.drewN _ | exact (HM.out.drewN _).drewN _⟩
end Go.Proofs.Ytnbjcohkkaijaaa
