/- ClockLeast: for every input the law returns true. Conditions: none. -/
import Derived.Test.YtmlkebemkibipaaClockA
import Derived.Test.YtmlkebemkibipaaSlMin
set_option linter.unusedVariables false
set_option linter.unusedSimpArgs false
namespace Go.Tide
theorem isMin_best {n : Nat} {f : Nat → Int} {m : Int} (h : IsMin (n + 1) f m) : m = bestTo ltB f 0 n := by
  refine BestIn.unique ord_lt (v := m) ?_ (bestTo_spec ord_lt f 0 n (by omega))
  obtain ⟨⟨k, hk, he⟩, hl⟩ := h
  exact ⟨⟨k, by omega, by omega, he⟩, fun t _ ht => ltB_not.2 (hl t (by omega))⟩
theorem waits_least {f : Nat → Nat → Int} {part keep : Int} (hp : 1 ≤ part) (hk : 1 ≤ keep) (k : Nat) : 0 ≤ pwaits f part keep k ∧ (k = 0 → pwaits f part keep k = 0) ∧ (bestTo ltB (pways f) 0 k = pways f k → pwaits f part keep k = 0) := by
  have hb := baseOf_spec (x := pways f) hp hk k
  have h1 := ltB_not.1 (hb.2 k (partLo_le hp hk k) (Nat.le_refl _))
  unfold pwaits
  refine ⟨by omega, fun h0 => ?_, fun he => ?_⟩
  · subst h0
    obtain ⟨⟨i, _, hi, h2⟩, _⟩ := hb
    obtain rfl : i = 0 := by omega
    omega
  · obtain ⟨⟨i, i1, hi, h2⟩, _⟩ := hb
    have h3 := ltB_not.1 ((bestTo_spec ord_lt (pways f) 0 k (by omega)).2 i (by omega) hi)
    omega
end Go.Tide
namespace Go.Proofs.Ytmlkebemkibipaa
open Go.RowKit Go.Tide
set_option linter.unusedVariables false
set_option linter.unusedSimpArgs false

theorem min_q (a : Option Addr) (n c : Nat) (f : Nat → Int) (w : World) (m : Nat) (hf : Row w a (n + 1) f) (hn : n + 1 ≤ 1152921504606846976) :
    Calls Try.prog 22 #[.slice a (n + 1) c] (w.drewN m) fun e w' => e = .returned (.int .i64 (bestTo ltB f 0 n)) ∧ w.drewN m = w' :=
  (min_any a (n + 1) c f _ (hf.drewN m) hn (by omega)).mono fun e w' ⟨v, he, hm, hw⟩ => ⟨by rw [he, isMin_best hm], hw⟩

set_option maxHeartbeats 2000000 in
theorem clockLeast_walk (a0 : Option Addr) (len0 cap0 : Nat) (z0 : List Int) (a1 : Int) (a2 : Int) (w : World) (f0 : IsFlat w a0 len0 cap0 2 z0) (r0 : cap0 * 16 ≤ 140737488351232) (b1 : InI64 a1) (b2 : InI64 a2) :
    Calls Try.prog 8 #[.slice a0 len0 cap0, .int .i64 a1, .int .i64 a2] w fun e w' => e = .returned (.bool true) ∧ Below w.heap.size w w' := by
  have hle := f0.le'
  have hs := f0.rowC (by omega)
  have hfb : ∀ k j, InI64 ((fun k j => z0.getD (k * 2 + j) 0) k j) := fun k j => f0.boundC _
  generalize (fun k j => z0.getD (k * 2 + j) 0) = f at hs hfb
  clear f0
  have q1 := b1.2
  have q2 := b2.2
  by_cases c3 : pRight len0 f = true
  · have HP := Lib.hid (pRight_iff.1 c3)
    clear c3
    by_cases c6 : a1 < 1 ∨ a2 < 1
    · have H6 := Lib.hid c6
      clear c6
      go_enter Try.func8, Try.ntmps8
      go_wp2_with (go_at_call 18; refine (clock_alive _).mono ?_; rintro e w' ⟨rfl, os, n_, rfl⟩)
      refine (pwaits_off a0 len0 cap0 f _ (by repeat (first | (with_reducible assumption) | (with_reducible exact RowC.nil) | (with_reducible apply RowC.drewN) | (with_reducible apply RowC.drew) | (with_reducible apply RowC.more) | (with_reducible apply RowC.alloc))) (by omega) HP.out a1 a2 H6.out).mono ?_
      rintro e w1 ⟨rfl, os_3, d_3, rfl⟩
      go_wp2_with fail
      refine (pways_any a0 len0 cap0 f _ (by repeat (first | (with_reducible assumption) | (with_reducible exact RowC.nil) | (with_reducible apply RowC.drewN) | (with_reducible apply RowC.drew) | (with_reducible apply RowC.more) | (with_reducible apply RowC.alloc))) (by omega) HP.out).mono ?_
      rintro e w1 ⟨a_4, c_4, rfl, hc_4, hr_4, hb_4⟩
      obtain ⟨os_4, d_4, rfl⟩ := More.of_below hb_4
      clear hb_4 hr_4
      go_wp2_with fail
      have hmz : More w (((w.more os n_).more os_3 d_3).more os_4 d_4) := (by repeat (first | (with_reducible assumption) | (with_reducible exact More.refl _) | (with_reducible refine More.alloc ?_ _) | (with_reducible refine More.more ?_ _ _) | (with_reducible refine More.drewN ?_ _) | (with_reducible refine More.drew ?_)))
      generalize ((w.more os n_).more os_3 d_3).more os_4 d_4 = wz at *
      go_loopw [21] (fun i wr => i = .int .i64 0 ∧ wr = wz) (fun i _ => 0)
      case atStart => exact ⟨rfl, rfl⟩
      case round =>
        obtain ⟨rfl, rfl⟩ := hrel
        rcases Nat.eq_zero_or_pos len0 with h0 | h0
        · subst h0
          go_wp2
          go_ret
          exact ⟨rfl, hmz.below⟩
        · have e0 : ((0 : Int) == (len0 : Int)) = false := by simp; omega
          rcases H6.out with c | c
          · have e1 : decide (a1 < 1) = true := by simpa using c
            go_wp2
            go_ret
            exact ⟨rfl, hmz.below⟩
          · by_cases c7 : a1 < 1
            · have e1 : decide (a1 < 1) = true := by simpa using c7
              go_wp2
              go_ret
              exact ⟨rfl, hmz.below⟩
            · have e1 : decide (a1 < 1) = false := by simpa using c7
              have e2 : decide (a2 < 1) = true := by simpa using c
              go_wp2
              go_ret
              exact ⟨rfl, hmz.below⟩
    · have HL : Hid (∀ k : Nat, 0 ≤ pwaits f a1 a2 k ∧ (k = 0 → pwaits f a1 a2 k = 0) ∧ (bestTo ltB (pways f) 0 k = pways f k → pwaits f a1 a2 k = 0)) := fun k => waits_least (by omega) (by omega) k
      have p1 : 1 ≤ a1 := by omega
      have p2 : 1 ≤ a2 := by omega
      clear c6
      go_enter Try.func8, Try.ntmps8
      go_wp2_with (go_at_call 18; refine (clock_alive _).mono ?_; rintro e w' ⟨rfl, os, n_, rfl⟩)
      refine (pwaits_any a0 len0 cap0 f _ (by repeat (first | (with_reducible assumption) | (with_reducible exact RowC.nil) | (with_reducible apply RowC.drewN) | (with_reducible apply RowC.drew) | (with_reducible apply RowC.more) | (with_reducible apply RowC.alloc))) (by omega) HP.out a1 a2 p1 q1 p2 q2).mono ?_
      rintro e w1 ⟨a_3, c_3, rfl, hc_3, hr_3, hb_3⟩
      obtain ⟨os_3, d_3, rfl⟩ := More.of_below hb_3
      go_wp2_with fail
      refine (pways_any a0 len0 cap0 f _ (by repeat (first | (with_reducible assumption) | (with_reducible exact RowC.nil) | (with_reducible apply RowC.drewN) | (with_reducible apply RowC.drew) | (with_reducible apply RowC.more) | (with_reducible apply RowC.alloc))) (by omega) HP.out).mono ?_
      rintro e w1 ⟨a_4, c_4, rfl, hc_4, hr_4, hb_4⟩
      obtain ⟨os_4, d_4, rfl⟩ := More.of_below hb_4
      have hmz : More w (((w.more os n_).more os_3 d_3).more os_4 d_4) := (by repeat (first | (with_reducible assumption) | (with_reducible exact More.refl _) | (with_reducible refine More.alloc ?_ _) | (with_reducible refine More.more ?_ _ _) | (with_reducible refine More.drewN ?_ _) | (with_reducible refine More.drew ?_)))
      have hXz : Row (((w.more os n_).more os_3 d_3).more os_4 d_4) a_3 len0 (pwaits f a1 a2) := (by repeat (first | (with_reducible assumption) | (with_reducible exact Row.nil) | (with_reducible apply Row.drewN) | (with_reducible apply Row.drew) | (with_reducible apply Row.more) | (with_reducible apply Row.alloc)))
      have hWz : Row (((w.more os n_).more os_3 d_3).more os_4 d_4) a_4 len0 (pways f) := (by repeat (first | (with_reducible assumption) | (with_reducible exact Row.nil) | (with_reducible apply Row.drewN) | (with_reducible apply Row.drew) | (with_reducible apply Row.more) | (with_reducible apply Row.alloc)))
      clear hb_3 hb_4 hr_3 hr_4
      generalize ((w.more os n_).more os_3 d_3).more os_4 d_4 = wz at *
      go_wp2_with fail
      go_loopw [21] (fun i wi => ∃ k dr : Nat, i = .int .i64 k ∧ k ≤ len0 ∧ wi = wz.drewN dr) (fun i _ => len0 - (intOf i).toNat)
      case atStart => exact ⟨0, 0, rfl, Nat.zero_le _, rfl⟩
      case round =>
        obtain ⟨k, dr, rfl, hk, rfl⟩ := hrel
        by_cases hlt : k < len0
        · obtain ⟨p1', o1, X, rfl, g1, k1, hX⟩ := hXz.at_ hlt
          obtain ⟨p2', o2, V, rfl, g2, k2, hV⟩ := hWz.at_ hlt
          have hl := HL.out k
          rw [← hX.out, ← hV.out] at hl
          obtain ⟨l1, l2, l3⟩ := hl
          have t1 : (k : Int) < (len0 : Int) := by omega
          have t3 : (0 : Int) ≤ (k : Int) + 1 := by omega
          have t4 : (k : Int) + 1 ≤ (c_4 : Int) := by omega
          have t5 : ((k : Int) + 1).toNat = k + 1 := by omega
          have kw : IntKind.i64.wrap ((k : Int) + 1) = (k : Int) + 1 := IntWalk.i64_in _ (by omega)
          have e1 : decide (X < 0) = false := by simp; omega
          have hW1 : Row wz (some ⟨p2', o2, none⟩) (k + 1) (pways f) := fun _ => by
            obtain ⟨b, off, e, hb, hc⟩ := hWz (by omega)
            exact ⟨b, off, e, hb, fun j hj => hc j (by omega)⟩
          obtain ⟨mv, hmv⟩ : ∃ mv, Hid (bestTo ltB (pways f) 0 k = mv) := ⟨_, rfl⟩
          have HQ : ∀ m c, Calls Try.prog 22 #[.slice (some ⟨p2', o2, none⟩) (k + 1) c] (wz.drewN m) fun e w' => e = .returned (.int .i64 mv) ∧ wz.drewN m = w' := fun m c => by
            rw [← hmv.out]
            exact min_q _ k c _ wz m hW1 (by omega)
          have HQh := Lib.hid HQ
          rw [hmv.out] at l3
          clear HQ hW1 hmv
          have ROUND_ : True := trivial
          by_cases h0 : k = 0
          · have e2 : ((k : Int) == 0) = true := by simp; omega
            have e2' : (k == 0) = true := by simp; omega
            have hX0 : X = 0 := l2 h0
            subst hX0
            clear l1 l2 l3 h0
            by_cases hm : mv = V
            · have e3 : (mv == V) = true := by simpa using hm
              clear hm
              go_wp2_with fail
              go_quiet ((go_at_call 22; first | exact quiet_left (HQh.out _ _) | exact quiet_add_left (HQh.out _ _)))
              go_wp2
              go_roundw
              case rel => exact ⟨k + 1, _, by go_num, by omega, rfl⟩
              case measure => simp [intOf]; omega
            · have e3 : (mv == V) = false := by simpa using hm
              clear hm
              go_wp2_with fail
              go_quiet ((go_at_call 22; first | exact quiet_left (HQh.out _ _) | exact quiet_add_left (HQh.out _ _)))
              go_wp2
              go_roundw
              case rel => exact ⟨k + 1, _, by go_num, by omega, rfl⟩
              case measure => simp [intOf]; omega
          · have e2 : ((k : Int) == 0) = false := by simp; omega
            have e2' : (k == 0) = false := by simp; omega
            by_cases hm : mv = V
            · have e3 : (mv == V) = true := by simpa using hm
              have hX0 : X = 0 := l3 hm
              subst hX0
              clear l1 l2 l3 hm h0
              go_wp2_with fail
              go_quiet ((go_at_call 22; first | exact quiet_left (HQh.out _ _) | exact quiet_add_left (HQh.out _ _)))
              go_wp2
              go_roundw
              case rel => exact ⟨k + 1, _, by go_num, by omega, rfl⟩
              case measure => simp [intOf]; omega
            · have e3 : (mv == V) = false := by simpa using hm
              clear l1 l2 l3 hm h0
              go_wp2_with fail
              go_quiet ((go_at_call 22; first | exact quiet_left (HQh.out _ _) | exact quiet_add_left (HQh.out _ _)))
              go_wp2
              go_roundw
              case rel => exact ⟨k + 1, _, by go_num, by omega, rfl⟩
              case measure => simp [intOf]; omega
        · obtain rfl : k = len0 := by omega
          go_wp2
          go_ret
          exact ⟨rfl, (hmz.drewN _).below⟩
  · have c3' : pRight len0 f = false := by simpa using c3
    have HR := Lib.hid c3'
    clear c3 c3'
    go_enter Try.func8, Try.ntmps8
    go_wp2_with (go_at_call 18; refine (clock_alive _).mono ?_; rintro e w' ⟨rfl, os, n_, rfl⟩)
    refine (pwaits_bad a0 len0 cap0 f _ (by repeat (first | (with_reducible assumption) | (with_reducible exact RowC.nil) | (with_reducible apply RowC.drewN) | (with_reducible apply RowC.drew) | (with_reducible apply RowC.more) | (with_reducible apply RowC.alloc))) (by omega) HR.out a1 a2 q1 q2).mono ?_
    rintro e w1 ⟨rfl, os_3, d_3, rfl⟩
    go_wp2_with fail
    refine (pways_none a0 len0 cap0 f _ (by repeat (first | (with_reducible assumption) | (with_reducible exact RowC.nil) | (with_reducible apply RowC.drewN) | (with_reducible apply RowC.drew) | (with_reducible apply RowC.more) | (with_reducible apply RowC.alloc))) (by omega) HR.out).mono ?_
    rintro e w1 ⟨rfl, os_4, d_4, rfl⟩
    go_wp2_with fail
    have hmz : More w (((w.more os n_).more os_3 d_3).more os_4 d_4) := (by repeat (first | (with_reducible assumption) | (with_reducible exact More.refl _) | (with_reducible refine More.alloc ?_ _) | (with_reducible refine More.more ?_ _ _) | (with_reducible refine More.drewN ?_ _) | (with_reducible refine More.drew ?_)))
    generalize ((w.more os n_).more os_3 d_3).more os_4 d_4 = wz at *
    go_loopw [21] (fun i wr => i = .int .i64 0 ∧ wr = wz) (fun i _ => 0)
    case atStart => exact ⟨rfl, rfl⟩
    case round =>
      obtain ⟨rfl, rfl⟩ := hrel
      go_wp2
      go_ret
      exact ⟨rfl, hmz.below⟩
end Go.Proofs.Ytmlkebemkibipaa
