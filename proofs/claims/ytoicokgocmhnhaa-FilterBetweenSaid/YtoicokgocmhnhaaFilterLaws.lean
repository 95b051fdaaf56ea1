/- FilterBetween, FilterRises: for every input the laws return true. Conditions: none. -/
import Derived.Test.YtoicokgocmhnhaaFilterAlive
namespace Go.Tide
/-- What the law's loop knows ahead of number k: the least and the greatest of what was seen lie about the mean. -/
def FbSt (s : Nat) (f : Nat → Int) (k : Nat) (low high : Int) : Prop :=
  0 ≤ low ∧ low ≤ 1152921504606846976 ∧ 0 ≤ high ∧ high ≤ 1099511627776 ∧ ∀ j, k = j + 1 → low * 65536 ≤ smAt s f j ∧ smAt s f j ≤ high * 65536
theorem FbSt.step {s : Nat} {f : Nat → Int} {k : Nat} {low high : Int} (h : FbSt s f k low high) :
    FbSt s f (k + 1) (if fitM (f k) < low then fitM (f k) else low) (if high < fitM (f k) then fitM (f k) else high) ∧
    (if fitM (f k) < low then fitM (f k) else low) ≤ smooth s f k ∧ smooth s f k ≤ (if high < fitM (f k) then fitM (f k) else high) := by
  obtain ⟨h1, h2, h3, h4, h5⟩ := h
  have hx : 0 ≤ fitM (f k) ∧ fitM (f k) ≤ 1099511627776 := by simp only [fitM]; omega
  have key : (if fitM (f k) < low then fitM (f k) else low) * 65536 ≤ smAt s f k ∧ smAt s f k ≤ (if high < fitM (f k) then fitM (f k) else high) * 65536 := by
    cases k with
    | zero => simp only [smAt]; omega
    | succ j =>
      have h6 := h5 j rfl
      have h7 := step_between (y := smAt s f j) (x := fitM (f (j + 1)) * 65536) s
      simp only [smAt]
      omega
  refine ⟨⟨by omega, by omega, by omega, by omega, fun j hj => ?_⟩, ?_, ?_⟩
  · obtain rfl : k = j := by omega
    exact key
  · unfold smooth; omega
  · unfold smooth; omega

/-- The row that is nowhere less. -/
def bigOf (n : Nat) (f g : Nat → Int) (k : Nat) : Int := fitM (f k) + if k < n then fitM (g k) else 0
theorem step_mono {y x y' x' : Int} (s : Nat) (hy : y ≤ y') (hx : x ≤ x') : y + (x - y) / 2 ^ s ≤ y' + (x' - y') / 2 ^ s := by
  have hp : (0 : Int) < 2 ^ s := Int.pow_pos (by decide)
  generalize (2 : Int) ^ s = p at *
  have e : ∀ y x : Int, y + (x - y) / p = (x + (p - 1) * y) / p := by
    intro y x
    have h1 : x + (p - 1) * y = (x - y) + y * p := by
      rw [Int.sub_mul, Int.one_mul, Int.mul_comm p y]
      omega
    rw [h1, Int.add_mul_ediv_right _ _ (by omega : p ≠ 0)]
    omega
  rw [e, e]
  refine Int.ediv_le_ediv hp ?_
  have := Int.mul_le_mul_of_nonneg_left hy (by omega : 0 ≤ p - 1)
  omega
theorem smAt_mono (s : Nat) {f g : Nat → Int} {n : Nat} (h : ∀ k, k < n → fitM (f k) ≤ fitM (g k)) : ∀ k, k < n → smAt s f k ≤ smAt s g k := by
  intro k
  induction k with
  | zero => intro hk; have := h 0 hk; simp only [smAt]; omega
  | succ k ih =>
    intro hk
    have h1 := ih (by omega)
    have h2 := h (k + 1) hk
    simp only [smAt]
    exact step_mono s h1 (by omega)
end Go.Tide
namespace Go.Proofs.Ytoicokgocmhnhaa
open Go.RowKit Go.Tide
set_option linter.unusedVariables false
set_option linter.unusedSimpArgs false

set_option maxHeartbeats 1000000 in
theorem filterBetween_walk (a0 : Option Addr) (len0 cap0 : Nat) (z0 : List Int) (a1 : Int) (w : World) (f0 : IsFlat w a0 len0 cap0 1 z0) (r0 : cap0 * 8 ≤ 140737488351232) (b1 : InI64 a1) :
    Calls Try.prog 3 #[.slice a0 len0 cap0, .int .i64 a1] w fun e w' => e = .returned (.bool true) ∧ Below w.heap.size w w' := by
  have hle := f0.le
  have hrow := f0.row
  generalize (fun k => z0.getD k 0) = f at hrow
  clear f0
  by_cases hs : 0 ≤ a1 ∧ a1 ≤ 16
  · obtain ⟨hs0, hs1⟩ := hs
    go_enter Try.func3, Try.ntmps3
    go_wp2_with (go_at_call 15; refine (filter_alive _).mono ?_; rintro e w' ⟨rfl, os, n, rfl⟩)
    refine (smooth_int a0 len0 cap0 f a1 _ (hrow.more _ _) (by omega) hs0 hs1).mono ?_
    rintro e w1 ⟨am, cm, rfl, hcm, hrm, hb1⟩
    have hb2 := ((Below.refl w.heap.size w).more (Nat.le_refl _) os n).trans (hb1.mono (by simp))
    generalize w.more os n = w0 at *
    go_wp2_with fail
    go_loopw [6, 7, 31] (fun low high i wr => ∃ (k : Nat) (lo hi : Int), i = .int .i64 k ∧ k ≤ len0 ∧ low = .int .i64 lo ∧ high = .int .i64 hi ∧ FbSt a1.toNat f k lo hi ∧ Below w1.heap.size w1 wr) (fun _ _ i _ => len0 - (intOf i).toNat)
    case atStart => exact ⟨0, _, _, rfl, Nat.zero_le _, rfl, rfl, ⟨by omega, by omega, by omega, by omega, fun j hj => by omega⟩, Below.refl _ _⟩
    case round =>
      obtain ⟨k, lo, hi, rfl, hk, rfl, rfl, hst, hbe⟩ := hrel
      by_cases hlt : k < len0
      · obtain ⟨b, off, xv, rfl, hb, hc, hx⟩ := ((hrow.below hb2 (Nat.le_refl _)).below hbe (Nat.le_refl _)).at_ hlt
        obtain ⟨b2, o2, yv, rfl, hb3, hc2, hy⟩ := (hrm.below hbe (Nat.le_refl _)).at_ hlt
        have hfm : (if 1099511627776 < fit xv then 1099511627776 else fit xv) = fitM xv := by simp only [fit, fitM]; omega
        have hst' := hst.step
        rw [← hx.out, ← hy.out] at hst'
        obtain ⟨hst1, hst2, hst3⟩ := hst'
        have HST := Lib.hid hst1
        have t1 : decide (yv < if fitM xv < lo then fitM xv else lo) = false := by simpa using hst2
        have t2 : decide ((if hi < fitM xv then fitM xv else hi) < yv) = false := by simpa using hst3
        clear hst1 hst2 hst3
        go_wp2_with (first
          | (go_at_call 17; refine (fit_any _ _).mono ?_; rintro e w' ⟨rfl, rfl⟩))
        go_roundw
        case rel => exact ⟨k + 1, _, _, by go_num, by omega, rfl, rfl, HST.out, hbe⟩
        case measure => simp [intOf]; omega
      · go_wp2
        go_ret
        exact ⟨rfl, hb2.trans (hbe.mono hb2.size)⟩
  · go_enter Try.func3, Try.ntmps3
    go_wp2_with (first
      | (go_at_call 15; refine (filter_alive _).mono ?_; rintro e w' ⟨rfl, os, n, rfl⟩)
      | (go_at_call 16; refine (smooth_none _ _ _ _ _ (by omega)).mono ?_; rintro e w' ⟨rfl, rfl⟩))
    all_goals
      go_ret
      exact ⟨rfl, More.below (by repeat (first | (with_reducible exact More.refl _) | (with_reducible refine More.alloc ?_ _) | (with_reducible refine More.more ?_ _ _) | (with_reducible refine More.drewN ?_ _) | (with_reducible refine More.drew ?_)))⟩

set_option maxHeartbeats 1000000 in
theorem filterRises_walk (a0 : Option Addr) (len0 cap0 : Nat) (z0 : List Int) (a1 : Option Addr) (len1 cap1 : Nat) (z1 : List Int) (a2 : Int) (w : World) (f0 : IsFlat w a0 len0 cap0 1 z0) (r0 : cap0 * 8 ≤ 140737488351232) (f1 : IsFlat w a1 len1 cap1 1 z1) (r1 : cap1 * 8 ≤ 140737488351232) (b2 : InI64 a2) :
    Calls Try.prog 4 #[.slice a0 len0 cap0, .slice a1 len1 cap1, .int .i64 a2] w fun e w' => e = .returned (.bool true) ∧ Below w.heap.size w w' := by
  have hle := f0.le
  have hle1 := f1.le
  have hrow := f0.row
  have hrow1 := f1.row
  generalize (fun k => z0.getD k 0) = f at hrow
  generalize (fun k => z1.getD k 0) = g at hrow1
  clear f0 f1
  obtain ⟨i0, hi, hz0, hz1, hz2⟩ := info_parts intInfo
  go_enter Try.func4, Try.ntmps4
  go_wp2_with (go_at_call 15; refine (filter_alive _).mono ?_; rintro e w' ⟨rfl, os, n, rfl⟩)
  have hb0 := (Below.refl w.heap.size w).more (Nat.le_refl _) os n
  generalize w.more os n = w0 at *
  go_loopw [7, 17] (fun out i wr => ∃ k : Nat, i = .int .i64 k ∧ k ≤ len0 ∧ wr.ownsRow w0.heap.size 3 1 out k (cellsOf k (bigOf len1 f g)) ∧ Below w0.heap.size w0 wr) (fun _ i _ => len0 - (intOf i).toNat)
  case atStart => exact ⟨0, rfl, Nat.zero_le _, World.ownsRow_nil _ _ _ _, Below.refl _ _⟩
  case round =>
    rename_i out _ _
    obtain ⟨k, rfl, hk, hown, hbe⟩ := hrel
    have hsz := hbe.size
    by_cases hlt : k < len0
    · obtain ⟨b, off, xv, rfl, hb, hc, hx⟩ := ((hrow.below hb0 (Nat.le_refl _)).below hbe (Nat.le_refl _)).at_ hlt
      have hfm : (if 1099511627776 < fit xv then 1099511627776 else fit xv) = fitM xv := by simp only [fit, fitM]; omega
      have m0 : 0 ≤ fitM xv := by simp only [fitM]; omega
      have m1 : fitM xv ≤ 1099511627776 := by simp only [fitM]; omega
      by_cases hl1 : k < len1
      · obtain ⟨b3, o3, yv, rfl, hb3, hc3, hy⟩ := ((hrow1.below hb0 (Nat.le_refl _)).below hbe (Nat.le_refl _)).at_ hl1
        have hfy : (if 1099511627776 < fit yv then 1099511627776 else fit yv) = fitM yv := by simp only [fit, fitM]; omega
        have y0 : 0 ≤ fitM yv := by simp only [fitM]; omega
        have y1 : fitM yv ≤ 1099511627776 := by simp only [fitM]; omega
        go_wp2_with (first
          | (go_at_call 17; refine (fit_any _ _).mono ?_; rintro e w' ⟨rfl, rfl⟩)
          | (at_builtin; refine wpList_append_own _ rfl _ _ 22 rfl _ 3 i0 (.int .i64 0) 1 8 Try.underlying22 hi hz0 hz1 hz2 rfl (by decide) _ _ _ rfl (hown.alloc _) _ _ _ [.int .i64 _] rfl rfl (cell_one _ _ _) (oneCell_int _ _) (by simp only [maxLen]; omega) (by omega) (by simp; omega) ?_; intro v' w1 hown' hgrow hnil; clear hnil))
        go_roundw
        case rel =>
          refine ⟨k + 1, by go_num, by omega, ?_, below_append hbe hsz hown hgrow⟩
          rw [cellsOf_succ, show bigOf len1 f g k = fitM xv + fitM yv by unfold bigOf; rw [if_pos hl1, hx.out, hy.out]]
          exact hown'
        case measure => simp [intOf]; omega
      · go_wp2_with (first
          | (go_at_call 17; refine (fit_any _ _).mono ?_; rintro e w' ⟨rfl, rfl⟩)
          | (at_builtin; refine wpList_append_own _ rfl _ _ 22 rfl _ 3 i0 (.int .i64 0) 1 8 Try.underlying22 hi hz0 hz1 hz2 rfl (by decide) _ _ _ rfl (hown.alloc _) _ _ _ [.int .i64 _] rfl rfl (cell_one _ _ _) (oneCell_int _ _) (by simp only [maxLen]; omega) (by omega) (by simp; omega) ?_; intro v' w1 hown' hgrow hnil; clear hnil))
        go_roundw
        case rel =>
          refine ⟨k + 1, by go_num, by omega, ?_, below_append hbe hsz hown hgrow⟩
          rw [cellsOf_succ, show bigOf len1 f g k = fitM xv by unfold bigOf; rw [if_neg hl1, hx.out]; omega]
          exact hown'
        case measure => simp [intOf]; omega
    · obtain rfl : k = len0 := by omega
      obtain ⟨ab, cb, hv, hcb⟩ := own_slice hown
      subst hv
      have hrb := Row.of_own hown
      have hra := (hrow.below hb0 (Nat.le_refl _)).below hbe (Nat.le_refl _)
      have hbt := hb0.trans (hbe.mono hb0.size)
      clear hown hrow hrow1
      by_cases hs : 0 ≤ a2 ∧ a2 ≤ 16
      · obtain ⟨hs0, hs1⟩ := hs
        go_wp2_with fail
        refine (smooth_int a0 k cap0 f a2 _ hra (by omega) hs0 hs1).mono ?_
        rintro e w2 ⟨as1, cs, rfl, hcs, hrs, hbs⟩
        go_wp2_with fail
        refine (smooth_int ab k cb (bigOf len1 f g) a2 _ (hrb.below hbs (Nat.le_refl _)) (by omega) hs0 hs1).mono ?_
        rintro e w3 ⟨at', ct, rfl, hct, hrt, hbt3⟩
        have hrs3 := hrs.below hbt3 (Nat.le_refl _)
        have hb3 : Below w.heap.size w w3 := hbt.trans ((hbs.mono hbt.size).trans (hbt3.mono (by have := hbs.size; have := hbt.size; omega)))
        have hmono := smAt_mono a2.toNat (n := k) (f := f) (g := bigOf len1 f g) (fun j _ => by
          have : fitM (f j) ≤ bigOf len1 f g j := by
            unfold bigOf
            have : 0 ≤ fitM (g j) := by simp only [fitM]; omega
            split <;> omega
          have h0 : 0 ≤ fitM (f j) ∧ fitM (f j) ≤ 1099511627776 := by simp only [fitM]; omega
          generalize bigOf len1 f g j = q at *
          simp only [fitM] at *
          omega)
        have HM := Lib.hid hmono
        clear hmono
        go_wp2_with fail
        go_loopw [55] (fun i wr => ∃ (j d : Nat), i = .int .i64 j ∧ j ≤ k ∧ wr = w3.drewN d) (fun i _ => k - (intOf i).toNat)
        case atStart => exact ⟨0, 0, rfl, Nat.zero_le _, rfl⟩
        case round =>
          obtain ⟨j, d, rfl, hj, rfl⟩ := hrel
          by_cases hlt2 : j < k
          · obtain ⟨b4, o4, xs, rfl, hb4, hc4, hx4⟩ := hrs3.at_ hlt2
            obtain ⟨b5, o5, xt, rfl, hb5, hc5, hx5⟩ := hrt.at_ hlt2
            have hle3 : xs ≤ xt := by
              rw [hx4.out, hx5.out]
              unfold smooth
              have := HM.out j hlt2
              omega
            go_wp2
            go_quiet (fail)
            go_wp2
            go_roundw
            case rel => exact ⟨j + 1, _, by go_num, by omega, rfl⟩
            case measure => simp [intOf]; omega
          · go_wp2
            go_ret
            exact ⟨rfl, hb3.drewN _⟩
      · go_wp2_with (go_at_call 16; refine (smooth_none _ _ _ _ _ (by omega)).mono ?_; rintro e w' ⟨rfl, rfl⟩)
        refine wp_loop_rounds 1 ?_
        rw [rounds_succ]
        go_wp2
        go_ret
        exact ⟨rfl, hbt⟩
end Go.Proofs.Ytoicokgocmhnhaa
