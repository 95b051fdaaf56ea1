/- filter.Smooth: what it answers, for every input. Conditions: the length within the form's reach. -/
import Derived.Test.YtpnnijficjfcjaaNum
import Derived.Test.YtpnnijficjfcjaaKit2
namespace Go.Tide
/-- A number as the filter takes it. -/
def fitM (x : Int) : Int := min (max x 0) 1099511627776
/-- The mean behind number k, in parts of one. -/
def smAt (s : Nat) (f : Nat → Int) : Nat → Int
  | 0 => fitM (f 0) * 65536
  | k + 1 => smAt s f k + (fitM (f (k + 1)) * 65536 - smAt s f k) / 2 ^ s
/-- The mean ahead of number k (ahead of the first one: 0). -/
def smY (s : Nat) (f : Nat → Int) : Nat → Int
  | 0 => 0
  | k + 1 => smAt s f k
/-- The mean told behind number k. -/
def smooth (s : Nat) (f : Nat → Int) (k : Nat) : Int := smAt s f k / 65536

theorem step_between {y x : Int} (s : Nat) : min y x ≤ y + (x - y) / 2 ^ s ∧ y + (x - y) / 2 ^ s ≤ max y x := by
  have hp : (0 : Int) < 2 ^ s := Int.pow_pos (by decide)
  rcases Int.le_total y x with h | h
  · have h1 : 0 ≤ (x - y) / 2 ^ s := Int.ediv_nonneg (by omega) (by omega)
    have h2 : (x - y) / 2 ^ s ≤ x - y := Int.ediv_le_self _ (by omega)
    omega
  · have h1 : (x - y) / 2 ^ s ≤ 0 := by
      have := Int.ediv_le_ediv hp (show x - y ≤ 0 by omega)
      simpa using this
    have h2 : x - y ≤ (x - y) / 2 ^ s := by
      have h3 : (x - y) * 2 ^ s ≤ (x - y) * 1 := Int.mul_le_mul_of_nonpos_left (by omega) (by omega)
      rw [Int.le_ediv_iff_mul_le hp]
      omega
    omega
theorem smAt_bounds (s : Nat) (f : Nat → Int) (k : Nat) : 0 ≤ smAt s f k ∧ smAt s f k ≤ 72057594037927936 := by
  induction k with
  | zero => simp only [smAt, fitM]; omega
  | succ k ih =>
    have := step_between (y := smAt s f k) (x := fitM (f (k + 1)) * 65536) s
    have h2 : 0 ≤ fitM (f (k + 1)) ∧ fitM (f (k + 1)) ≤ 1099511627776 := by simp only [fitM]; omega
    simp only [smAt]
    omega
theorem smY_bounds (s : Nat) (f : Nat → Int) (k : Nat) : 0 ≤ smY s f k ∧ smY s f k ≤ 72057594037927936 := by
  cases k with
  | zero => simp only [smY]; omega
  | succ k => exact smAt_bounds s f k
end Go.Tide
namespace Go.Proofs.Ytpnnijficjfcjaa
open Go.RowKit Go.Tide
set_option linter.unusedVariables false
set_option linter.unusedSimpArgs false
theorem smooth_none (a : Option Addr) (n c : Nat) (s : Int) (w : World) (hs : s < 0 ∨ 16 < s) :
    Calls Try.prog 30 #[.slice a n c, .int .i64 s] w fun e w' => e = .returned (.slice none 0 0) ∧ w = w' := by
  go_enter Try.func30, Try.ntmps30
  go_wp2
  all_goals
    go_ret
    exact ⟨rfl, rfl⟩

set_option maxHeartbeats 1000000 in
set_option maxRecDepth 20000 in
theorem smooth_any (a : Option Addr) (n c : Nat) (f : Nat → Int) (s : Nat) (w : World) (hf : Row w a n f) (hn : n ≤ 17592186044416) (hs : s ≤ 16) :
    Calls Try.prog 30 #[.slice a n c, .int .i64 s] w fun e w' => ∃ a' c', e = .returned (.slice a' n c') ∧ n ≤ c' ∧ Row w' a' n (smooth s f) ∧ Below w.heap.size w w' := by
  obtain ⟨i0, hi, hz0, hz1, hz2⟩ := info_parts intInfo
  go_enter Try.func30, Try.ntmps30
  go_wp2
  go_loopw [5, 6, 17] (fun out y i wr => ∃ k : Nat, i = .int .i64 k ∧ k ≤ n ∧ y = .int .i64 (smY s f k) ∧ wr.ownsRow w.heap.size 3 1 out k (cellsOf k (smooth s f)) ∧ Below w.heap.size w wr)
    (fun _ _ i _ => n - (intOf i).toNat)
  case atStart => exact ⟨0, rfl, Nat.zero_le _, rfl, World.ownsRow_nil _ _ _ _, Below.refl _ _⟩
  case round =>
    rename_i out _ _ _
    obtain ⟨k, rfl, hk, rfl, hown, hbe⟩ := hrel
    by_cases hlt : k < n
    · obtain ⟨b, off, xv, rfl, hb, hc, hx⟩ := hf.at_ hlt
      have hcell : wr.cell? ⟨b, off + k, none⟩ = some (.int .i64 xv) := (hbe.cell (p := ⟨b, off + k, none⟩) hb).trans hc
      have hfm : (if 1099511627776 < fit xv then 1099511627776 else fit xv) = fitM xv := by simp only [fit, fitM]; omega
      have m0 : 0 ≤ fitM xv := by simp only [fitM]; omega
      have m1 : fitM xv ≤ 1099511627776 := by simp only [fitM]; omega
      have hs64 : (s : Int) ≤ 64 := by omega
      have hsz := hbe.size
      have hy := smY_bounds s f k
      obtain ⟨Y, HY⟩ : ∃ Y, Hid (smY s f k = Y) := ⟨_, rfl⟩
      rw [HY.out] at hy ⊢
      obtain ⟨hy0, hy1⟩ := hy
      clear hc
      by_cases hk0 : k = 0
      · have hk1 : ((k : Int) == 0) = true := by simpa using hk0
        have HK := Lib.hid hk0
        clear hk0
        go_wp2_with (first
          | (go_at_call 29; refine (fit_any _ _).mono ?_; rintro e w' ⟨rfl, rfl⟩)
          | (at_builtin; refine wpList_append_own _ rfl _ _ 32 rfl _ 3 i0 (.int .i64 0) 1 8 Try.underlying32 hi hz0 hz1 hz2 rfl (by decide) _ _ _ rfl (hown.alloc _) _ _ _ [.int .i64 _] rfl rfl (cell_one _ _ _) (oneCell_int _ _) (by simp only [maxLen]; omega) (by omega) (by simp; omega) ?_; intro v' w1 hown' hgrow hnil; clear hnil))
        go_roundw
        case rel =>
          have h1 : smAt s f k = fitM xv * 65536 := by rw [hx.out, HK.out]; rfl
          refine ⟨k + 1, by go_num, by omega, ?_, ?_, below_append hbe hsz hown hgrow⟩
          · show _ = Value.int .i64 (smAt s f k)
            rw [h1]
          · rw [cellsOf_succ, show smooth s f k = fitM xv by unfold smooth; omega]
            exact hown'
        case measure => simp [intOf]; omega
      · have hk1 : ((k : Int) == 0) = false := by simpa using hk0
        have HK := Lib.hid hk0
        clear hk0
        have hb2 := step_between (y := Y) (x := fitM xv * 65536) s
        have hb3 : 0 ≤ Y + (fitM xv * 65536 - Y) / 2 ^ s := by omega
        have hb4 : Y + (fitM xv * 65536 - Y) / 2 ^ s ≤ 72057594037927936 := by omega
        clear hb2
        go_wp2_with (first
          | (go_at_call 29; refine (fit_any _ _).mono ?_; rintro e w' ⟨rfl, rfl⟩)
          | (at_builtin; refine wpList_append_own _ rfl _ _ 32 rfl _ 3 i0 (.int .i64 0) 1 8 Try.underlying32 hi hz0 hz1 hz2 rfl (by decide) _ _ _ rfl (hown.alloc _) _ _ _ [.int .i64 _] rfl rfl (cell_one _ _ _) (oneCell_int _ _) (by simp only [maxLen]; omega) (by omega) (by simp; omega) ?_; intro v' w1 hown' hgrow hnil; clear hnil))
        go_roundw
        case rel =>
          have h1 : smAt s f k = Y + (fitM xv * 65536 - Y) / 2 ^ s := by
            obtain ⟨j, rfl⟩ : ∃ j, k = j + 1 := ⟨k - 1, by have := HK.out; omega⟩
            rw [hx.out, ← HY.out]
            rfl
          refine ⟨k + 1, by go_num, by omega, ?_, ?_, below_append hbe hsz hown hgrow⟩
          · show _ = Value.int .i64 (smAt s f k)
            rw [h1]
          · rw [cellsOf_succ, show smooth s f k = (Y + (fitM xv * 65536 - Y) / 2 ^ s) / 65536 by unfold smooth; rw [h1]]
            exact hown'
        case measure => simp [intOf]; omega
    · obtain rfl : k = n := by omega
      obtain ⟨a', c', hv, hc'⟩ := own_slice hown
      subst hv
      go_wp2
      go_ret
      exact ⟨a', c', rfl, hc', Row.of_own hown, hbe⟩

/-- Smooth at a shift that is an int. -/
theorem smooth_int (a : Option Addr) (n c : Nat) (f : Nat → Int) (s : Int) (w : World) (hf : Row w a n f) (hn : n ≤ 17592186044416) (hs0 : 0 ≤ s) (hs : s ≤ 16) :
    Calls Try.prog 30 #[.slice a n c, .int .i64 s] w fun e w' => ∃ a' c', e = .returned (.slice a' n c') ∧ n ≤ c' ∧ Row w' a' n (smooth s.toNat f) ∧ Below w.heap.size w w' := by
  obtain ⟨k, rfl⟩ := Int.eq_ofNat_of_zero_le hs0
  exact smooth_any a n c f k w hf hn (by omega)

theorem smooth_le (s : Nat) (f : Nat → Int) (k : Nat) : 0 ≤ smooth s f k ∧ smooth s f k ≤ 1099511627776 := by
  have := smAt_bounds s f k
  unfold smooth
  omega

/-- How far number k is from the mean told ahead of it. -/
def farOf (s : Nat) (f : Nat → Int) (k : Nat) : Int := max (fitM (f k) - smooth s f (k - 1)) (smooth s f (k - 1) - fitM (f k))
def spread (s : Nat) (f : Nat → Int) : Nat → Int := smooth s (farOf s f)

set_option maxHeartbeats 1000000 in
set_option maxRecDepth 20000 in
theorem spread_int (a : Option Addr) (n c : Nat) (f : Nat → Int) (s : Int) (w : World) (hf : Row w a n f) (hn : n ≤ 17592186044416) (hs0 : 0 ≤ s) (hs : s ≤ 16) :
    Calls Try.prog 31 #[.slice a n c, .int .i64 s] w fun e w' => ∃ a' c', e = .returned (.slice a' n c') ∧ n ≤ c' ∧ Row w' a' n (spread s.toNat f) ∧ Below w.heap.size w w' := by
  obtain ⟨i0, hi, hz0, hz1, hz2⟩ := info_parts intInfo
  go_enter Try.func31, Try.ntmps31
  go_wp2_with fail
  refine (smooth_int a n c f s _ hf hn hs0 hs).mono ?_
  rintro e w1 ⟨a1, c1, rfl, hc1, hr1, hb1⟩
  go_wp2_with fail
  go_loopw [6, 15] (fun out i wr => ∃ k : Nat, i = .int .i64 k ∧ k ≤ n ∧ wr.ownsRow w1.heap.size 3 1 out k (cellsOf k (farOf s.toNat f)) ∧ Below w1.heap.size w1 wr)
    (fun _ i _ => n - (intOf i).toNat)
  case atStart => exact ⟨0, rfl, Nat.zero_le _, World.ownsRow_nil _ _ _ _, Below.refl _ _⟩
  case round =>
    rename_i out _ _
    obtain ⟨k, rfl, hk, hown, hbe⟩ := hrel
    have hsz := hbe.size
    by_cases hlt : k < n
    · obtain ⟨b, off, xv, rfl, hb, hc, hx⟩ := hf.at_ hlt
      have hbt := hb1.trans (hbe.mono hb1.size)
      have hcell : wr.cell? ⟨b, off + k, none⟩ = some (.int .i64 xv) := (hbt.cell (p := ⟨b, off + k, none⟩) hb).trans hc
      obtain ⟨b2, o2, yv, rfl, hb2, hc2, hy⟩ := (hr1.below hbe (Nat.le_refl _)).at_ (show k - 1 < n by omega)
      have hfm : (if 1099511627776 < fit xv then 1099511627776 else fit xv) = fitM xv := by simp only [fit, fitM]; omega
      have m0 : 0 ≤ fitM xv := by simp only [fitM]; omega
      have m1 : fitM xv ≤ 1099511627776 := by simp only [fitM]; omega
      have y0 : 0 ≤ yv := by rw [hy.out]; exact (smooth_le _ _ _).1
      have y1 : yv ≤ 1099511627776 := by rw [hy.out]; exact (smooth_le _ _ _).2
      have hidx : (if (k : Int) - 1 < 0 then 0 else (k : Int) - 1) = ((k - 1 : Nat) : Int) := by omega
      have hlt2 : ((k - 1 : Nat) : Int) < (n : Int) := by omega
      clear hc
      go_wp2_with fail
      go_quiet ((go_at_call 29; exact quiet_left (fit_any _ _)))
      go_wp2_with (at_builtin; refine wpList_append_own _ rfl _ _ 32 rfl _ 3 i0 (.int .i64 0) 1 8 Try.underlying32 hi hz0 hz1 hz2 rfl (by decide) _ _ _ rfl (own_drewN (hown.alloc _) _) _ _ _ [.int .i64 _] rfl rfl (cell_oneq _ _ _ _) (oneCell_int _ _) (by simp only [maxLen]; omega) (by omega) (by simp; omega) ?_; intro v' w1 hown' hgrow hnil; clear hnil)
      go_roundw
      case rel =>
        refine ⟨k + 1, by go_num, by omega, ?_, below_appendq hbe hsz hown hgrow⟩
        rw [cellsOf_succ]
        have hv : farOf s.toNat f k = if fitM xv - yv < yv - fitM xv then yv - fitM xv else fitM xv - yv := by
          unfold farOf
          rw [← hx.out, ← hy.out]
          omega
        rw [hv]
        exact hown'
      case measure => simp [intOf]; omega
    · obtain rfl : k = n := by omega
      obtain ⟨a', c', hv, hc'⟩ := own_slice hown
      subst hv
      go_wp2_with fail
      refine (smooth_int a' k c' _ s _ (Row.of_own hown) hn hs0 hs).mono ?_
      rintro e w2 ⟨a2, c2, rfl, hc2, hr2, hb2⟩
      go_wp2
      go_ret
      exact ⟨a2, c2, rfl, hc2, hr2, (hb1.trans (hbe.mono hb1.size)).trans (hb2.mono (by have := hb1.size; omega))⟩
end Go.Proofs.Ytpnnijficjfcjaa
