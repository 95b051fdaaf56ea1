/- What minplus.Conv, Over, Close, Unit and Parts answer, for every input. Conditions: lengths within the form's reach. -/
import Derived.Test.YtdilmnpoicdkhaaMpLaw
set_option linter.unusedVariables false
set_option linter.unusedSimpArgs false
namespace Go.Proofs.Ytdilmnpoicdkhaa
open Go.RowKit Go.Tide
set_option linter.unusedVariables false
set_option linter.unusedSimpArgs false

set_option maxHeartbeats 1000000 in
theorem conv_any (a b : Option Addr) (n m c d : Nat) (f g : Nat → Int) (w : World) (hf : Row w a n f) (hg : Row w b m g) (hn : n ≤ 17592186044400) (hm : m ≤ 17592186044400) :
    Calls Try.prog 44 #[.slice a n c, .slice b m d] w fun e w' => ∃ a' c', e = .returned (.slice a' (min n m) c') ∧ min n m ≤ c' ∧ Row w' a' (min n m) (conv f g) ∧ Below w.heap.size w w' := by
  have hmin : (if m < n then (m : Int) else (n : Int)) = ((min n m : Nat) : Int) := by split <;> omega
  obtain ⟨q, hq⟩ : ∃ q, Hid (min n m = q) := ⟨_, rfl⟩
  rw [hq.out] at hmin ⊢
  have hqn : q ≤ n := by have := hq.out; omega
  have hqm : q ≤ m := by have := hq.out; omega
  obtain ⟨i0, hi, hz0, hz1, hz2⟩ := info_parts intInfo
  go_enter Try.func44, Try.ntmps44
  go_wp2
  go_loopw [5, 14] (fun out i wr => ∃ k : Nat, i = .int .i64 k ∧ k ≤ q ∧ wr.ownsRow w.heap.size 3 1 out k (cellsOf k (conv f g)) ∧ Below w.heap.size w wr) (fun _ i _ => q - (intOf i).toNat)
  case atStart => exact ⟨0, rfl, Nat.zero_le _, World.ownsRow_nil _ _ _ _, Below.refl _ _⟩
  case round =>
    obtain ⟨t, rfl, hk, hown, hbe⟩ := hrel
    have hsz := hbe.size
    by_cases hlt : t < q
    · have hf1 := hf.below hbe (Nat.le_refl _)
      have hg1 := hg.below hbe (Nat.le_refl _)
      go_wp2_with fail
      go_loopw [7, 19] (fun l i wi => ∃ s dr : Nat, i = .int .i64 s ∧ s ≤ t + 1 ∧ l = .int .i64 (convTo f g t s) ∧ wi = wr.drewN dr) (fun _ i _ => t + 1 - (intOf i).toNat)
      case atStart => exact ⟨0, 0, rfl, Nat.zero_le _, rfl, rfl⟩
      case round =>
        obtain ⟨s, dr, rfl, hs, rfl, rfl⟩ := hrel
        by_cases hls : s < t + 1
        · obtain ⟨r, hr⟩ : ∃ r, Hid (t - s = r) := ⟨_, rfl⟩
          have hts : (t : Int) - (s : Int) = ((r : Nat) : Int) := by have := hr.out; omega
          obtain ⟨b1, o1, x, rfl, hb1, hc1, hx⟩ := hf1.at_ (show s < n by omega)
          obtain ⟨b2, o2, y, rfl, hb2, hc2, hy⟩ := hg1.at_ (show r < m by have := hr.out; omega)
          have hnew : Hid (convTo f g t (s + 1) = min (convTo f g t s) (plus x y)) := by show _ = _; rw [hx.out, hy.out, ← hr.out]; rfl
          have k1 : (s : Int) < (n : Int) := by omega
          have k2 : (r : Int) < (m : Int) := by have := hr.out; omega
          have k3 : (s : Int) < (t : Int) + 1 := by omega
          generalize convTo f g t s = L at *
          go_wp2_with fail
          go_quiet ((go_at_call 35; first | exact quiet_left (plus_any _ _ _) | exact quiet_add_left (plus_any _ _ _)))
          go_wp2
          go_roundw
          case rel => exact ⟨s + 1, _, by go_num, by omega, by rw [hnew.out]; congr 1; omega, rfl⟩
          case measure => simp [intOf]; omega
        · obtain rfl : s = t + 1 := by omega
          go_wp2_with (at_builtin; refine wpList_append_own _ rfl _ _ 22 rfl _ 3 i0 (.int .i64 0) 1 8 Try.underlying22 hi hz0 hz1 hz2 rfl (by decide) _ _ _ rfl (own_drewN (hown.alloc _) _) _ _ _ [.int .i64 _] rfl rfl (cell_oneq _ _ _ _) (oneCell_int _ _) (by simp only [maxLen]; omega) (by omega) (by simp; omega) ?_; intro v' w1 hown' hgrow hnil; clear hnil)
          go_roundw
          case rel => exact ⟨t + 1, by go_num, by omega, by rw [cellsOf_succ]; exact hown', below_appendq hbe hsz hown hgrow⟩
          case measure => simp [intOf]; omega
    · obtain rfl : t = q := by omega
      obtain ⟨a', c', hv, hc'⟩ := own_slice hown
      subst hv
      go_wp2
      go_ret
      exact ⟨a', c', rfl, hc', Row.of_own hown, hbe⟩

set_option maxHeartbeats 1000000 in
theorem over_any (a b : Option Addr) (n m c d : Nat) (f g : Nat → Int) (w : World) (hf : Row w a n f) (hg : Row w b m g) (hn : n ≤ 17592186044400) (hm : m ≤ 17592186044400) :
    Calls Try.prog 43 #[.slice a n c, .slice b m d] w fun e w' => ∃ a' c', e = .returned (.slice a' n c') ∧ n ≤ c' ∧ Row w' a' n (overOf n m f g) ∧ Below w.heap.size w w' := by
  obtain ⟨i0, hi, hz0, hz1, hz2⟩ := info_parts intInfo
  go_enter Try.func43, Try.ntmps43
  go_wp2
  go_loopw [5, 11] (fun out i wr => ∃ k : Nat, i = .int .i64 k ∧ k ≤ n ∧ wr.ownsRow w.heap.size 3 1 out k (cellsOf k (overOf n m f g)) ∧ Below w.heap.size w wr) (fun _ i _ => n - (intOf i).toNat)
  case atStart => exact ⟨0, rfl, Nat.zero_le _, World.ownsRow_nil _ _ _ _, Below.refl _ _⟩
  case round =>
    obtain ⟨t, rfl, hk, hown, hbe⟩ := hrel
    have hsz := hbe.size
    by_cases hlt : t < n
    · have hf1 := hf.below hbe (Nat.le_refl _)
      have hg1 := hg.below hbe (Nat.le_refl _)
      obtain ⟨q, hq⟩ : ∃ q, Hid (min m (n - t) = q) := ⟨_, rfl⟩
      have hqm : q ≤ m := by have := hq.out; omega
      have hqt : t + q ≤ n := by have := hq.out; omega
      have hqx : m ≤ q ∨ n ≤ t + q := by have := hq.out; omega
      go_wp2_with fail
      go_loopw [7, 8] (fun l i wi => ∃ u dr : Nat, i = .int .i64 u ∧ u ≤ q ∧ l = .int .i64 (overTo f g t u) ∧ wi = wr.drewN dr) (fun _ i _ => q - (intOf i).toNat)
      case atStart => exact ⟨0, 0, rfl, Nat.zero_le _, rfl, rfl⟩
      case round =>
        obtain ⟨u, dr, rfl, hu, rfl, rfl⟩ := hrel
        by_cases hlu : u < q
        · obtain ⟨r, hr⟩ : ∃ r, Hid (t + u = r) := ⟨_, rfl⟩
          have hts : (t : Int) + (u : Int) = ((r : Nat) : Int) := by have := hr.out; omega
          obtain ⟨b1, o1, x, rfl, hb1, hc1, hx⟩ := hf1.at_ (show r < n by have := hr.out; omega)
          obtain ⟨b2, o2, y, rfl, hb2, hc2, hy⟩ := hg1.at_ (show u < m by omega)
          have hnew : Hid (overTo f g t (u + 1) = max (overTo f g t u) (less x y)) := by show _ = _; rw [hx.out, hy.out, ← hr.out]; rfl
          have k1 : (u : Int) < (m : Int) := by omega
          have k2 : (r : Int) < (n : Int) := by have := hr.out; omega
          generalize overTo f g t u = L at *
          go_wp2_with fail
          go_quiet ((go_at_call 62; first | exact quiet_left (less_any _ _ _) | exact quiet_add_left (less_any _ _ _)))
          go_wp2
          go_roundw
          case rel => exact ⟨u + 1, _, by go_num, by omega, by rw [hnew.out]; congr 1; omega, rfl⟩
          case measure => simp [intOf]; omega
        · obtain rfl : u = q := by omega
          have hov : overOf n m f g t = overTo f g t u := by unfold overOf; rw [hq.out]
          have HOV := Lib.hid hov
          clear hov
          go_wp2_with (at_builtin; refine wpList_append_own _ rfl _ _ 22 rfl _ 3 i0 (.int .i64 0) 1 8 Try.underlying22 hi hz0 hz1 hz2 rfl (by decide) _ _ _ rfl (own_drewN (hown.alloc _) _) _ _ _ [.int .i64 _] rfl rfl (cell_oneq _ _ _ _) (oneCell_int _ _) (by simp only [maxLen]; omega) (by omega) (by simp; omega) ?_; intro v' w1 hown' hgrow hnil; clear hnil)
          all_goals
            go_roundw
            case rel => exact ⟨t + 1, by go_num, by omega, by rw [cellsOf_succ, HOV.out]; exact hown', below_appendq hbe hsz hown hgrow⟩
            case measure => simp [intOf]; omega
    · obtain rfl : t = n := by omega
      obtain ⟨a', c', hv, hc'⟩ := own_slice hown
      subst hv
      go_wp2
      go_ret
      exact ⟨a', c', rfl, hc', Row.of_own hown, hbe⟩

set_option maxHeartbeats 1000000 in
theorem close_any (a : Option Addr) (n c : Nat) (f : Nat → Int) (w : World) (hf : Row w a n f) (hn : n ≤ 17592186044400) :
    Calls Try.prog 45 #[.slice a n c] w fun e w' => ∃ a' c', e = .returned (.slice a' n c') ∧ n ≤ c' ∧ Row w' a' n (clOf f) ∧ Below w.heap.size w w' := by
  obtain ⟨i0, hi, hz0, hz1, hz2⟩ := info_parts intInfo
  go_enter Try.func45, Try.ntmps45
  go_wp2
  go_loopw [3, 9] (fun out i wr => ∃ k : Nat, i = .int .i64 k ∧ k ≤ n ∧ wr.ownsRow w.heap.size 3 1 out k (cellsOf k (clOf f)) ∧ Below w.heap.size w wr) (fun _ i _ => n - (intOf i).toNat)
  case atStart => exact ⟨0, rfl, Nat.zero_le _, World.ownsRow_nil _ _ _ _, Below.refl _ _⟩
  case round =>
    obtain ⟨t, rfl, hk, hown, hbe⟩ := hrel
    have hsz := hbe.size
    by_cases hlt : t < n
    · by_cases h0 : t = 0
      · subst h0
        have hcl := cl_zero f
        have HC := Lib.hid hcl
        clear hcl
        go_wp2_with (at_builtin; refine wpList_append_own _ rfl _ _ 22 rfl _ 3 i0 (.int .i64 0) 1 8 Try.underlying22 hi hz0 hz1 hz2 rfl (by decide) _ _ _ rfl (hown.alloc _) _ _ _ [.int .i64 _] rfl rfl (cell_one _ _ _) (oneCell_int _ _) (by simp only [maxLen]; omega) (by omega) (by simp; omega) ?_; intro v' w1 hown' hgrow hnil; clear hnil)
        go_roundw
        case rel => exact ⟨1, by go_num, by omega, by rw [cellsOf_succ, HC.out]; exact hown', below_append hbe hsz hown hgrow⟩
        case measure => simp [intOf]; omega
      · have hb0 : ((t : Int) == 0) = false := by simp; omega
        have ht0 : 0 < t := by omega
        clear h0
        obtain ⟨b1, o1, x, rfl, hb1, hc1, hx⟩ := (hf.below hbe (Nat.le_refl _)).at_ hlt
        obtain ⟨ao, co, hv, hco⟩ := own_slice hown
        subst hv
        have hro := Row.of_own hown
        go_wp2_with (go_at_call 31; refine (fit_any _ _).mono ?_; rintro e w' ⟨rfl, rfl⟩)
        go_loopw [5, 6] (fun l i wi => ∃ u dr : Nat, i = .int .i64 ((u : Int) + 1) ∧ u ≤ t - 1 ∧ l = .int .i64 (clTo (clOf f) t (fit x) u) ∧ wi = wr.drewN dr) (fun _ i _ => t - (intOf i).toNat)
        case atStart => exact ⟨0, 0, rfl, Nat.zero_le _, rfl, rfl⟩
        case round =>
          obtain ⟨u, dr, rfl, hu, rfl, rfl⟩ := hrel
          by_cases hlu : u + 1 < t
          · obtain ⟨r, hr⟩ : ∃ r, Hid (t - (u + 1) = r) := ⟨_, rfl⟩
            have hts : (t : Int) - ((u : Int) + 1) = ((r : Nat) : Int) := by have := hr.out; omega
            obtain ⟨b2, o2, y, rfl, hb2, hc2, hy⟩ := hro.at_ hlu
            obtain ⟨b3, o3, z, he, hb3, hc3, hz⟩ := hro.at_ (show r < t by have := hr.out; omega)
            injection he with he
            injection he with he1 he2
            subst he1 he2
            have hnew : Hid (clTo (clOf f) t (fit x) (u + 1) = min (clTo (clOf f) t (fit x) u) (plus y z)) := by show _ = _; rw [hy.out, hz.out, ← hr.out]; rfl
            have k1 : (u : Int) + 1 < (t : Int) := by omega
            have k2 : (r : Int) < (t : Int) := by have := hr.out; omega
            have k3 : (0 : Int) ≤ (u : Int) + 1 := by omega
            have k4 : ((u : Int) + 1).toNat = u + 1 := by omega
            have k5 : (0 : Int) ≤ (r : Int) := Int.natCast_nonneg _
            generalize clTo (clOf f) t (fit x) u = L at *
            go_wp2_with fail
            go_quiet ((go_at_call 35; first | exact quiet_left (plus_any _ _ _) | exact quiet_add_left (plus_any _ _ _)))
            go_wp2
            go_roundw
            case rel => exact ⟨u + 1, _, by go_num, by omega, by rw [hnew.out]; congr 1; omega, rfl⟩
            case measure => simp [intOf]; omega
          · obtain rfl : u = t - 1 := by omega
            have hcl : clOf f t = clTo (clOf f) t (fit x) (t - 1) := by rw [clOf_eq]; unfold clNext; rw [if_neg (by omega), hx.out]
            have HC := Lib.hid hcl
            have hge : ¬ (((t - 1 : Nat) : Int) + 1 < (t : Int)) := by omega
            clear hcl
            go_wp2_with (at_builtin; refine wpList_append_own _ rfl _ _ 22 rfl _ 3 i0 (.int .i64 0) 1 8 Try.underlying22 hi hz0 hz1 hz2 rfl (by decide) _ _ _ rfl (own_drewN (hown.alloc _) _) _ _ _ [.int .i64 _] rfl rfl (cell_oneq _ _ _ _) (oneCell_int _ _) (by simp only [maxLen]; omega) (by omega) (by simp; omega) ?_; intro v' w1 hown' hgrow hnil; clear hnil)
            go_roundw
            case rel => exact ⟨t + 1, by go_num, by omega, by rw [cellsOf_succ, HC.out]; exact hown', below_appendq hbe hsz hown hgrow⟩
            case measure => simp [intOf]; omega
    · obtain rfl : t = n := by omega
      obtain ⟨a', c', hv, hc'⟩ := own_slice hown
      subst hv
      go_wp2
      go_ret
      exact ⟨a', c', rfl, hc', Row.of_own hown, hbe⟩

theorem mparts_any (a : Option Addr) (n c : Nat) (f : Nat → Int) (w : World) (hf : Row w a n f) (hn : n ≤ 17592186044400) :
    Calls Try.prog 46 #[.slice a n c] w fun e w' => e = .returned (.bool (mparts n f)) ∧ More w w' := by
  rcases Nat.eq_zero_or_pos n with h0 | h0
  · subst h0
    have hv : mparts 0 f = true := parts_iff.2 (.inl rfl)
    have HV := Lib.hid hv
    clear hv
    go_enter Try.func46, Try.ntmps46
    go_wp2
    go_ret
    exact ⟨ret_bool HV.out.symm, (by repeat (first | (with_reducible exact More.refl _) | (with_reducible refine More.alloc ?_ _) | (with_reducible refine More.more ?_ _ _) | (with_reducible refine More.drewN ?_ _) | (with_reducible refine More.drew ?_)))⟩
  · obtain ⟨b, off, x, rfl, hb, hc, hx⟩ := hf.at_ h0
    rw [Nat.add_zero] at hc
    have hn0 : ((n : Int) == 0) = false := by simp; omega
    by_cases h1 : fit x = 0
    · have hb1 : (fit x == 0) = true := by simpa using h1
      have hv : mparts n f = cWithin n n f (conv f f) := by
        rw [Bool.eq_iff_iff, parts_iff, cWithin_iff]
        exact ⟨fun h => by rcases h with h | ⟨_, h⟩; omega; exact h, fun h => .inr ⟨by rw [← hx.out]; exact h1, h⟩⟩
      have HV := Lib.hid hv
      clear hv h1
      go_enter Try.func46, Try.ntmps46
      go_wp2_with (go_at_call 31; refine (fit_any _ _).mono ?_; rintro e w' ⟨rfl, rfl⟩)
      refine (conv_any _ _ n n _ _ f f _ (by repeat (first | (with_reducible assumption) | (with_reducible exact Row.nil) | (with_reducible apply Row.drewN) | (with_reducible apply Row.drew) | (with_reducible apply Row.more) | (with_reducible apply Row.alloc))) (by repeat (first | (with_reducible assumption) | (with_reducible exact Row.nil) | (with_reducible apply Row.drewN) | (with_reducible apply Row.drew) | (with_reducible apply Row.more) | (with_reducible apply Row.alloc))) hn hn).mono ?_
      rw [Nat.min_self]
      rintro e w1 ⟨a1, c1, rfl, hc1, hr1, hb1'⟩
      obtain ⟨os1, d1, rfl⟩ := More.of_below hb1'
      go_wp2_with fail
      refine (cwithin_any _ _ n n _ _ _ _ _ (by repeat (first | (with_reducible assumption) | (with_reducible exact Row.nil) | (with_reducible apply Row.drewN) | (with_reducible apply Row.drew) | (with_reducible apply Row.more) | (with_reducible apply Row.alloc))) (by repeat (first | (with_reducible assumption) | (with_reducible exact Row.nil) | (with_reducible apply Row.drewN) | (with_reducible apply Row.drew) | (with_reducible apply Row.more) | (with_reducible apply Row.alloc))) (by omega) (by omega)).mono ?_
      rintro e w2 ⟨rfl, os2, d2, rfl⟩
      go_wp2
      go_ret
      exact ⟨ret_bool HV.out.symm, (by repeat (first | (with_reducible exact More.refl _) | (with_reducible refine More.alloc ?_ _) | (with_reducible refine More.more ?_ _ _) | (with_reducible refine More.drewN ?_ _) | (with_reducible refine More.drew ?_)))⟩
    · have hb1 : (fit x == 0) = false := by simpa using h1
      have hv : mparts n f = false := by
        rw [← Bool.not_eq_true, parts_iff]
        rintro (h | ⟨h, _⟩)
        · omega
        · rw [← hx.out] at h; exact h1 h
      have HV := Lib.hid hv
      clear hv h1
      go_enter Try.func46, Try.ntmps46
      go_wp2_with (go_at_call 31; refine (fit_any _ _).mono ?_; rintro e w' ⟨rfl, rfl⟩)
      go_ret
      exact ⟨ret_bool HV.out.symm, (by repeat (first | (with_reducible exact More.refl _) | (with_reducible refine More.alloc ?_ _) | (with_reducible refine More.more ?_ _ _) | (with_reducible refine More.drewN ?_ _) | (with_reducible refine More.drew ?_)))⟩

theorem unit_any (n : Nat) (w : World) (hn : n ≤ 300) :
    Calls Try.prog 49 #[.int .i64 n] w fun e w' => ∃ a' c', e = .returned (.slice a' n c') ∧ n ≤ c' ∧ Row w' a' n unitOf ∧ Below w.heap.size w w' := by
  obtain ⟨i0, hi, hz0, hz1, hz2⟩ := info_parts intInfo
  go_enter Try.func49, Try.ntmps49
  go_wp2
  go_loopw [3, 8] (fun out i wr => ∃ k : Nat, i = .int .i64 k ∧ k ≤ n ∧ wr.ownsRow w.heap.size 3 1 out k (cellsOf k unitOf) ∧ Below w.heap.size w wr) (fun _ i _ => n - (intOf i).toNat)
  case atStart => exact ⟨0, rfl, Nat.zero_le _, World.ownsRow_nil _ _ _ _, Below.refl _ _⟩
  case round =>
    obtain ⟨t, rfl, hk, hown, hbe⟩ := hrel
    have hsz := hbe.size
    by_cases hlt : t < n
    · cases t with
      | zero =>
        go_wp2_with (at_builtin; refine wpList_append_own _ rfl _ _ 22 rfl _ 3 i0 (.int .i64 0) 1 8 Try.underlying22 hi hz0 hz1 hz2 rfl (by decide) _ _ _ rfl (hown.alloc _) _ _ _ [.int .i64 _] rfl rfl (cell_one _ _ _) (oneCell_int _ _) (by simp only [maxLen]; omega) (by omega) (by simp; omega) ?_; intro v' w1 hown' hgrow hnil; clear hnil)
        go_roundw
        case rel => exact ⟨1, by go_num, by omega, by rw [cellsOf_succ]; exact hown', below_append hbe hsz hown hgrow⟩
        case measure => simp [intOf]; omega
      | succ t =>
        have hb0 : (((t + 1 : Nat) : Int) == 0) = false := by simp; omega
        have hb1 : (((t : Int) + 1) == 0) = false := by simp; omega
        go_wp2_with (at_builtin; refine wpList_append_own _ rfl _ _ 22 rfl _ 3 i0 (.int .i64 0) 1 8 Try.underlying22 hi hz0 hz1 hz2 rfl (by decide) _ _ _ rfl (hown.alloc _) _ _ _ [.int .i64 _] rfl rfl (cell_one _ _ _) (oneCell_int _ _) (by simp only [maxLen]; omega) (by omega) (by simp; omega) ?_; intro v' w1 hown' hgrow hnil; clear hnil)
        go_roundw
        case rel => exact ⟨t + 2, by go_num, by omega, by rw [cellsOf_succ]; exact hown', below_append hbe hsz hown hgrow⟩
        case measure => simp [intOf]; omega
    · obtain rfl : t = n := by omega
      obtain ⟨a', c', hv, hc'⟩ := own_slice hown
      subst hv
      go_wp2
      go_ret
      exact ⟨a', c', rfl, hc', Row.of_own hown, hbe⟩
end Go.Proofs.Ytdilmnpoicdkhaa
