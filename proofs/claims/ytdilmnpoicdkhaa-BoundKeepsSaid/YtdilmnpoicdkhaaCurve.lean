/- What curve.Of, Right, Steps, At, Within, Lower and Sum answer, for every input. Conditions: lengths within the form's reach. -/
import Derived.Test.YtdilmnpoicdkhaaNum
import Derived.Test.YtdilmnpoicdkhaaSlSorted
import Derived.Deep.RegionHeld3
set_option linter.unusedVariables false
set_option linter.unusedSimpArgs false
namespace Go.Tide
theorem fit_bounds (a : Int) : 0 ≤ fit a ∧ fit a ≤ 1152921504606846976 := by simp only [fit]; omega
theorem plus_bounds (a b : Int) : 0 ≤ plus a b ∧ plus a b ≤ 1152921504606846976 := by have := fit_bounds a; have := fit_bounds b; simp only [plus]; omega
theorem less_bounds (a b : Int) : 0 ≤ less a b ∧ less a b ≤ 1152921504606846976 := by have := fit_bounds a; have := fit_bounds b; unfold less; (repeat' split) <;> omega
theorem fit_of {a : Int} (h0 : 0 ≤ a) (h1 : a ≤ 1152921504606846976) : fit a = a := by simp only [fit]; omega
/-- Sums: nothing at first, then what has come up to each tick. -/
def ofRow (f : Nat → Int) : Nat → Int
  | 0 => 0
  | k + 1 => plus (ofRow f k) (f k)
theorem ofRow_bounds (f : Nat → Int) (k : Nat) : 0 ≤ ofRow f k ∧ ofRow f k ≤ 1152921504606846976 := by
  cases k with
  | zero => simp only [ofRow]; omega
  | succ k => exact plus_bounds _ _
/-- What curve.Right asks. -/
def CRight (n : Nat) (f : Nat → Int) : Prop := 0 < n ∧ f 0 = 0 ∧ Sorted n f ∧ fit (f (n - 1)) = f (n - 1)
noncomputable def cRight (n : Nat) (f : Nat → Int) : Bool := @decide (CRight n f) (Classical.propDecidable _)
theorem cRight_iff {n : Nat} {f : Nat → Int} : cRight n f = true ↔ CRight n f := by simp [cRight]
/-- What curve.Within asks. -/
def CWithin (n m : Nat) (f g : Nat → Int) : Prop := ∀ t, t < n → t < m → fit (f t) ≤ fit (g t)
noncomputable def cWithin (n m : Nat) (f g : Nat → Int) : Bool := @decide (CWithin n m f g) (Classical.propDecidable _)
theorem cWithin_iff {n m : Nat} {f g : Nat → Int} : cWithin n m f g = true ↔ CWithin n m f g := by simp [cWithin]
theorem cWithin_true {n m : Nat} {f g : Nat → Int} (h : CWithin n m f g) : cWithin n m f g = true := cWithin_iff.2 h
theorem cWithin_false {n m : Nat} {f g : Nat → Int} (h : ¬ CWithin n m f g) : cWithin n m f g = false := by simp [cWithin, h]
def stepsOf (f : Nat → Int) (k : Nat) : Int := less (f (k + 1)) (f k)
def lowerOf (f g : Nat → Int) (k : Nat) : Int := min (fit (f k)) (fit (g k))
def sumOf (f g : Nat → Int) (k : Nat) : Int := plus (fit (f k)) (fit (g k))
/-- A curve at a tick. -/
def atOf (n : Nat) (f : Nat → Int) (t : Int) : Int := if n = 0 ∨ t < 0 then 0 else fit (f (min t.toNat (n - 1)))
end Go.Tide
namespace Go.Proofs.Ytdilmnpoicdkhaa
open Go.RowKit Go.Tide
set_option linter.unusedVariables false
set_option linter.unusedSimpArgs false

set_option maxHeartbeats 1000000 in
theorem cof_any (a : Option Addr) (n c : Nat) (f : Nat → Int) (w : World) (hf : Row w a n f) (hn : n ≤ 17592186044400) :
    Calls Try.prog 27 #[.slice a n c] w fun e w' => ∃ a' c', e = .returned (.slice a' (n + 1) c') ∧ n + 1 ≤ c' ∧ Row w' a' (n + 1) (ofRow f) ∧ Below w.heap.size w w' := by
  obtain ⟨i0, hi, hz0, hz1, hz2⟩ := info_parts intInfo
  go_enter Try.func27, Try.ntmps27
  go_wp2
  go_loopw [3, 9] (fun out i wr => ∃ k : Nat, i = .int .i64 k ∧ k ≤ n ∧ wr.ownsRow w.heap.size 3 1 out (k + 1) (cellsOf (k + 1) (ofRow f)) ∧ Below w.heap.size w wr) (fun _ i _ => n - (intOf i).toNat)
  case atStart => exact ⟨0, rfl, Nat.zero_le _, World.ownsRow_lit _ _ _ (Nat.le_refl _) (by decide) rfl, (by repeat' (first | (with_reducible exact Below.refl _ _) | (with_reducible assumption) | (with_reducible refine Below.alloc ?_ ?_ _) | (with_reducible refine Below.more ?_ ?_ _ _) | (with_reducible refine Below.drew ?_) | (with_reducible refine Below.drewN ?_ _) | (with_reducible refine Below.setCell ?_ ?_ _) | go_size | (simp; omega)))⟩
  case round =>
    obtain ⟨k, rfl, hk, hown, hbe⟩ := hrel
    have hsz := hbe.size
    obtain ⟨ao, co, hv, hco⟩ := own_slice hown
    subst hv
    have hro := Row.of_own hown
    by_cases hlt : k < n
    · obtain ⟨b, off, xv, rfl, hb, hc, hx⟩ := (hf.below hbe (Nat.le_refl _)).at_ hlt
      obtain ⟨bo, oo, yv, rfl, hbo, hcy, hy⟩ := hro.at_ (show k < k + 1 by omega)
      have hpl : plus yv xv = ofRow f (k + 1) := by rw [hy.out, hx.out]; rfl
      have HP := Lib.hid hpl
      clear hpl
      have ky0 : (0 : Int) ≤ (k : Int) := Int.natCast_nonneg _
      have ky1 : (k : Int) < ((k + 1 : Nat) : Int) := by omega
      have ky2 : (k : Int) < (k : Int) + 1 := by omega
      go_wp2_with (first | (go_at_call 35; refine (plus_any _ _ _).mono ?_; rintro e w' ⟨rfl, rfl⟩) | (at_builtin; refine wpList_append_own _ rfl _ _ 22 rfl _ 3 i0 (.int .i64 0) 1 8 Try.underlying22 hi hz0 hz1 hz2 rfl (by decide) _ _ _ rfl (hown.alloc _) _ _ _ [.int .i64 _] rfl rfl (cell_one _ _ _) (oneCell_int _ _) (by simp only [maxLen]; omega) (by omega) (by simp; omega) ?_; intro v' w1 hown' hgrow hnil; clear hnil))
      go_roundw
      case rel => exact ⟨k + 1, by go_num, by omega, by rw [cellsOf_succ, ← HP.out]; exact hown', below_append hbe hsz hown hgrow⟩
      case measure => simp [intOf]; omega
    · obtain rfl : k = n := by omega
      go_wp2
      go_ret
      exact ⟨ao, co, rfl, hco, hro, hbe⟩

theorem cright_any (a : Option Addr) (n c : Nat) (f : Nat → Int) (w : World) (hf : Row w a n f) (hn : n ≤ 1152921504606846976) :
    Calls Try.prog 29 #[.slice a n c] w fun e w' => e = .returned (.bool (cRight n f)) ∧ More w w' := by
  rcases Nat.eq_zero_or_pos n with h0 | h0
  · subst h0
    have hf0 : cRight 0 f = false := by rw [← Bool.not_eq_true, cRight_iff]; rintro ⟨h, _⟩; omega
    go_enter Try.func29, Try.ntmps29
    go_wp2
    go_quiet (fail)
    go_wp2
    go_ret
    exact ⟨ret_bool hf0.symm, (by repeat (first | (with_reducible exact More.refl _) | (with_reducible refine More.alloc ?_ _) | (with_reducible refine More.more ?_ _ _) | (with_reducible refine More.drewN ?_ _) | (with_reducible refine More.drew ?_)))⟩
  · obtain ⟨m, rfl⟩ : ∃ m, n = m + 1 := ⟨n - 1, by omega⟩
    obtain ⟨b, off, x, rfl, hb, hc, hx⟩ := hf.at_ (show 0 < m + 1 by omega)
    obtain ⟨b', off', y, he, hb', hc', hy⟩ := hf.at_ (show m < m + 1 by omega)
    injection he with he
    injection he with he1 he2
    subst he1 he2
    rw [Nat.add_zero] at hc
    have HX := Lib.hid hx.out
    have HY := Lib.hid hy.out
    clear hx hy
    by_cases h1 : x = 0
    · have hb1 : (x == 0) = true := by simpa using h1
      have H1 := Lib.hid h1
      clear h1
      by_cases h2 : sorted (m + 1) f = true
      · by_cases h3 : fit y = y
        · have hb3 : (fit y == y) = true := by simpa using h3
          have hv : cRight (m + 1) f = true := cRight_iff.2 ⟨by omega, by rw [← HX.out]; exact H1.out, sorted_iff.1 h2, by rw [Nat.add_sub_cancel, ← HY.out]; exact h3⟩
          have HV := Lib.hid hv
          have H2 := Lib.hid h2
          clear hv h2 h3
          go_enter Try.func29, Try.ntmps29
          go_wp2
          go_quiet ((first | (go_at_call 55; exact issorted_q _ (m + 1) c f _ _ true hf hn H2.out) | (go_at_call 31; exact quiet_left (fit_any _ _))))
          go_wp2
          go_ret
          exact ⟨ret_bool HV.out.symm, (by repeat (first | (with_reducible exact More.refl _) | (with_reducible refine More.alloc ?_ _) | (with_reducible refine More.more ?_ _ _) | (with_reducible refine More.drewN ?_ _) | (with_reducible refine More.drew ?_)))⟩
        · have hb3 : (fit y == y) = false := by simpa using h3
          have hv : cRight (m + 1) f = false := by rw [← Bool.not_eq_true, cRight_iff]; rintro ⟨_, _, _, h⟩; rw [Nat.add_sub_cancel, ← HY.out] at h; exact h3 h
          have HV := Lib.hid hv
          have H2 := Lib.hid h2
          clear hv h2 h3
          go_enter Try.func29, Try.ntmps29
          go_wp2
          go_quiet ((first | (go_at_call 55; exact issorted_q _ (m + 1) c f _ _ true hf hn H2.out) | (go_at_call 31; exact quiet_left (fit_any _ _))))
          go_wp2
          go_ret
          exact ⟨ret_bool HV.out.symm, (by repeat (first | (with_reducible exact More.refl _) | (with_reducible refine More.alloc ?_ _) | (with_reducible refine More.more ?_ _ _) | (with_reducible refine More.drewN ?_ _) | (with_reducible refine More.drew ?_)))⟩
      · have hv : cRight (m + 1) f = false := by rw [← Bool.not_eq_true, cRight_iff]; rintro ⟨_, _, h, _⟩; exact h2 (sorted_iff.2 h)
        have HV := Lib.hid hv
        have h2' : sorted (m + 1) f = false := by simpa using h2
        have H2 := Lib.hid h2'
        clear hv h2 h2'
        go_enter Try.func29, Try.ntmps29
        go_wp2
        go_quiet ((go_at_call 55; exact issorted_q _ (m + 1) c f _ _ false hf hn H2.out))
        go_wp2
        go_ret
        exact ⟨ret_bool HV.out.symm, (by repeat (first | (with_reducible exact More.refl _) | (with_reducible refine More.alloc ?_ _) | (with_reducible refine More.more ?_ _ _) | (with_reducible refine More.drewN ?_ _) | (with_reducible refine More.drew ?_)))⟩
    · have hb1 : (x == 0) = false := by simpa using h1
      have hv : cRight (m + 1) f = false := by rw [← Bool.not_eq_true, cRight_iff]; rintro ⟨_, h, _⟩; rw [← HX.out] at h; exact h1 h
      have HV := Lib.hid hv
      clear hv h1
      go_enter Try.func29, Try.ntmps29
      go_wp2
      go_quiet (fail)
      go_wp2
      go_ret
      exact ⟨ret_bool HV.out.symm, (by repeat (first | (with_reducible exact More.refl _) | (with_reducible refine More.alloc ?_ _) | (with_reducible refine More.more ?_ _ _) | (with_reducible refine More.drewN ?_ _) | (with_reducible refine More.drew ?_)))⟩

set_option maxHeartbeats 1000000 in
theorem csteps_any (a : Option Addr) (n c : Nat) (f : Nat → Int) (w : World) (hf : Row w a n f) (hn : n ≤ 17592186044416) :
    Calls Try.prog 30 #[.slice a n c] w fun e w' => ∃ a' c', e = .returned (.slice a' (n - 1) c') ∧ n - 1 ≤ c' ∧ Row w' a' (n - 1) (stepsOf f) ∧ Below w.heap.size w w' := by
  obtain ⟨i0, hi, hz0, hz1, hz2⟩ := info_parts intInfo
  go_enter Try.func30, Try.ntmps30
  go_wp2
  go_loopw [3, 4] (fun out i wr => ∃ k : Nat, i = .int .i64 ((k : Int) + 1) ∧ k ≤ n - 1 ∧ wr.ownsRow w.heap.size 3 1 out k (cellsOf k (stepsOf f)) ∧ Below w.heap.size w wr) (fun _ i _ => n - (intOf i).toNat)
  case atStart => exact ⟨0, rfl, Nat.zero_le _, World.ownsRow_nil _ _ _ _, Below.refl _ _⟩
  case round =>
    obtain ⟨k, rfl, hk, hown, hbe⟩ := hrel
    have hsz := hbe.size
    by_cases hlt : k + 1 < n
    · obtain ⟨b, off, xv, rfl, hb, hc0, hx⟩ := hf.at_ hlt
      obtain ⟨b', off', yv, he, hb', hc1, hy⟩ := hf.at_ (show k < n by omega)
      injection he with he
      injection he with he1 he2
      subst he1 he2
      have hc : wr.cell? ⟨b, off + (k + 1), none⟩ = some (.int .i64 xv) := (hbe.cell (p := ⟨b, off + (k + 1), none⟩) hb).trans hc0
      have hc' : wr.cell? ⟨b, off + k, none⟩ = some (.int .i64 yv) := (hbe.cell (p := ⟨b, off + k, none⟩) hb).trans hc1
      clear hc0 hc1
      have hpl : less xv yv = stepsOf f k := by rw [hy.out, hx.out]; rfl
      have HP := Lib.hid hpl
      clear hpl
      have ha1 := own_ne hown hb
      go_wp2_with fail
      have k0 : (0 : Int) ≤ (k : Int) := Int.natCast_nonneg _
      have k1 : (k : Int) < (n : Int) := by omega
      have k2 : (k : Int) + 1 < (n : Int) := by omega
      have kw : IntKind.i64.wrap ((k : Int) + 1 - 1) = (k : Int) := by rw [IntWalk.i64_in _ (by omega)]; omega
      have kw2 : IntKind.i64.wrap (k : Int) = (k : Int) := IntWalk.i64_in _ (by omega)
      have k3 : (0 : Int) ≤ (k : Int) + 1 := by omega
      have k4 : ((k : Int) + 1).toNat = k + 1 := by omega
      go_region_held3 (fun w' => w'.cell? ⟨b, off + (k + 1), none⟩ = some (.int .i64 xv) ∧ w'.cell? ⟨b, off + k, none⟩ = some (.int .i64 yv)) ((first | go_keep | (go_split_ands; repeat' apply And.intro) <;> (rw [hgrow.cell_far _ (by simp; omega) (by first | exact ha1.symm | exact ha2.symm | exact ha3.symm)]; assumption))) (first | (go_at_call 62; refine (less_any _ _ _).mono ?_; rintro e w' ⟨rfl, rfl⟩) | (refine step_append_lies _ (by rfl) _ _ _ (by rfl) _ 3 i0 _ 1 8 Try.underlying22 hi hz0 hz1 hz2 rfl (by omega) _ _ _ (by rfl) ((hown.alloc _).drew) ⟨wr.heap.size, 0, none⟩ 1 1 [.int .i64 (less xv yv)] (by rfl) (by rfl) (World.news_of_block (cs := #[.int .i64 (less xv yv)]) (t := 3) (fr := (0, 0)) (heap_alloc_new wr _)) (by simp [Value.oneCell']) (by omega) (by simp only [maxLen]; omega) (by omega) (by simp; omega) (wr.heap.size + 1) (by simp) ?_; intro gg cap w1 hown' hgrow hat hlt0))
      go_wp2
      go_roundw
      case rel => exact ⟨k + 1, by go_num, by omega, by rw [cellsOf_succ, ← HP.out]; exact hown', below_appendd hbe hsz hown hgrow⟩
      case measure => simp [intOf]; omega
    · obtain rfl : k = n - 1 := by omega
      obtain ⟨a', c', hv, hc'⟩ := own_slice hown
      subst hv
      go_wp2
      go_ret
      exact ⟨a', c', rfl, hc', Row.of_own hown, hbe⟩

theorem cat_any (a : Option Addr) (n c : Nat) (f : Nat → Int) (t : Int) (w : World) (hf : Row w a n f) (hn : n ≤ 1152921504606846976) :
    Calls Try.prog 61 #[.slice a n c, .int .i64 t] w fun e w' => e = .returned (.int .i64 (atOf n f t)) ∧ w = w' := by
  by_cases h0 : n = 0 ∨ t < 0
  · have hv : atOf n f t = 0 := by unfold atOf; rw [if_pos h0]
    rcases h0 with rfl | h0
    · go_enter Try.func61, Try.ntmps61
      go_wp2
      go_ret
      exact ⟨ret_int hv.symm, rfl⟩
    · go_enter Try.func61, Try.ntmps61
      go_wp2
      all_goals
        go_ret
        exact ⟨ret_int hv.symm, rfl⟩
  · have hv : atOf n f t = fit (f (min t.toNat (n - 1))) := by unfold atOf; rw [if_neg h0]
    obtain ⟨m, rfl⟩ : ∃ m, n = m + 1 := ⟨n - 1, by omega⟩
    obtain ⟨u, rfl⟩ : ∃ u : Nat, t = u := ⟨t.toNat, by omega⟩
    obtain ⟨q, hq⟩ : ∃ q, Hid (min u m = q) := ⟨_, rfl⟩
    obtain ⟨b, off, x, rfl, hb, hc, hx⟩ := hf.at_ (show q < m + 1 by have := hq.out; omega)
    have hmin : (if (m : Int) < (u : Int) then (m : Int) else (u : Int)) = ((q : Nat) : Int) := by have := hq.out; split <;> omega
    have hmin2 : (if m < u then (m : Int) else (u : Int)) = ((q : Nat) : Int) := by have := hq.out; split <;> omega
    have hv2 : fit x = atOf (m + 1) f u := by rw [hv, hx.out]; have := hq.out; simp; rw [this]
    have HV := Lib.hid hv2
    clear hv hv2 h0
    have hqm : q ≤ m := by have := hq.out; omega
    have hz1 : ((m : Int) + 1 == 0) = false := by simp; omega
    have hz2 : decide ((u : Int) < 0) = false := by simp
    go_enter Try.func61, Try.ntmps61
    go_wp2_with (go_at_call 31; refine (fit_any _ _).mono ?_; rintro e w' ⟨rfl, rfl⟩)
    go_ret
    exact ⟨ret_int HV.out, rfl⟩

set_option maxHeartbeats 400000 in
theorem cwithin_any (a b : Option Addr) (n m c d : Nat) (f g : Nat → Int) (w : World) (hf : Row w a n f) (hg : Row w b m g) (hn : n ≤ 1152921504606846976) (hm : m ≤ 1152921504606846976) :
    Calls Try.prog 34 #[.slice a n c, .slice b m d] w fun e w' => e = .returned (.bool (cWithin n m f g)) ∧ More w w' := by
  have hmin : (if m < n then (m : Int) else (n : Int)) = ((min n m : Nat) : Int) := by split <;> omega
  obtain ⟨q, hq⟩ : ∃ q, Hid (min n m = q) := ⟨_, rfl⟩
  rw [hq.out] at hmin
  have hqn : q ≤ n := by have := hq.out; omega
  have hqm : q ≤ m := by have := hq.out; omega
  have hqx : n ≤ q ∨ m ≤ q := by have := hq.out; omega
  go_enter Try.func34, Try.ntmps34
  go_wp2
  go_loopw [11] (fun i wr => ∃ (k dr : Nat), i = .int .i64 k ∧ k ≤ q ∧ CWithin k k f g ∧ wr = w.drewN dr) (fun i _ => q - (intOf i).toNat)
  case atStart => exact ⟨0, 0, rfl, Nat.zero_le _, fun t h _ => by omega, rfl⟩
  case round =>
    obtain ⟨k, dr, rfl, hk, hall, rfl⟩ := hrel
    have HA := Lib.hid hall
    clear hall
    by_cases hlt : k < q
    · obtain ⟨b1, o1, x, rfl, hb1, hc1, hx⟩ := hf.at_ (show k < n by omega)
      obtain ⟨b2, o2, y, rfl, hb2, hc2, hy⟩ := hg.at_ (show k < m by omega)
      have k1 : (k : Int) < (n : Int) := by omega
      have k2 : (k : Int) < (m : Int) := by omega
      by_cases hxy : fit x ≤ fit y
      · have hd : decide (fit y < fit x) = false := by simpa using hxy
        go_wp2_with fail
        go_quiet ((go_at_call 31; first | exact quiet_left (fit_any _ _) | exact quiet_add_left (fit_any _ _)))
        go_wp2
        go_roundw
        case rel =>
          refine ⟨k + 1, _, by go_num, by omega, fun t h1 h2 => ?_, rfl⟩
          rcases Nat.lt_succ_iff_lt_or_eq.1 h1 with h | h
          · exact HA.out t h h
          · subst h; rw [← hx.out, ← hy.out]; exact hxy
        case measure => simp [intOf]; omega
      · have hd : decide (fit y < fit x) = true := by simpa using hxy
        have hxy' : fit y < fit x := by omega
        clear hxy
        go_wp2_with fail
        go_quiet ((go_at_call 31; first | exact quiet_left (fit_any _ _) | exact quiet_add_left (fit_any _ _)))
        go_wp2
        go_ret
        refine ⟨ret_bool (cWithin_false fun h => ?_).symm, (by repeat (first | (with_reducible exact More.refl _) | (with_reducible refine More.alloc ?_ _) | (with_reducible refine More.more ?_ _ _) | (with_reducible refine More.drewN ?_ _) | (with_reducible refine More.drew ?_)))⟩
        have := h k (by omega) (by omega)
        rw [← hx.out, ← hy.out] at this
        omega
    · obtain rfl : k = q := by omega
      go_wp2
      go_ret
      exact ⟨ret_bool (cWithin_true fun t h1 h2 => HA.out t (by omega) (by omega)).symm, (by repeat (first | (with_reducible exact More.refl _) | (with_reducible refine More.alloc ?_ _) | (with_reducible refine More.more ?_ _ _) | (with_reducible refine More.drewN ?_ _) | (with_reducible refine More.drew ?_)))⟩

/-- A function of two ints: it only reckons, and it is called as any function. -/
def Reckons (K : Nat) (h : Int → Int → Int) : Prop := (∀ (x y : Int) (W : World), Calls Try.prog K #[.int .i64 x, .int .i64 y] W fun e w' => e = .returned (.int .i64 (h x y)) ∧ W = w') ∧
  ∀ (x y : Int) (W : World), Sem.run Try.prog (callFunc K #[.int .i64 x, .int .i64 y]) W = .ok (.enter K #[.int .i64 x, .int .i64 y]) W

set_option maxHeartbeats 1000000 in
theorem czip_any (K : Nat) (h : Int → Int → Int) (hK : Reckons K h) (a b : Option Addr) (n m c d : Nat) (f g : Nat → Int) (w : World) (hf : Row w a n f) (hg : Row w b m g) (hn : n ≤ 17592186044416) (hm : m ≤ 17592186044416) :
    Calls Try.prog 63 #[.slice a n c, .slice b m d, .func (.func K) #[] #[]] w fun e w' => ∃ a' c', e = .returned (.slice a' (min n m) c') ∧ min n m ≤ c' ∧ Row w' a' (min n m) (fun k => h (fit (f k)) (fit (g k))) ∧ Below w.heap.size w w' := by
  obtain ⟨hK1, hC⟩ := hK
  have HK := Lib.hid hK1
  clear hK1
  have hmin : (if m < n then (m : Int) else (n : Int)) = ((min n m : Nat) : Int) := by split <;> omega
  obtain ⟨q, hq⟩ : ∃ q, Hid (min n m = q) := ⟨_, rfl⟩
  rw [hq.out] at hmin ⊢
  have hqn : q ≤ n := by have := hq.out; omega
  have hqm : q ≤ m := by have := hq.out; omega
  obtain ⟨i0, hi, hz0, hz1, hz2⟩ := info_parts intInfo
  go_enter Try.func63, Try.ntmps63
  go_wp2
  go_loopw [7, 14] (fun out i wr => ∃ k : Nat, i = .int .i64 k ∧ k ≤ q ∧ wr.ownsRow w.heap.size 3 1 out k (cellsOf k (fun k => h (fit (f k)) (fit (g k)))) ∧ Below w.heap.size w wr) (fun _ i _ => q - (intOf i).toNat)
  case atStart => exact ⟨0, rfl, Nat.zero_le _, World.ownsRow_nil _ _ _ _, Below.refl _ _⟩
  case round =>
    obtain ⟨k, rfl, hk, hown, hbe⟩ := hrel
    have hsz := hbe.size
    by_cases hlt : k < q
    · obtain ⟨b1, o1, x, rfl, hb1, hc1', hx⟩ := hf.at_ (show k < n by omega)
      obtain ⟨b2, o2, y, rfl, hb2, hc2', hy⟩ := hg.at_ (show k < m by omega)
      have hc1 : wr.cell? ⟨b1, o1 + k, none⟩ = some (.int .i64 x) := (hbe.cell (p := ⟨b1, o1 + k, none⟩) hb1).trans hc1'
      have hc2 : wr.cell? ⟨b2, o2 + k, none⟩ = some (.int .i64 y) := (hbe.cell (p := ⟨b2, o2 + k, none⟩) hb2).trans hc2'
      clear hc1' hc2'
      have k1 : (k : Int) < (n : Int) := by omega
      have k2 : (k : Int) < (m : Int) := by omega
      have ha1 := own_ne hown (show b1 < w.heap.size from hb1)
      have ha2 := own_ne hown (show b2 < w.heap.size from hb2)
      have k0 : (0 : Int) ≤ (k : Int) := Int.natCast_nonneg _
      go_wp2_with fail
      go_region_held3 (fun w' => w'.cell? ⟨b1, o1 + k, none⟩ = some (.int .i64 x) ∧ w'.cell? ⟨b2, o2 + k, none⟩ = some (.int .i64 y)) ((first | go_keep | (go_split_ands; repeat' apply And.intro) <;> (rw [hgrow.cell_far _ (by simp; omega) (by first | exact ha1.symm | exact ha2.symm | exact ha3.symm)]; assumption))) (first | (go_at_call 31; refine (fit_any _ _).mono ?_; rintro e w' ⟨rfl, rfl⟩) | (with_reducible refine (HK.out _ _ _).mono ?_; rintro e w' ⟨rfl, rfl⟩) | (refine step_append_lies _ (by rfl) _ _ _ (by rfl) _ 3 i0 _ 1 8 Try.underlying22 hi hz0 hz1 hz2 rfl (by omega) _ _ _ (by rfl) ((hown.alloc _).drew) ⟨wr.heap.size, 0, none⟩ 1 1 [.int .i64 (h (fit x) (fit y))] (by rfl) (by rfl) (World.news_of_block (cs := #[.int .i64 (h (fit x) (fit y))]) (t := 3) (fr := (0, 0)) (heap_alloc_new wr _)) (by simp [Value.oneCell']) (by omega) (by simp only [maxLen]; omega) (by omega) (by simp; omega) (wr.heap.size + 1) (by simp) ?_; intro gg cap w1 hown' hgrow hat hlt0))
      go_wp2
      go_roundw
      case rel => exact ⟨k + 1, by go_num, by omega, by rw [cellsOf_succ, ← hx.out, ← hy.out]; exact hown', below_appendd hbe hsz hown hgrow⟩
      case measure => simp [intOf]; omega
    · obtain rfl : k = q := by omega
      obtain ⟨a', c', hv, hc'⟩ := own_slice hown
      subst hv
      go_wp2
      go_ret
      exact ⟨a', c', rfl, hc', Row.of_own hown, hbe⟩

theorem min_reckons : Reckons 64 (fun x y => min x y) := by
  refine ⟨fun x y w => ?_, fun _ _ _ => rfl⟩
  go_enter Try.func64, Try.ntmps64
  go_wp2
  all_goals
    go_ret
    exact ⟨ret_int (by omega), rfl⟩
theorem plus_reckons : Reckons 35 plus := ⟨plus_any, fun _ _ _ => rfl⟩

theorem clower_any (a b : Option Addr) (n m c d : Nat) (f g : Nat → Int) (w : World) (hf : Row w a n f) (hg : Row w b m g) (hn : n ≤ 17592186044416) (hm : m ≤ 17592186044416) :
    Calls Try.prog 33 #[.slice a n c, .slice b m d] w fun e w' => ∃ a' c', e = .returned (.slice a' (min n m) c') ∧ min n m ≤ c' ∧ Row w' a' (min n m) (lowerOf f g) ∧ Below w.heap.size w w' := by
  go_enter Try.func33, Try.ntmps33
  go_wp2_with fail
  refine (czip_any _ _ min_reckons a b n m c d f g _ hf hg hn hm).mono ?_
  rintro e w' ⟨a', c', rfl, hc', hr, hb⟩
  go_wp2
  go_ret
  exact ⟨a', c', rfl, hc', hr, hb⟩

theorem csum_any (a b : Option Addr) (n m c d : Nat) (f g : Nat → Int) (w : World) (hf : Row w a n f) (hg : Row w b m g) (hn : n ≤ 17592186044416) (hm : m ≤ 17592186044416) :
    Calls Try.prog 36 #[.slice a n c, .slice b m d] w fun e w' => ∃ a' c', e = .returned (.slice a' (min n m) c') ∧ min n m ≤ c' ∧ Row w' a' (min n m) (sumOf f g) ∧ Below w.heap.size w w' := by
  go_enter Try.func36, Try.ntmps36
  go_wp2_with fail
  refine (czip_any _ _ plus_reckons a b n m c d f g _ hf hg hn hm).mono ?_
  rintro e w' ⟨a', c', rfl, hc', hr, hb⟩
  go_wp2
  go_ret
  exact ⟨a', c', rfl, hc', hr, hb⟩
end Go.Proofs.Ytdilmnpoicdkhaa
