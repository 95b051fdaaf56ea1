/- Texts in one: Mp, Bound, TwLaw. Conditions: those of each law. -/
import Derived.Test.YtgmljgcmfooniaaGreatDoorQuM
/- Mp -/
set_option linter.unusedVariables false
set_option linter.unusedSimpArgs false
namespace Go.Proofs.YtgmljgcmfooniaaGreatDoor
open Go.RowKit Go.Tide
set_option linter.unusedVariables false
set_option linter.unusedSimpArgs false
set_option maxRecDepth 20000

set_option maxHeartbeats 1000000 in
theorem conv_any (a b : Option Addr) (n m c d : Nat) (f g : Nat → Int) (w : World) (hf : Row w a n f) (hg : Row w b m g) (hn : n ≤ 17592186044400) (hm : m ≤ 17592186044400) :
    Calls Tryz.prog 17 #[.slice a n c, .slice b m d] w fun e w' => ∃ a' c', e = .returned (.slice a' (min n m) c') ∧ min n m ≤ c' ∧ Row w' a' (min n m) (conv f g) ∧ Below w.heap.size w w' := by
  have hmin : (if m < n then (m : Int) else (n : Int)) = ((min n m : Nat) : Int) := by split <;> omega
  obtain ⟨q, hq⟩ : ∃ q, Hid (min n m = q) := ⟨_, rfl⟩
  rw [hq.out] at hmin ⊢
  have hqn : q ≤ n := by have := hq.out; omega
  have hqm : q ≤ m := by have := hq.out; omega
  obtain ⟨i0, hi, hz0, hz1, hz2⟩ := info_parts intInfo
  go_enter Tryz.func17, Tryz.ntmps17
  go_wp2
  go_loopw [5, 14] (fun out i wr => ∃ k : Nat, i = .int .i64 k ∧ k ≤ q ∧ wr.ownsRow w.heap.size 3 1 out k (cellsOf k (conv f g)) ∧ Below w.heap.size w wr) (fun _ i _ => q - (intOf i).toNat)
  case atStart => exact ⟨0, rfl, Nat.zero_le _, World.ownsRow_nil _ _ _ _, Below.refl _ _⟩
  case round =>
    obtain ⟨t, rfl, hk, hown, hbe⟩ := hrel
    have hsz := hbe.size
    by_cases hlt : t < q
    · have hf1 := hf.below hbe (Nat.le_refl _)
      have hg1 := hg.below hbe (Nat.le_refl _)
      go_wp2_with fail
      go_loopw [7, 19] (fun l i wi => ∃ s dr : Nat, i = .int .i64 s ∧ s ≤ t + 1 ∧ l = .int .i64 (convTo f g t s) ∧ wi = wr.drewN dr) (fun _ i _ => t + 1 - (intOf i).toNat)
      case atStart => exact ⟨0, 0, rfl, Nat.zero_le _, rfl, rfl⟩
      case round =>
        obtain ⟨s, dr, rfl, hs, rfl, rfl⟩ := hrel
        by_cases hls : s < t + 1
        · obtain ⟨r, hr⟩ : ∃ r, Hid (t - s = r) := ⟨_, rfl⟩
          have hts : (t : Int) - (s : Int) = ((r : Nat) : Int) := by have := hr.out; omega
          obtain ⟨b1, o1, x, rfl, hb1, hc1, hx⟩ := hf1.at_ (show s < n by omega)
          obtain ⟨b2, o2, y, rfl, hb2, hc2, hy⟩ := hg1.at_ (show r < m by have := hr.out; omega)
          have hnew : Hid (convTo f g t (s + 1) = min (convTo f g t s) (plus x y)) := by show _ = _; rw [hx.out, hy.out, ← hr.out]; rfl
          have k1 : (s : Int) < (n : Int) := by omega
          have k2 : (r : Int) < (m : Int) := by have := hr.out; omega
          have k3 : (s : Int) < (t : Int) + 1 := by omega
          generalize convTo f g t s = L at *
          go_wp2_with fail
          go_quiet ((go_at_call 45; first | exact quiet_left (plus_any _ _ _) | exact quiet_add_left (plus_any _ _ _)))
          go_wp2
          go_roundw
          case rel => exact ⟨s + 1, _, by go_num, by omega, by rw [hnew.out]; congr 1; omega, rfl⟩
          case measure => simp [intOf]; omega
        · obtain rfl : s = t + 1 := by omega
          go_wp2_with (at_builtin; refine wpList_append_own _ rfl _ _ 49 rfl _ 3 i0 (.int .i64 0) 1 8 Tryz.underlying49 hi hz0 hz1 hz2 rfl (by decide) _ _ _ rfl (own_drewN (hown.alloc _) _) _ _ _ [.int .i64 _] rfl rfl (cell_oneq _ _ _ _) (oneCell_int _ _) (by simp only [maxLen]; omega) (by omega) (by simp; omega) ?_; intro v' w1 hown' hgrow hnil; clear hnil)
          go_roundw
          case rel => exact ⟨t + 1, by go_num, by omega, by rw [cellsOf_succ]; exact hown', below_appendq hbe hsz hown hgrow⟩
          case measure => simp [intOf]; omega
    · obtain rfl : t = q := by omega
      obtain ⟨a', c', hv, hc'⟩ := own_slice hown
      subst hv
      go_wp2
      go_ret
      exact ⟨a', c', rfl, hc', Row.of_own hown, hbe⟩

end Go.Proofs.YtgmljgcmfooniaaGreatDoor
/- Bound -/
set_option linter.unusedVariables false
set_option linter.unusedSimpArgs false
namespace Go.Proofs.YtgmljgcmfooniaaGreatDoor
open Go.RowKit Go.Tide
set_option linter.unusedVariables false
set_option linter.unusedSimpArgs false
set_option maxRecDepth 20000

theorem bnsmall_any (x : Int) (w : World) : Calls Tryz.prog 46 #[.int .i64 x] w fun e w' => e = .returned (.bool (smallB x)) ∧ w = w' := by
  go_enter Tryz.func46, Tryz.ntmps46
  go_wp2
  all_goals
    go_ret
    refine ⟨ret_bool_iff ?_, rfl⟩
    simp only [smallB, Bool.and_eq_true, decide_eq_true_eq, true_iff, iff_true, Bool.true_eq, Bool.false_eq_true, false_iff] <;> omega

set_option maxHeartbeats 1000000 in
theorem serves_any (R late : Int) (n : Nat) (w : World) (hR : 0 ≤ R ∧ R ≤ 1099511627776) (hl : 0 ≤ late) (hl2 : late ≤ 1099511627776) (hn : n ≤ 300) :
    Calls Tryz.prog 18 #[.int .i64 R, .int .i64 late, .int .i64 n] w fun e w' => ∃ a' c', e = .returned (.slice a' n c') ∧ n ≤ c' ∧ Row w' a' n (servOf R late) ∧ Below w.heap.size w w' := by
  have E0 := Lib.hid (smallB_iff.2 hR)
  obtain ⟨i0, hi, hz0, hz1, hz2⟩ := info_parts intInfo
  go_enter Tryz.func18, Tryz.ntmps18
  go_wp2_with fail
  refine (bnsmall_any _ _).mono ?_
  rintro e w' ⟨rfl, rfl⟩
  rw [E0.out]
  go_wp2
  go_loopw [7, 19] (fun out i wr => ∃ k : Nat, i = .int .i64 k ∧ k ≤ n ∧ wr.ownsRow w.heap.size 3 1 out k (cellsOf k (servOf R late)) ∧ Below w.heap.size w wr) (fun _ i _ => n - (intOf i).toNat)
  case atStart => exact ⟨0, rfl, Nat.zero_le _, World.ownsRow_nil _ _ _ _, Below.refl _ _⟩
  case round =>
    obtain ⟨t, rfl, hk, hown, hbe⟩ := hrel
    have hsz := hbe.size
    by_cases hlt : t < n
    · obtain ⟨X, hX⟩ : ∃ X, Hid (max ((t : Int) - late) 0 = X) := ⟨_, rfl⟩
      have hmx : (if (t : Int) - late < 0 then 0 else (t : Int) - late) = X := by have := hX.out; omega
      have hb := serv_bounds hR hl (t := t) (by omega)
      obtain ⟨P, hP⟩ : ∃ P, R * X = P := ⟨_, rfl⟩
      have HS : Hid (servOf R late t = P) := by show _ = _; unfold servOf; rw [hX.out]; exact hP
      rw [HS.out] at hb
      have kw1 : IntKind.i64.wrap ((t : Int) - late) = (t : Int) - late := IntWalk.i64_in _ (by omega)
      have kw2 : IntKind.i64.wrap P = P := IntWalk.i64_in _ (by omega)
      have kx2 : wrap64 P = P := IntWalk.wrap64_in _ (by omega)
      have k1 : (t : Int) < (n : Int) := by omega
      go_wp2_with (at_builtin; refine wpList_append_own _ rfl _ _ 49 rfl _ 3 i0 (.int .i64 0) 1 8 Tryz.underlying49 hi hz0 hz1 hz2 rfl (by decide) _ _ _ rfl (hown.alloc _) _ _ _ [.int .i64 _] rfl rfl (cell_one _ _ _) (oneCell_int _ _) (by simp only [maxLen]; omega) (by omega) (by simp; omega) ?_; intro v' w1 hown' hgrow hnil; clear hnil)
      go_roundw
      case rel => exact ⟨t + 1, by go_num, by omega, by rw [cellsOf_succ, HS.out]; exact hown', below_append hbe hsz hown hgrow⟩
      case measure => simp [intOf]; omega
    · obtain rfl : t = n := by omega
      obtain ⟨a', c', hv, hc'⟩ := own_slice hown
      subst hv
      go_wp2
      go_ret
      exact ⟨a', c', rfl, hc', Row.of_own hown, hbe⟩

end Go.Proofs.YtgmljgcmfooniaaGreatDoor
/- TwLaw -/
set_option linter.unusedVariables false
set_option linter.unusedSimpArgs false
namespace Go.Tide
section
variable {a b M : Int} {x : Nat → Int} {n : Nat}
theorem isum_nonneg (hx : ∀ k, k < n → 0 ≤ x k) : ∀ k, k ≤ n → 0 ≤ isum x k := by
  intro k
  induction k with
  | zero => intro _; exact Int.le_refl _
  | succ k ih => intro hk; have := ih (by omega); have := hx k (by omega); simp only [isum]; omega
theorem isum_up (hx : ∀ k, k < n → 0 ≤ x k) : ∀ d k, k + d ≤ n → isum x k ≤ isum x (k + d) := by
  intro d
  induction d with
  | zero => intro k _; exact Int.le_refl _
  | succ d ih => intro k hk; have := ih k (by omega); have := hx (k + d) (by omega); rw [← Nat.add_assoc]; simp only [isum]; omega
/-- Where all that comes has room, nothing is lost. -/
theorem nolost_sum (ha : 0 ≤ a) (hM : 0 ≤ M) (hx : ∀ k, k < n → 0 ≤ x k) (hs : isum x n ≤ M) : ∀ k, k < n → quLost a M x k = 0 := by
  intro k hk
  have h1 := qu_sums (R := a) (M := M) (x := x) (k + 1)
  have h2 := qu_bounds ha hM hx k hk
  have h3 := qu_full ha hM hx k hk
  have h4 := isum_up hx (n - (k + 1)) (k + 1) (by omega)
  rw [show k + 1 + (n - (k + 1)) = n by omega] at h4
  have h5 := isum_nonneg (x := quWent a M x) (n := n) (fun j hj => (qu_bounds ha hM hx j hj).1) (k + 1) (by omega)
  have h6 := isum_nonneg (x := quLost a M x) (n := n) (fun j hj => (qu_bounds ha hM hx j hj).2.2.1) k (by omega)
  simp only [isum] at h1 h4 h5
  rcases Int.lt_or_le 0 (quLost a M x k) with h | h
  · have := h3.1 h
    omega
  · omega
theorem went_sum (ha : 0 ≤ a) (hM : 0 ≤ M) (hx : ∀ k, k < n → 0 ≤ x k) (hs : isum x n ≤ M) : isum (quWent a M x) n ≤ M := by
  have h1 := qu_sums (R := a) (M := M) (x := x) n
  have h2 := qu_state ha hM hx n (Nat.le_refl _)
  have h6 := isum_nonneg (x := quLost a M x) (n := n) (fun j hj => (qu_bounds ha hM hx j hj).2.2.1) n (Nat.le_refl _)
  omega
theorem two_state (ha : 0 ≤ a) (hb : 0 ≤ b) (hM : 0 ≤ M) (hx : ∀ k, k < n → 0 ≤ x k) (hs : isum x n ≤ M) : ∀ k, k ≤ n →
    quWait a M x k + quWait b M (quWent a M x) k = quWait (min a b) M x k ∧ (a ≤ b → quWait b M (quWent a M x) k = 0) := by
  have hy : ∀ k, k < n → 0 ≤ quWent a M x k := fun k hk => (qu_bounds ha hM hx k hk).1
  have l1 := nolost_sum ha hM hx hs
  have l2 := nolost_sum hb hM hy (went_sum ha hM hx hs)
  have l3 := nolost_sum (a := min a b) (by omega) hM hx hs
  intro k
  induction k with
  | zero => intro _; exact ⟨rfl, fun _ => rfl⟩
  | succ k ih =>
    intro hk
    obtain ⟨i1, i2⟩ := ih (by omega)
    have s1 := qu_state ha hM hx k (by omega)
    have s2 := qu_state hb hM hy k (by omega)
    have x1 := hx k (by omega)
    rw [qu_succ, qu_succ, qu_succ, l1 k (by omega), l2 k (by omega), l3 k (by omega)]
    have e1 : quWent b M (quWent a M x) k = min (quWait b M (quWent a M x) k + quWent a M x k) b := rfl
    have e2 : quWent a M x k = min (quWait a M x k + x k) a := rfl
    have e3 : quWent (min a b) M x k = min (quWait (min a b) M x k + x k) (min a b) := rfl
    rw [e1, e3, e2]
    generalize quWait b M (quWent a M x) k = W2 at *
    generalize quWait a M x k = W1 at *
    generalize quWait (min a b) M x k = W at *
    generalize x k = y at *
    clear l1 l2 l3 e1 e2 e3 hy ih
    constructor
    · omega
    · intro hab
      have := i2 hab
      omega
theorem two_went (ha : 0 ≤ a) (hb : 0 ≤ b) (hM : 0 ≤ M) (hx : ∀ k, k < n → 0 ≤ x k) (hs : isum x n ≤ M) : ∀ k, k < n →
    quWent b M (quWent a M x) k = quWent (min a b) M x k := by
  intro k hk
  obtain ⟨i1, i2⟩ := two_state ha hb hM hx hs k (by omega)
  have hy : ∀ k, k < n → 0 ≤ quWent a M x k := fun k hk => (qu_bounds ha hM hx k hk).1
  have s1 := qu_state ha hM hx k (by omega)
  have s2 := qu_state hb hM hy k (by omega)
  have x1 := hx k (by omega)
  have e1 : quWent b M (quWent a M x) k = min (quWait b M (quWent a M x) k + quWent a M x k) b := rfl
  have e2 : quWent a M x k = min (quWait a M x k + x k) a := rfl
  have e3 : quWent (min a b) M x k = min (quWait (min a b) M x k + x k) (min a b) := rfl
  rw [e1, e3, e2]
  generalize quWait b M (quWent a M x) k = W2 at *
  generalize quWait a M x k = W1 at *
  generalize quWait (min a b) M x k = W at *
  generalize x k = y at *
  clear e1 e2 e3 hy
  by_cases hab : a ≤ b
  · have := i2 hab
    omega
  · omega
theorem serv_at (R : Int) (t : Nat) : servOf R 0 t = R * t := by unfold servOf; rw [Int.sub_zero, show max (t : Int) 0 = t by omega]
/-- What two serve in a row, in least sums, the slower one serves. -/
theorem two_serve (ha : 0 ≤ a ∧ a ≤ 1099511627776) (hb : 0 ≤ b ∧ b ≤ 1099511627776) {t : Nat} (ht : t ≤ 300) : conv (servOf a 0) (servOf b 0) t = servOf (min a b) 0 t := by
  have z : ∀ R, servOf R 0 0 = 0 := fun R => by rw [serv_at]; simp
  refine Int.le_antisymm ?_ ?_
  · by_cases hab : a ≤ b
    · have h1 := conv_le' (servOf a 0) (servOf b 0) t 0
      rw [z, plus_zero_right, Nat.add_zero, fit_small (serv_bounds ha (Int.le_refl 0) ht)] at h1
      rw [show min a b = a by omega]
      exact h1
    · have h1 := conv_le' (servOf a 0) (servOf b 0) 0 t
      rw [z, plus_zero_left, Nat.zero_add, fit_small (serv_bounds hb (Int.le_refl 0) ht)] at h1
      rw [show min a b = b by omega]
      exact h1
  · obtain ⟨s, r, e1, e2⟩ := conv_at (servOf a 0) (servOf b 0) t
    rw [e2, plus_small (serv_bounds ha (Int.le_refl 0) (by omega)) (serv_bounds hb (Int.le_refl 0) (by omega)), serv_at, serv_at, serv_at, ← e1, Int.natCast_add, Int.mul_add]
    have h1 : min a b * (s : Int) ≤ a * s := Int.mul_le_mul_of_nonneg_right (by omega) (by omega)
    have h2 : min a b * (r : Int) ≤ b * r := Int.mul_le_mul_of_nonneg_right (by omega) (by omega)
    omega
/-- What goes in all is what comes, in least sums with what is served. -/
theorem serve_conv (ha : 0 ≤ a ∧ a ≤ 1099511627776) (h3 : Small n x) (hM : 0 ≤ M) (hl : ∀ k, k < n → quLost a M x k = 0) : ∀ t, t < n + 1 → conv (isum x) (servOf a 0) t = isum (quWent a M x) t := by
  intro t ht
  have hx := fun k hk => (h3.2 k hk).1
  have hb : ∀ t, t ≤ n → 0 ≤ isum (quWent a M x) t ∧ isum (quWent a M x) t ≤ 329853488332800 := by
    intro t ht
    have h1 := qu_sums (R := a) (M := M) (x := x) t
    have h2 := qu_nolost hl t (by omega)
    have h4 := h3.sum t ht
    have h5 := qu_state ha.1 hM hx t (by omega)
    have h6 := isum_nonneg (x := quWent a M x) (n := n) (fun j hj => (qu_bounds ha.1 hM hx j hj).1) t ht
    omega
  refine Int.le_antisymm ?_ ?_
  · have := bound_serve ha h3 hM hl t ht ht
    rwa [fit_conv, fit_small (hb t (by omega))] at this
  · obtain ⟨s, r, e1, e2⟩ := conv_at (isum x) (servOf a 0) t
    subst e1
    have a2 := h3.sum s (by omega)
    rw [e2, plus_small (by omega) (serv_bounds ha (Int.le_refl 0) (by have := h3.1; omega)), serv_at]
    have h1 := qu_sums (R := a) (M := M) (x := x) (s + r)
    have h2 := qu_nolost hl (s + r) (by omega)
    have h5 := qu_reich_ge ha.1 hM hx hl s r (by omega)
    rw [Int.mul_comm] at h5
    omega
theorem went_small {R M : Int} (h : BRight R M n x) : Small n (quWent R M x) := ⟨h.2.2.1, fun k hk => by
  have := qu_bounds h.1.1 h.2.1.1 (fun k hk => (h.2.2.2 k hk).1) k hk
  have := h.1
  omega⟩
/-- The whole. -/
theorem two_law (ha : 0 ≤ a ∧ a ≤ 1099511627776) (hb : 0 ≤ b ∧ b ≤ 1099511627776) (h3 : Small n x) (hs : isum x n ≤ 1099511627776) : ∀ t, t < n + 1 →
    isum (quWent b 1099511627776 (quWent a 1099511627776 x)) t = conv (isum x) (conv (servOf a 0) (servOf b 0)) t := by
  intro t ht
  have hx := fun k hk => (h3.2 k hk).1
  have e1 : conv (isum x) (conv (servOf a 0) (servOf b 0)) t = conv (isum x) (servOf (min a b) 0) t := conv_congr (fun s _ => rfl) (fun s hs' => two_serve ha hb (by have := h3.1; omega))
  rw [e1, serve_conv (a := min a b) (M := 1099511627776) (by omega) h3 (by omega) (nolost_sum (by omega) (by omega) hx hs) t ht]
  exact isum_congr t fun j hj => two_went ha.1 hb.1 (by omega) hx hs j (by omega)
end
end Go.Tide
