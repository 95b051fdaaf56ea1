/- slices.IsSorted at []int: whether no number is less than the one ahead of it. Conditions: lengths that fit. -/
import Derived.Test.YtdilmnpoicdkhaaProg
import Derived.Test.YtdilmnpoicdkhaaKit2
namespace Go.Tide
def Sorted (n : Nat) (f : Nat → Int) : Prop := ∀ k, k + 1 < n → f k ≤ f (k + 1)
noncomputable def sorted (n : Nat) (f : Nat → Int) : Bool := @decide (Sorted n f) (Classical.propDecidable _)
theorem sorted_iff {n : Nat} {f : Nat → Int} : sorted n f = true ↔ Sorted n f := by simp [sorted]
theorem sorted_true {n : Nat} {f : Nat → Int} (h : Sorted n f) : sorted n f = true := sorted_iff.2 h
theorem sorted_false {n : Nat} {f : Nat → Int} (h : ¬ Sorted n f) : sorted n f = false := by simp [sorted, h]
theorem Sorted.le {n : Nat} {f : Nat → Int} (h : Sorted n f) : ∀ i j, i ≤ j → j < n → f i ≤ f j := by
  intro i j hij
  induction j with
  | zero => intro _; obtain rfl : i = 0 := by omega
            exact Int.le_refl _
  | succ j ih =>
    intro hj
    rcases Nat.lt_or_ge i (j + 1) with h1 | h1
    · exact Int.le_trans (ih (by omega) (by omega)) (h j hj)
    · obtain rfl : i = j + 1 := by omega
      exact Int.le_refl _
end Go.Tide
namespace Go.Proofs.Ytdilmnpoicdkhaa
open Go.RowKit Go.Tide
set_option linter.unusedVariables false
set_option linter.unusedSimpArgs false

theorem cless_any (x y : Int) (w : World) : Calls Try.prog 68 #[.int .i64 x, .int .i64 y] w fun e w' => e = .returned (.bool (decide (x < y))) ∧ w = w' := by
  go_enter Try.func68, Try.ntmps68
  go_wp2
  go_ret
  exact ⟨rfl, rfl⟩

theorem drewN_drewN (w : World) (d m : Nat) : (w.drewN d).drewN m = w.drewN (d + m) := by simp [World.drewN, Nat.add_assoc]

set_option maxHeartbeats 400000 in
theorem issorted_drew (a : Option Addr) (n c : Nat) (f : Nat → Int) (w : World) (hf : Row w a n f) (hn : n ≤ 1152921504606846976) :
    Calls Try.prog 55 #[.slice a n c] w fun e w' => e = .returned (.bool (sorted n f)) ∧ ∃ m, w' = w.drewN m := by
  cases n with
  | zero =>
    go_enter Try.func55, Try.ntmps55
    go_wp2
    refine wp_loop_rounds 1 ?_
    rw [rounds_succ]
    go_wp2
    go_ret
    exact ⟨ret_bool (sorted_true fun k hk => absurd hk (by omega)).symm, 0, rfl⟩
  | succ m =>
    go_enter Try.func55, Try.ntmps55
    go_wp2
    go_loopw [3] (fun i wr => ∃ k d : Nat, i = .int .i64 k ∧ k ≤ m ∧ wr = w.drewN d ∧ ∀ t, k ≤ t → t < m → f t ≤ f (t + 1)) (fun i _ => (intOf i).toNat)
    case atStart => exact ⟨m, 0, by go_num, Nat.le_refl _, rfl, fun t h1 h2 => absurd h2 (by omega)⟩
    case round =>
      obtain ⟨k, d, rfl, hk, rfl, hq⟩ := hrel
      have HQ := Lib.hid hq
      clear hq
      cases k with
      | zero =>
        go_wp2
        go_ret
        exact ⟨ret_bool (sorted_true fun t ht => HQ.out t (by omega) (by omega)).symm, d, rfl⟩
      | succ j =>
        obtain ⟨b, off, x, rfl, hb, hc, hx⟩ := hf.at_ (show j + 1 < m + 1 by omega)
        obtain ⟨b', off', y, he, hb', hc', hy⟩ := hf.at_ (show j < m + 1 by omega)
        injection he with he
        injection he with he1 he2
        subst he1 he2
        by_cases hxy : x < y
        · have hd : decide (x < y) = true := by simpa using hxy
          go_wp2_with fail
          go_quiet ((go_at_call 68; exact quiet_add_left (cless_any _ _ _)))
          go_wp2
          go_ret
          refine ⟨ret_bool (sorted_false fun h => ?_).symm, _, drewN_drewN _ _ _⟩
          have := h j (by omega)
          rw [← hx.out, ← hy.out] at this
          omega
        · have hd : decide (x < y) = false := by simpa using hxy
          have hxy' : y ≤ x := by omega
          clear hxy
          go_wp2_with fail
          go_quiet ((go_at_call 68; exact quiet_add_left (cless_any _ _ _)))
          go_wp2
          go_roundw
          case rel =>
            refine ⟨j, _, by go_num, by omega, rfl, fun t h1 h2 => ?_⟩
            rcases Nat.lt_or_ge j t with h3 | h3
            · exact HQ.out t (by omega) h2
            · obtain rfl : t = j := by omega
              rw [← hx.out, ← hy.out]
              exact hxy'
          case measure => simp [intOf]

theorem issorted_any (a : Option Addr) (n c : Nat) (f : Nat → Int) (w : World) (hf : Row w a n f) (hn : n ≤ 1152921504606846976) :
    Calls Try.prog 55 #[.slice a n c] w fun e w' => e = .returned (.bool (sorted n f)) ∧ More w w' :=
  (issorted_drew a n c f w hf hn).mono fun e w' ⟨h, m, hm⟩ => ⟨h, by rw [hm]; exact (More.refl w).drewN m⟩
/-- The same, at a world behind draws, the answer known. -/
theorem issorted_q (a : Option Addr) (n c : Nat) (f : Nat → Int) (w : World) (d : Nat) (v : Bool) (hf : Row w a n f) (hn : n ≤ 1152921504606846976) (hv : sorted n f = v) :
    Calls Try.prog 55 #[.slice a n c] (w.drewN d) fun e w' => e = .returned (.bool v) ∧ ∃ m, w' = w.drewN m :=
  (issorted_drew a n c f (w.drewN d) (hf.drewN d) hn).mono fun e w' ⟨h, m, hm⟩ => ⟨by rw [h, hv], d + m, by rw [hm]; exact drewN_drewN w d m⟩
end Go.Proofs.Ytdilmnpoicdkhaa
