/- WindowTurned: for every input the law returns true. Conditions: none. -/
import Derived.Test.YtmlkebemkibipaaWinA
set_option linter.unusedVariables false
set_option linter.unusedSimpArgs false
namespace Go.Proofs.Ytmlkebemkibipaa
open Go.RowKit Go.Tide
set_option linter.unusedVariables false
set_option linter.unusedSimpArgs false

theorem below_at {w wr w5 : World} {o : Obj} {e : TypeId} {v : Value} {n : Nat} {xs : List Value} (hbe : Below w.heap.size w wr) (hown : wr.ownsAt w.heap.size e v n xs) (hg : (wr.alloc o).grownBy w5 v.ownBlock) : Below w.heap.size w w5 :=
  (hbe.alloc hbe.size o).grown hg (by have := hbe.size; simp; omega) fun b hb => (hown.lt b hb).1
theorem bound_of {h : Int → Int → Bool} {x : Nat → Int} {lo : Int} {k n : Nat} {v : Int} (hb : BestIn h x lo k v) (hk : k < n) (hx : ∀ k, k < n → -9223372036854775808 < x k ∧ x k ≤ 9223372036854775807) : -9223372036854775808 < v ∧ v ≤ 9223372036854775807 := by
  obtain ⟨⟨i, _, h2, rfl⟩, _⟩ := hb
  exact hx i (by omega)

set_option maxHeartbeats 2000000 in
theorem windowTurned_walk (a0 : Option Addr) (len0 cap0 : Nat) (z0 : List Int) (a1 : Int) (w : World) (f0 : IsFlat w a0 len0 cap0 1 z0) (r0 : cap0 * 8 ≤ 140737488351232) (b1 : InI64 a1) :
    Calls Try.prog 4 #[.slice a0 len0 cap0, .int .i64 a1] w fun e w' => e = .returned (.bool true) ∧ Below w.heap.size w w' := by
  obtain ⟨i0_, hi, hz0, hz1, hz2⟩ := info_parts intInfo
  have hle := f0.le
  have hs := f0.row
  have hxb : ∀ k, k < len0 → -9223372036854775808 ≤ (fun k => z0.getD k 0) k ∧ (fun k => z0.getD k 0) k ≤ 9223372036854775807 := fun k hk => by
    obtain ⟨_, _, y, _, _, _, h1, h2, h3, _⟩ := f0.at_ hk
    rw [h3] at h1 h2
    exact ⟨h1, h2⟩
  generalize (fun k => z0.getD k 0) = x at hs hxb
  have HXB := Lib.hid hxb
  clear f0 hxb
  go_enter Try.func4, Try.ntmps4
  go_wp2_with (go_at_call 13; refine (win_alive _).mono ?_; rintro e w' ⟨rfl, os, n_, rfl⟩)
  go_loopw [5, 16] (fun out i wr => ∃ k : Nat, i = .int .i64 k ∧ k ≤ len0 ∧ wr.ownsAt w.heap.size 3 out k (cellsOf k (fun t => - x t)) ∧ Below w.heap.size w wr ∧ Hid (∀ j, j < k → x j ≠ -9223372036854775808)) (fun _ i _ => len0 - (intOf i).toNat)
  case atStart => exact ⟨0, rfl, Nat.zero_le _, ownsAt_nil _ _ _, More.below (by repeat (first | (with_reducible assumption) | (with_reducible exact More.refl _) | (with_reducible refine More.alloc ?_ _) | (with_reducible refine More.more ?_ _ _) | (with_reducible refine More.drewN ?_ _) | (with_reducible refine More.drew ?_))), fun j hj => absurd hj (by omega)⟩
  case round =>
    obtain ⟨k, rfl, hk, hown, hbe, hne⟩ := hrel
    obtain ⟨ao, co, rfl, hco, hco'⟩ := hown.shape
    have hsz := hbe.size
    by_cases hlt : k < len0
    · obtain ⟨b, off, y, rfl, hb, hc0, hy⟩ := (hs.below hbe (Nat.le_refl _)).at_ hlt
      have hc : wr.cell? ⟨b, off + k, none⟩ = some (.int .i64 y) := hc0
      have hyb := HXB.out k hlt
      rw [← hy.out] at hyb
      obtain ⟨hy1, hy2⟩ := hyb
      by_cases hm : y = -9223372036854775808
      · subst hm
        go_wp2_with fail
        go_ret
        exact ⟨rfl, hbe⟩
      · have hmb : (y == -9223372036854775808) = false := by simpa using hm
        have hy3 : -9223372036854775808 < y := by omega
        have HY : Hid (x k ≠ -9223372036854775808) := by rw [← hy.out]; exact hm
        clear hm
        go_wp2_with (at_builtin; refine wpList_append_at rfl (.tmp 22) (.tmp 25) 22 rfl w.heap.size 3 i0_ (.int .i64 0) 8 Try.underlying22 hi hz0 hz1 hz2 rfl (.slice ao k co) k (cellsOf k (fun t => - x t)) rfl (hown.alloc _) _ _ (.int .i64 (-y)) rfl (Blk.cell (cs := #[.int .i64 (-y)]) (t := 3) (by repeat (first | (with_reducible assumption) | ((with_reducible refine Blk.new' ?_); (simp [Nat.add_assoc]; done)) | (with_reducible refine Blk.alloc ?_ _) | (with_reducible refine Blk.more ?_ _ _) | (with_reducible refine Blk.drew ?_) | (with_reducible refine Blk.drewN ?_ _))) 0) rfl (by simp only [maxLen]; omega) (by omega) (by simp; omega) ?_; intro g5 o5 c5 w5 hown5 hgrow5 hlie5 hlt5)
        go_roundw
        case rel =>
          refine ⟨k + 1, by go_num, by omega, by rw [cellsOf_succ, ← hy.out]; exact hown5, below_at hbe hown hgrow5, fun j hj => ?_⟩
          rcases Nat.lt_succ_iff_lt_or_eq.1 hj with h | rfl
          · exact hne.out j h
          · exact HY.out
        case measure => simp [intOf]; omega
    · obtain rfl : k = len0 := by omega
      have hsr : Row wr a0 k x := hs.below hbe (Nat.le_refl _)
      have htr : Row wr ao k (fun t => - x t) := Row.of_at hown
      by_cases c1 : a1 < 1
      · have d1 : decide (1 ≤ a1) = false := by simp; omega
        clear hown hs
        go_wp2_with fail
        refine (wmin_none _ _ _ _ _ c1).mono ?_
        rintro e w1 ⟨rfl, rfl⟩
        go_wp2_with fail
        refine (wmax_none _ _ _ _ _ c1).mono ?_
        rintro e w1 ⟨rfl, rfl⟩
        go_wp2_with fail
        refine (wmax_none _ _ _ _ _ c1).mono ?_
        rintro e w1 ⟨rfl, rfl⟩
        go_wp2_with fail
        go_loopw [62] (fun i wi => i = .int .i64 0 ∧ wi = wr) (fun i _ => 0)
        case atStart => exact ⟨rfl, rfl⟩
        case round =>
          obtain ⟨rfl, rfl⟩ := hrel
          go_wp2
          go_ret
          exact ⟨rfl, hbe⟩
      · have d1 : decide (1 ≤ a1) = true := by simp; omega
        have hxx : ∀ j, j < k → -9223372036854775808 < x j ∧ x j ≤ 9223372036854775807 := fun j hj => by
          have h1 := HXB.out j hj
          have h2 := hne.out j hj
          omega
        have HQ : Hid (∀ j : Nat, j < k → winOf ltB x a1 j = - winOf gtB (fun t => - x t) a1 j ∧ winOf ltB x a1 j ≤ x j ∧ x j ≤ winOf gtB x a1 j ∧ -9223372036854775808 < winOf ltB x a1 j ∧ winOf ltB x a1 j ≤ 9223372036854775807) := fun j hj => by
          have h1 := bound_of (winOf_spec ord_lt x (show 1 ≤ a1 by omega) j) hj hxx
          exact ⟨win_turned (by omega) j, win_le (by omega) (by omega) (Nat.le_refl _), win_ge (by omega) (by omega) (Nat.le_refl _), h1.1, h1.2⟩
        have hb1 := b1.2
        clear hown hs hxx
        go_wp2_with fail
        refine (wmin_any _ k _ x _ (by repeat (first | (with_reducible assumption) | (with_reducible exact Row.nil) | (with_reducible apply Row.drewN) | (with_reducible apply Row.drew) | (with_reducible apply Row.more) | (with_reducible apply Row.alloc))) (by omega) a1 (by omega) hb1).mono ?_
        rintro e w1 ⟨a_1, c_1, rfl, hc_1, hr_1, hb_1⟩
        obtain ⟨os_1, d_1, rfl⟩ := More.of_below hb_1
        go_wp2_with fail
        refine (wmax_any _ k _ x _ (by repeat (first | (with_reducible assumption) | (with_reducible exact Row.nil) | (with_reducible apply Row.drewN) | (with_reducible apply Row.drew) | (with_reducible apply Row.more) | (with_reducible apply Row.alloc))) (by omega) a1 (by omega) hb1).mono ?_
        rintro e w1 ⟨a_2, c_2, rfl, hc_2, hr_2, hb_2⟩
        obtain ⟨os_2, d_2, rfl⟩ := More.of_below hb_2
        go_wp2_with fail
        refine (wmax_any _ k _ (fun t => - x t) _ (by repeat (first | (with_reducible assumption) | (with_reducible exact Row.nil) | (with_reducible apply Row.drewN) | (with_reducible apply Row.drew) | (with_reducible apply Row.more) | (with_reducible apply Row.alloc))) (by omega) a1 (by omega) hb1).mono ?_
        rintro e w1 ⟨a_3, c_3, rfl, hc_3, hr_3, hb_3⟩
        obtain ⟨os_3, d_3, rfl⟩ := More.of_below hb_3
        go_wp2_with fail
        have hLz : Row (((wr.more os_1 d_1).more os_2 d_2).more os_3 d_3) a0 k x := (by repeat (first | (with_reducible assumption) | (with_reducible exact Row.nil) | (with_reducible apply Row.drewN) | (with_reducible apply Row.drew) | (with_reducible apply Row.more) | (with_reducible apply Row.alloc)))
        have hAz : Row (((wr.more os_1 d_1).more os_2 d_2).more os_3 d_3) a_1 k (winOf ltB x a1) := (by repeat (first | (with_reducible assumption) | (with_reducible exact Row.nil) | (with_reducible apply Row.drewN) | (with_reducible apply Row.drew) | (with_reducible apply Row.more) | (with_reducible apply Row.alloc)))
        have hBz : Row (((wr.more os_1 d_1).more os_2 d_2).more os_3 d_3) a_2 k (winOf gtB x a1) := (by repeat (first | (with_reducible assumption) | (with_reducible exact Row.nil) | (with_reducible apply Row.drewN) | (with_reducible apply Row.drew) | (with_reducible apply Row.more) | (with_reducible apply Row.alloc)))
        have hCz : Row (((wr.more os_1 d_1).more os_2 d_2).more os_3 d_3) a_3 k (winOf gtB (fun t => - x t) a1) := (by repeat (first | (with_reducible assumption) | (with_reducible exact Row.nil) | (with_reducible apply Row.drewN) | (with_reducible apply Row.drew) | (with_reducible apply Row.more) | (with_reducible apply Row.alloc)))
        have hmz : Below w.heap.size w (((wr.more os_1 d_1).more os_2 d_2).more os_3 d_3) := ((hbe.more hsz _ _).more (by simp; omega) _ _).more (by simp; omega) _ _
        clear hr_1 hr_2 hr_3 hsr htr hbe
        generalize (((wr.more os_1 d_1).more os_2 d_2).more os_3 d_3) = wz at *
        go_loopw [62] (fun i wi => ∃ j dr : Nat, i = .int .i64 j ∧ j ≤ k ∧ wi = wz.drewN dr) (fun i _ => k - (intOf i).toNat)
        case atStart => exact ⟨0, 0, rfl, Nat.zero_le _, rfl⟩
        case round =>
          obtain ⟨j, dr, rfl, hj, rfl⟩ := hrel
          by_cases hlj : j < k
          · obtain ⟨p1', o1, A, rfl, g1, k1, hA⟩ := hAz.at_ hlj
            obtain ⟨p2', o2, B, rfl, g2, k2, hB⟩ := hBz.at_ hlj
            obtain ⟨p3', o3, C, rfl, g3, k3, hC⟩ := hCz.at_ hlj
            obtain ⟨p4', o4, V, rfl, g4, k4, hV⟩ := hLz.at_ hlj
            have f1 := HQ.out j hlj
            rw [← hA.out, ← hB.out, ← hC.out, ← hV.out] at f1
            obtain ⟨f1, f2, f3, f4, f5⟩ := f1
            have kw : IntKind.i64.wrap (-C) = -C := IntWalk.i64_in _ (by omega)
            have e1 : (A != -C) = false := by simpa using f1
            have e2 : decide (V < A) = false := by simp; omega
            have e3 : decide (B < V) = false := by simp; omega
            have q1 : (j : Int) < (k : Int) := by omega
            clear f1 f2 f3
            go_wp2_with fail
            go_quiet (fail)
            go_wp2
            go_roundw
            case rel => exact ⟨j + 1, _, by go_num, by omega, rfl⟩
            case measure => simp [intOf]; omega
          · obtain rfl : j = k := by omega
            go_wp2
            go_ret
            exact ⟨rfl, hmz.drewN _⟩
end Go.Proofs.Ytmlkebemkibipaa
