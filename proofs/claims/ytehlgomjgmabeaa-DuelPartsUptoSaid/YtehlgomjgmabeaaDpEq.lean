/- slices.Equal at api.Round, of two rows with the same numbers. Conditions: numbers that fit. -/
import Derived.Test.YtehlgomjgmabeaaDpBase
set_option linter.unusedVariables false
set_option linter.unusedSimpArgs false
namespace Go.Proofs.Ytehlgomjgmabeaa
open Go.RowKit Go.Shelf Go.Tide
set_option linter.unusedVariables false
set_option linter.unusedSimpArgs false
theorem guard_rd : Try.prog.eqGuardType Try.prog.depth 38 = false := by kernel_rfl
theorem eq_rd (q : Nat → Int) (hq : ∀ j, InI64 (q j)) (w : World) : (Op.equal 38 (.agg (rdL q).toArray) (.agg (rdL q).toArray)).run Try.prog w = .ok true w := by
  obtain ⟨r, h1, h2⟩ := equal_round (q 0) (q 1) (q 2) (q 3) (q 4) (q 5) (q 0) (q 1) (q 2) (q 3) (q 4) (q 5) (hq 0) (hq 1) (hq 2) (hq 3) (hq 4) (hq 5) (hq 0) (hq 1) (hq 2) (hq 3) (hq 4) (hq 5) w
  obtain rfl : r = true := h2.2 rfl
  exact equal_of h1
set_option maxRecDepth 20000 in
set_option maxHeartbeats 2000000 in
theorem requal_any (a1 : Option Addr) (c1 : Nat) (a2 : Option Addr) (c2 n : Nat) (g : Nat → Nat → Int) (w : World) (h1 : RowC w 6 a1 n g) (h2 : RowC w 6 a2 n g) (hn : n ≤ 4194304) (hq : Hid (∀ k, k < n → ∀ j, InI64 (g k j))) :
    Calls Try.prog 15 #[.slice a1 n c1, .slice a2 n c2] w fun e w' => e = .returned (.bool true) ∧ More w w' := by
  go_enter Try.func15, Try.ntmps15
  go_wp2_with fail
  go_loopw [13] (fun i wr => ∃ k : Nat, i = .int .i64 k ∧ k ≤ n ∧ More w wr) (fun i _ => n - (intOf i).toNat)
  case atStart => exact ⟨0, rfl, Nat.zero_le _, More.refl _⟩
  case round =>
    obtain ⟨k, rfl, hk, hm⟩ := hrel
    by_cases hlt : k < n
    · have t1 : (k : Int) < (n : Int) := by omega
      have t2' : (0 : Int) ≤ (k : Int) := by omega
      obtain ⟨b1, o1, rfl, -, r1⟩ := rangeRow (h1.below hm.below (Nat.le_refl _)) hlt
      obtain ⟨b2, o2, rfl, -, r2⟩ := rangeRow (h2.below hm.below (Nat.le_refl _)) hlt
      have q1 : wr.drew.rangeAt b1 (o1 + k * 6) (rdL (g k)) := by rw [World.rangeAt_drew]; exact r1
      have q2 : wr.drew.rangeAt b2 (o2 + k * 6) (rdL (g k)) := by rw [World.rangeAt_drew]; exact r2
      have HE : Hid (∀ w, (Op.equal 38 (.agg (rdL (g k)).toArray) (.agg (rdL (g k)).toArray)).run Try.prog w = .ok true w) := fun w => eq_rd (g k) (hq.out k hlt) w
      clear r1 r2
      go_wp2_with fail
      refine wp_region_held_drew (S := fun w' => w' = wr.drew) (by kernel_rfl) rfl (fun hHeld => ?_)
      refine tkE 0 rfl ?_; try simp only [lay]
      refine tkE 1 rfl ?_; try simp only [lay]
      refine tkE 2 rfl ?_; try simp only [lay]
      refine wpAnyH_take (i := 3) (v := .agg (rdL (g k)).toArray) rfl (by kernel_rfl) (by kernel_rfl) (by kernel_rfl) (fun _ _ _ h => h) (yieldsIf_load_mid (by rfl) _ _ rfl b1 (o1 + k * 6) rfl (rdL (g k)) _ (fun w' hw => by rw [hw]; exact q1) Try.underlying38 rfl (rdL_info _)) rfl ?_
      try simp only [lay]
      refine tkE 4 rfl ?_; try simp only [lay]
      refine tkE 5 rfl ?_; try simp only [lay]
      refine tkE 6 rfl ?_; try simp only [lay]
      refine wpAnyH_take (i := 7) (v := .agg (rdL (g k)).toArray) rfl (by kernel_rfl) (by kernel_rfl) (by kernel_rfl) (fun _ _ _ h => h) (yieldsIf_load_mid (by rfl) _ _ rfl b2 (o2 + k * 6) rfl (rdL (g k)) _ (fun w' hw => by rw [hw]; exact q2) Try.underlying38 rfl (rdL_info _)) rfl ?_
      try simp only [lay]
      refine tk 8 (.bool (!true)) rfl ⟨by rfl, fun w' _ => run_neq _ _ _ _ rfl (rdL (g k)).toArray (rdL (g k)).toArray rfl rfl guard_rd true (HE.out w')⟩ ?_ (hS := rfl)
      try simp only [lay, Bool.not_true, Bool.not_false]
      refine wpAnyH_done (by kernel_rfl) ?_ _
      go_wp2
      go_roundw
      case rel => exact ⟨k + 1, by go_num, by omega, (by repeat (first | (with_reducible assumption) | (with_reducible exact More.refl _) | (with_reducible refine More.alloc ?_ _) | (with_reducible refine More.more ?_ _ _) | (with_reducible refine More.drewN ?_ _) | (with_reducible refine More.drew ?_)))⟩
      case measure => simp [intOf]; omega
    · obtain rfl : k = n := by omega
      go_wp2
      go_ret
      exact ⟨rfl, (by repeat (first | (with_reducible assumption) | (with_reducible exact More.refl _) | (with_reducible refine More.alloc ?_ _) | (with_reducible refine More.more ?_ _ _) | (with_reducible refine More.drewN ?_ _) | (with_reducible refine More.drew ?_)))⟩
end Go.Proofs.Ytehlgomjgmabeaa
