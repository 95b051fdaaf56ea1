/- What the three laws of means say, in plain numbers. Conditions: none. -/
import Derived.Test.YtnbjcohkkaijaaaMeB
import Derived.Test.YtnbjcohkkaijaaaPotBG
import Derived.Test.YtnbjcohkkaijaaaPotG
set_option linter.unusedVariables false
set_option linter.unusedSimpArgs false
namespace Go.Proofs.Ytnbjcohkkaijaaa
open Go.RowKit Go.Tide
set_option linter.unusedVariables false
set_option linter.unusedSimpArgs false
theorem walk_wk {N n : Nat} {f : Nat → Nat → Int} {x : Nat → Int} (hG : GRight N n f) : ∀ m, WalkOk n f (m + 1) x → Wk f n (f (x 0).toNat 0).toNat (m + 1) (f (x m).toNat 1).toNat (wSum f x (m + 1)) := by
  intro m
  induction m with
  | zero =>
    intro h
    have h0 := h 0 (by omega)
    have hw := Wk.snoc (x 0).toNat (by omega) (Wk.nil (f := f) (n := n) (f (x 0).toNat 0).toNat)
    exact hw
  | succ m ih =>
    intro h
    have h1 := ih fun k hk => h k (by omega)
    have h0 := h (m + 1) (by omega)
    have h2 := h0.2.2 (by omega)
    rw [Nat.add_sub_cancel] at h2
    rw [h2] at h1
    exact Wk.snoc (x (m + 1)).toNat (by omega) h1
theorem pot_wk {N n : Nat} {f : Nat → Nat → Int} (hG : GRight N n f) (hL : (solved f n N).L < 0) {u t v : Nat} {x : Int} (h : Wk f n u t v x) : (solved f n N).M u + x ≤ (solved f n N).M v := by
  induction h with
  | nil => omega
  | snoc k hk h ih =>
    have := solved_still hG hL k hk
    omega
theorem sign_law {N n : Nat} {f : Nat → Nat → Int} (hG : GRight N n f) : ((best f n N).2 ≠ 0 ∧ 0 < bP f n N) ↔ 0 ≤ (solved f n N).L := by
  have hN : N ≤ 300 := by have := hG.2.1; omega
  constructor
  · rintro ⟨h0, hp⟩
    obtain ⟨g, h1, h2, h3, h4, _⟩ := low_facts hN h0
    obtain ⟨m, j, c, hm, hj, hw, he⟩ := best_ge hG h0
    by_cases hL : (solved f n N).L < 0
    · have h5 := pot_wk hG hL hw
      have h6 : 0 < (best f n N).1 := by rw [← h2]; exact Int.mul_pos hp (by omega)
      have h7 : 0 < (j : Int) * (best f n N).1 := Int.mul_pos (by omega) h6
      have h8 : c * (best f n N).2 ≤ 0 * (best f n N).2 := Int.mul_le_mul_of_nonneg_right (by omega) (by have := (best_den h0).1; omega)
      omega
    · omega
  · intro hL
    obtain ⟨v, m, V, _, hR⟩ := cycle_round hG hL
    obtain ⟨m, rfl⟩ : ∃ q, m = q + 1 := ⟨m - 1, by have := hR.many; omega⟩
    have hw := walk_wk hG m hR.walk
    have hpos := hR.more
    have hVN : V < N := by have := hR.right N; rw [hR.at_] at this; exact this.1
    have hc : (f (solved f n N |>.B V).toNat 1).toNat = V := by rw [hR.ends]; exact Int.toNat_natCast V
    have e1 : (solved f n N).B (backs f (solved f n N).B (m + 1 - 1 - m) V) = (solved f n N).B V := by
      rw [show m + 1 - 1 - m = 0 by omega]
      rfl
    have e0 : (f ((solved f n N).B (backs f (solved f n N).B (m + 1 - 1 - 0) V)).toNat 0).toNat = V := by
      have h := hR.round
      rw [show m + 1 - 1 - 0 = m by omega]
      exact h
    rw [e1, hc, e0] at hw
    have h0 : (best f n N).2 ≠ 0 := fun h => best_none hG h (by omega) hw hVN
    refine ⟨h0, ?_⟩
    obtain ⟨g, h1, h2, h3, h4, _⟩ := low_facts hN h0
    have h5 := best_le hG h0 hw hVN
    have h6 : 0 < wSum f (fun k => (solved f n N).B (backs f (solved f n N).B (m + 1 - 1 - k) V)) (m + 1) * (best f n N).2 := Int.mul_pos hpos (best_den h0).1
    have h7 : 0 < ((m + 1 : Nat) : Int) * (best f n N).1 := by omega
    have h8 : 0 < (best f n N).1 := by
      by_cases h9 : 0 < (best f n N).1
      · exact h9
      · have : ((m + 1 : Nat) : Int) * (best f n N).1 ≤ ((m + 1 : Nat) : Int) * 0 := Int.mul_le_mul_of_nonneg_left (by omega) (by omega)
        omega
    by_cases h9 : 0 < bP f n N
    · exact h9
    · have : bP f n N * g ≤ 0 * g := Int.mul_le_mul_of_nonneg_right (by omega) (by omega)
      omega
/-- Whether edges go round. -/
def GoesRound (n : Nat) (f : Nat → Nat → Int) (m : Nat) (x : Nat → Int) : Prop := WalkOk n f m x ∧ 0 < m ∧ f (x 0).toNat 0 = f (x (m - 1)).toNat 1
theorem round_wk {N n m : Nat} {f : Nat → Nat → Int} {x : Nat → Int} (hG : GRight N n f) (h : GoesRound n f m x) : ∃ V, V < N ∧ Wk f n V m V (wSum f x m) := by
  obtain ⟨h1, h2, h3⟩ := h
  obtain ⟨m, rfl⟩ : ∃ q, m = q + 1 := ⟨m - 1, by omega⟩
  have hw := walk_wk hG m h1
  rw [Nat.add_sub_cancel] at h3
  rw [h3] at hw
  have h4 := h1 m (by omega)
  have h5 := hG.2.2.2 (x m).toNat (by omega)
  exact ⟨(f (x m).toNat 1).toNat, by omega, hw⟩
theorem most_none {N n m : Nat} {f : Nat → Nat → Int} {x : Nat → Int} (hG : GRight N n f) (h0 : (best f n N).2 = 0) : ¬ GoesRound n f m x := fun h => by
  obtain ⟨V, hV, hw⟩ := round_wk hG h
  exact best_none hG h0 (by have := h.2.1; omega) hw hV
theorem most_le {N n m : Nat} {f : Nat → Nat → Int} {x : Nat → Int} (hG : GRight N n f) (h0 : (best f n N).2 ≠ 0) (h : GoesRound n f m x) : wSum f x m * bQ f n N ≤ bP f n N * m := by
  obtain ⟨V, hV, hw⟩ := round_wk hG h
  have h1 := best_le hG h0 hw hV
  obtain ⟨g, g1, g2, g3, g4, _⟩ := low_facts (show N ≤ 300 by have := hG.2.1; omega) h0
  rw [← g2, ← g3] at h1
  have h2 : (wSum f x m * bQ f n N) * g ≤ (bP f n N * m) * g := by grind
  exact Int.le_of_mul_le_mul_right h2 (by omega)
theorem most_is {N n : Nat} {f : Nat → Nat → Int} (hG : GRight N n f) (h0 : (best f n N).2 ≠ 0) : GoesRound n f (bestL f n N).length (wOf (bestL f n N)) ∧ wSum f (wOf (bestL f n N)) (bestL f n N).length * bQ f n N = bP f n N * (bestL f n N).length := by
  obtain ⟨g, g1, g2, g3, g4, _⟩ := low_facts (show N ≤ 300 by have := hG.2.1; omega) h0
  have hne : bestL f n N ≠ [] := light_found hG h0 g1 g2 g3 g4
  obtain ⟨a1, a2, a3⟩ := light_is hG (P := bP f n N) (Q := bQ f n N) (l := bestL f n N) rfl hne
  exact ⟨⟨a1, List.length_pos_iff.2 hne, a3⟩, a2⟩
end Go.Proofs.Ytnbjcohkkaijaaa
