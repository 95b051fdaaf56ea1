/- Plain laws of ShareMore: more for all is less for nobody; who wants less takes nothing from anybody. Conditions: none. -/
import Derived.Test.YtmlkebemkibipaaShA
set_option linter.unusedVariables false
set_option linter.unusedSimpArgs false
namespace Go.Tide
theorem share_more {n : Nat} {x y : Nat → Int} {all all' : Int} (h : SRight n x) (h' : SRight n y) (ha : 0 ≤ all) (hle : all ≤ all') (hxy : ∀ j, j < n → y j ≤ x j) : ∀ i, i < n → y i = x i → shareOf all n x i ≤ shareOf all' n y i := by
  intro i hi he
  obtain ⟨⟨a1, a2, a3⟩, a4⟩ := lev_end (F := fun L => filledTo x L n) (all := all) (by simp only [filled_zero h]; exact ha)
  obtain ⟨⟨b1, b2, b3⟩, b4⟩ := lev_end (F := fun L => filledTo y L n) (all := all') (by simp only [filled_zero h']; omega)
  unfold shareOf
  generalize levAt (fun L => filledTo x L n) all 21 = L at *
  generalize levAt (fun L => filledTo y L n) all' 21 = K at *
  have hfy : ∀ M k, k ≤ n → filledTo y M k ≤ filledTo x M k := fun M k hk => isum_le (n := n) (fun j hj => by have := hxy j hj; omega) k hk
  have hLK : L ≤ K := by
    rcases Int.lt_or_le K L with hc | hc
    · refine absurd ?_ b4
      refine ⟨by omega, ?_⟩
      have e1 : filledTo y (K + 1) n ≤ filledTo y L n := isum_le (n := n) (fun j _ => by omega) n (Nat.le_refl _)
      have e2 := hfy L n (Nat.le_refl _)
      show filledTo y (K + 1) n ≤ all'
      omega
    · exact hc
  have hr : 0 ≤ all - filledTo x L n := by omega
  have hr' : 0 ≤ all' - filledTo y K n := by omega
  rcases Int.lt_or_eq_of_le hLK with hlt | heq
  · unfold shOf
    rw [he]
    (repeat' split) <;> omega
  · subst heq
    have r1 := rest_eq (x := x) (L := L) hr i
    have r2 := rest_eq (x := y) (L := L) hr' i
    have c1 := hfy L n (Nat.le_refl _)
    have c2 : ∀ k, k ≤ n → filledTo y (L + 1) k - filledTo y L k ≤ filledTo x (L + 1) k - filledTo x L k := by
      intro k
      induction k with
      | zero => intro _; simp only [filledTo, isum]; omega
      | succ k ih =>
        intro hk
        have := ih (by omega)
        have := hxy k (by omega)
        have e1 : filledTo y (L + 1) (k + 1) = filledTo y (L + 1) k + min (y k) (L + 1) := rfl
        have e2 : filledTo y L (k + 1) = filledTo y L k + min (y k) L := rfl
        have e3 : filledTo x (L + 1) (k + 1) = filledTo x (L + 1) k + min (x k) (L + 1) := rfl
        have e4 : filledTo x L (k + 1) = filledTo x L k + min (x k) L := rfl
        omega
    have c3 := c2 i (by omega)
    unfold shOf
    rw [he]
    (repeat' split) <;> omega
end Go.Tide
