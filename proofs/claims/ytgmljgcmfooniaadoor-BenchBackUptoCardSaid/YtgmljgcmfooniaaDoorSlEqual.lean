/- slices.Equal at []int: whether both have the same numbers, for every input. Conditions: lengths that fit. -/
import Derived.Test.YtgmljgcmfooniaaDoorProg
import Derived.Test.YtgmljgcmfooniaaDoorKit
set_option linter.unusedVariables false
set_option linter.unusedSimpArgs false
namespace Go.Tide
/-- Two rows of numbers are one: as long, and the same at each place. -/
def EqRows (n m : Nat) (f g : Nat → Int) : Prop := n = m ∧ ∀ k, k < n → f k = g k
noncomputable def eqRows (n m : Nat) (f g : Nat → Int) : Bool := @decide (EqRows n m f g) (Classical.propDecidable _)
theorem eqRows_true {n m : Nat} {f g : Nat → Int} (h : EqRows n m f g) : eqRows n m f g = true := by simp [eqRows, h]
theorem eqRows_false {n m : Nat} {f g : Nat → Int} (h : ¬ EqRows n m f g) : eqRows n m f g = false := by simp [eqRows, h]
theorem eqRows_iff {n m : Nat} {f g : Nat → Int} : eqRows n m f g = true ↔ EqRows n m f g := by simp [eqRows]
end Go.Tide
namespace Go.Proofs.YtgmljgcmfooniaaDoor
open Go.RowKit Go.Tide
set_option linter.unusedVariables false
set_option linter.unusedSimpArgs false

end Go.Proofs.YtgmljgcmfooniaaDoor
