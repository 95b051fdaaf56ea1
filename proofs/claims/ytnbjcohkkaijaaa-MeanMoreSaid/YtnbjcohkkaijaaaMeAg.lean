/- The graphs of alive18: what their means are. Conditions: none. -/
import Derived.Test.YtnbjcohkkaijaaaMeB
import Derived.Test.YtnbjcohkkaijaaaPotA
set_option linter.unusedVariables false
set_option linter.unusedSimpArgs false
namespace Go.Proofs.Ytnbjcohkkaijaaa
open Go.RowKit Go.Tide
set_option linter.unusedVariables false
set_option linter.unusedSimpArgs false
def gM : Nat → Nat → Int := rowOfC 3 [0, 1, 5, 1, 0, -2, 1, 2, 9, 2, 2, 1]
theorem gM_right : GRight ((3 : Nat) : Int) 4 gM := ⟨by decide, by decide, by decide, fun k hk => by
  rcases (show k = 0 ∨ k = 1 ∨ k = 2 ∨ k = 3 by omega) with rfl | rfl | rfl | rfl <;> decide⟩
theorem gM_right1 : GRight ((2 : Nat) : Int) 1 gM := ⟨by decide, by decide, by decide, fun k hk => by
  obtain rfl : k = 0 := by omega
  decide⟩
theorem gM_best : best gM 4 3 = (3, 2) := by decide +kernel
theorem gM_P : bP gM 4 3 = 3 := by unfold bP; rw [gM_best]; decide
theorem gM_Q : bQ gM 4 3 = 2 := by unfold bQ; rw [gM_best]; decide
theorem gM_L : (bestL gM 4 3).length = 2 := by unfold bestL; rw [gM_P, gM_Q]; decide +kernel
theorem gM_one : (best gM 1 2).2 = 0 := by decide +kernel
end Go.Proofs.Ytnbjcohkkaijaaa
