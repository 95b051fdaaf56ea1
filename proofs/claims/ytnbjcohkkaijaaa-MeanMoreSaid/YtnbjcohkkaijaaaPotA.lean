/- alive17: the law's premise. Conditions: none. -/
import Derived.Test.YtnbjcohkkaijaaaPotBG
set_option linter.unusedVariables false
set_option linter.unusedSimpArgs false
namespace Go
theorem RowC.of_blk {w : World} {C n g : Nat} {t : TypeId} (l : List Int) (h : Blk w g t (l.map (Value.int .i64)).toArray) (hl : l.length = n * C) : RowC w C (some ⟨g, 0, none⟩) n (rowOfC C l) := by
  intro _
  refine ⟨g, 0, rfl, h.lt, fun k j hk hj => ?_⟩
  have h1 : k * C + j < n * C := by
    have := Nat.mul_le_mul_right C (show k + 1 ≤ n by omega)
    rw [Nat.add_mul] at this
    omega
  rw [Nat.zero_add, h.cell, List.getElem?_toArray, List.getElem?_map, List.getElem?_eq_getElem (by omega)]
  simp [rowOfC, List.getD, List.getElem?_eq_getElem (show k * C + j < l.length by omega)]
end Go
namespace Go.Tide
def gA : Nat → Nat → Int := rowOfC 3 [0, 1, 5, 1, 2, -2, 2, 0, -3]
def gB : Nat → Nat → Int := rowOfC 3 [0, 1, 5, 1, 2, -2, 2, 0, -2]
theorem gA_right : GRight ((3 : Nat) : Int) 3 gA := ⟨by decide, by decide, by decide, fun k hk => by
  rcases (show k = 0 ∨ k = 1 ∨ k = 2 by omega) with rfl | rfl | rfl <;> decide⟩
theorem gB_right : GRight ((3 : Nat) : Int) 3 gB := ⟨by decide, by decide, by decide, fun k hk => by
  rcases (show k = 0 ∨ k = 1 ∨ k = 2 by omega) with rfl | rfl | rfl <;> decide⟩
theorem gA_L : (solved gA 3 3).L = -1 := by decide +kernel
theorem gA_1 : (solved gA 3 3).M 1 = 5 := by decide +kernel
theorem gA_2 : (solved gA 3 3).M 2 = 3 := by decide +kernel
theorem gB_L : 0 ≤ (solved gB 3 3).L := by decide +kernel
theorem gB_m {v m V : Nat} (hv : (solved gB 3 3).L = v) (h : Round 3 gB 3 v m V (solved gB 3 3).B) : m = 3 := by
  have h1 := h.many
  have e : v = (solved gB 3 3).L.toNat := by omega
  have e2 := h.at_
  subst e
  subst e2
  rcases (show m = 1 ∨ m = 2 ∨ m = 3 by omega) with rfl | rfl | rfl
  · exact absurd h.round (by decide +kernel)
  · exact absurd h.round (by decide +kernel)
  · rfl
end Go.Tide
