/- What the laws of means call, in one form. Conditions: none. -/
import Derived.Test.YtnbjcohkkaijaaaMeA
import Derived.Test.YtnbjcohkkaijaaaMeFin
import Derived.Test.YtnbjcohkkaijaaaOpenG
set_option linter.unusedVariables false
set_option linter.unusedSimpArgs false
namespace Go.Proofs.Ytnbjcohkkaijaaa
open Go.RowKit Go.Tide
set_option linter.unusedVariables false
set_option linter.unusedSimpArgs false

theorem mean_alive_more (w : World) : Calls Try.prog 6 #[] w fun e w' => e = .returned (.bool true) ∧ More w w' :=
  (mean_alive w).mono fun e w' ⟨h1, h2⟩ => ⟨h1, More.of_below h2⟩
theorem greatest_one (N : Nat) (a : Option Addr) (n c : Nat) (f : Nat → Nat → Int) (w : World) (hf : RowC w 3 a n f) (hG : GRight N n f) :
    Calls Try.prog 7 #[.agg #[.int .i64 N, .slice a n c]] w fun e w' => ∃ p q er : Int, e = .returned (.tuple #[.agg #[.int .i64 p, .int .i64 q], .int .i64 er]) ∧ Hid (((best f n N).2 = 0 ∧ er = 3 ∧ p = 0 ∧ q = 0) ∨ ((best f n N).2 ≠ 0 ∧ er = 0 ∧ p = bP f n N ∧ q = bQ f n N)) ∧ More w w' := by
  refine (greatest_ok N a n c f w hf hG).mono ?_
  rintro e w' ⟨he, hb⟩
  rcases he with ⟨h0, rfl⟩ | ⟨h0, rfl⟩
  · exact ⟨0, 0, 3, rfl, .inl ⟨h0, rfl, rfl, rfl⟩, More.of_below hb⟩
  · exact ⟨_, _, 0, rfl, .inr ⟨h0, rfl, rfl, rfl⟩, More.of_below hb⟩
theorem cycle_one (N : Nat) (a : Option Addr) (n c : Nat) (f : Nat → Nat → Int) (w : World) (hf : RowC w 3 a n f) (hG : GRight N n f) :
    Calls Try.prog 12 #[.agg #[.int .i64 N, .slice a n c]] w fun e w' => ∃ (ao : Option Addr) (no co : Nat) (er : Int), e = .returned (.tuple #[.slice ao no co, .int .i64 er]) ∧ Hid (((solved f n N).L < 0 ∧ er = 3) ∨ (0 ≤ (solved f n N).L ∧ er = 0)) ∧ More w w' := by
  by_cases hL : (solved f n N).L < 0
  · refine (cycle_none N a n c f w hf hG hL).mono ?_
    rintro e w' ⟨rfl, hb⟩
    exact ⟨none, 0, 0, 3, rfl, .inl ⟨hL, rfl⟩, More.of_below hb⟩
  · have hL2 : 0 ≤ (solved f n N).L := by omega
    obtain ⟨v, m, V, hv, hR⟩ := cycle_round hG hL2
    refine (cycle_any N a n c f w hf hG v m _ V hv rfl (Lib.hid hR.at_) hR.right hR.many hR.round hR.once).mono ?_
    rintro e w' ⟨g, c', rfl, _, _, hb⟩
    exact ⟨_, m, c', 0, rfl, .inr ⟨hL2, rfl⟩, More.of_below hb⟩
end Go.Proofs.Ytnbjcohkkaijaaa
