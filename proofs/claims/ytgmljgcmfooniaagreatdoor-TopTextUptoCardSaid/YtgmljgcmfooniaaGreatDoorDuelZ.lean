/- Small lemmas on rules and rows. Conditions: none. -/
import Derived.Test.YtgmljgcmfooniaaGreatDoorSq
import Derived.Test.YtgmljgcmfooniaaGreatDoorDuelR1
import Derived.Laws.Tables
import Derived.Laws.Rows
set_option linter.unusedVariables false
set_option linter.unusedSimpArgs false
namespace Go
open Go.RowKit
theorem own_more {w : World} {base size n : Nat} {e : TypeId} {v : Value} {xs : List Value} (h : w.ownsRow base e size v n xs) (os : Array Obj) (d : Nat) : (w.more os d).ownsRow base e size v n xs :=
  h.kept (⟨rfl, rfl, rfl, by simp, fun k hk _ => World.heap_more w os d hk⟩ : w.grownBy (w.more os d) none) (by cases hv : v.ownBlock <;> simp)
end Go
namespace Go.Proofs.YtgmljgcmfooniaaGreatDoor
open Go.RowKit Go.Tide
set_option linter.unusedVariables false
set_option linter.unusedSimpArgs false
theorem below_setRow {B g : Nat} {w w' : World} (h : Below B w w') (hg : B ≤ g) (cs : Array Value) : Below B w (w'.setRow g cs) :=
  h.trans ⟨rfl, rfl, rfl, by simp, fun k hk => setRow_other w' g k cs (by omega)⟩
theorem wrong_nums (k0 k1 rate buf jit : Int) (w : World) (hk0 : Hid (dKind k0)) (hk1 : Hid (dKind k1)) (hn : ¬ dNums rate buf jit) :
    Calls Tryz.prog 52 #[.agg #[.int .i64 k0, .int .i64 k1, .int .i64 rate, .int .i64 buf, .int .i64 jit]] w fun e w' => e = .returned (.int .i64 2) ∧ More w w' := by
  by_cases c0 : rate < 1
  · exact wrong_n0 k0 k1 rate buf jit w hk0 hk1  c0
  by_cases c1 : 12 < rate
  · exact wrong_n1 k0 k1 rate buf jit w hk0 hk1 c0 c1
  by_cases c2 : buf < 0
  · exact wrong_n2 k0 k1 rate buf jit w hk0 hk1 c0 c1 c2
  by_cases c3 : 16 < buf
  · exact wrong_n3 k0 k1 rate buf jit w hk0 hk1 c0 c1 c2 c3
  by_cases c4 : jit < 0
  · exact wrong_n4 k0 k1 rate buf jit w hk0 hk1 c0 c1 c2 c3 c4
  by_cases c5 : 3 < jit
  · exact wrong_n5 k0 k1 rate buf jit w hk0 hk1 c0 c1 c2 c3 c4 c5
  exact absurd (by unfold dNums; omega) hn
end Go.Proofs.YtgmljgcmfooniaaGreatDoor
