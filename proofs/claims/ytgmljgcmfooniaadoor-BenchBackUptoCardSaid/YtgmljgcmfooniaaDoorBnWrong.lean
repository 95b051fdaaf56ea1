/- What duel.Wrong answers, as a function. Conditions: none. -/
import Derived.Test.YtgmljgcmfooniaaDoorBnDuel
set_option linter.unusedVariables false
set_option linter.unusedSimpArgs false
namespace Go.Proofs.YtgmljgcmfooniaaDoor
open Go.RowKit Go.Tide
instance (k : Int) : Decidable (dKind k) := by unfold dKind; infer_instance
instance (a b c : Int) : Decidable (dNums a b c) := by unfold dNums; infer_instance
/-- What is wrong with rules. -/
def wErr (k0 k1 rate buf jit : Int) : Int := if dKind k0 ∧ dKind k1 then (if dNums rate buf jit then 0 else 2) else 5
theorem wErr_ok {k0 k1 rate buf jit : Int} (h0 : dKind k0) (h1 : dKind k1) (hn : dNums rate buf jit) : wErr k0 k1 rate buf jit = 0 := by simp [wErr, h0, h1, hn]
theorem wErr_no {k0 k1 rate buf jit : Int} (h : ¬ (dKind k0 ∧ dKind k1 ∧ dNums rate buf jit)) : wErr k0 k1 rate buf jit = 2 ∨ wErr k0 k1 rate buf jit = 5 := by
  unfold wErr
  split
  · rename_i hk
    rw [if_neg (fun hn => h ⟨hk.1, hk.2, hn⟩)]
    exact .inl rfl
  · exact .inr rfl
theorem wrong_fn (k0 k1 rate buf jit : Int) (w : World) : Calls Tryd.prog 7 #[.agg #[.int .i64 k0, .int .i64 k1, .int .i64 rate, .int .i64 buf, .int .i64 jit]] w fun e w' => e = .returned (.int .i64 (wErr k0 k1 rate buf jit)) ∧ More w w' := by
  by_cases h0 : dKind k0
  · by_cases h1 : dKind k1
    · by_cases hn : dNums rate buf jit
      · rw [wErr_ok h0 h1 hn]
        exact wrong_ok k0 k1 rate buf jit w h0 h1 hn
      · have hr : wErr k0 k1 rate buf jit = 2 := by simp [wErr, h0, h1, hn]
        rw [hr]
        by_cases c0 : rate < 1
        · exact wrong_n0 k0 k1 rate buf jit w h0 h1 c0
        by_cases c1 : 12 < rate
        · exact wrong_n1 k0 k1 rate buf jit w h0 h1 c0 c1
        by_cases c2 : buf < 0
        · exact wrong_n2 k0 k1 rate buf jit w h0 h1 c0 c1 c2
        by_cases c3 : 16 < buf
        · exact wrong_n3 k0 k1 rate buf jit w h0 h1 c0 c1 c2 c3
        by_cases c4 : jit < 0
        · exact wrong_n4 k0 k1 rate buf jit w h0 h1 c0 c1 c2 c3 c4
        by_cases c5 : 3 < jit
        · exact wrong_n5 k0 k1 rate buf jit w h0 h1 c0 c1 c2 c3 c4 c5
        exact absurd (by unfold dNums; omega) hn
    · rw [show wErr k0 k1 rate buf jit = 5 by simp [wErr, h1]]
      exact wrong_kind1 k0 k1 rate buf jit w h0 h1
  · rw [show wErr k0 k1 rate buf jit = 5 by simp [wErr, h0]]
    exact wrong_kind0 k0 k1 rate buf jit w h0
end Go.Proofs.YtgmljgcmfooniaaDoor
