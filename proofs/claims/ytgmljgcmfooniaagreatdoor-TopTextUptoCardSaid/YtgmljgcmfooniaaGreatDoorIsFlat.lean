/- An argument's row of ints, as a Row. Conditions: none. -/
import Derived.Test.YtgmljgcmfooniaaGreatDoorKit2
import Derived.Test.YtgmljgcmfooniaaGreatDoorOpen
set_option linter.unusedVariables false
set_option linter.unusedSimpArgs false
namespace Go.Tide
theorem IsFlat.row {w : World} {a : Option Addr} {len cap : Nat} {z : List Int} (f : IsFlat w a len cap 1 z) : Row w a len (fun k => z.getD k 0) := by
  intro hn
  obtain ⟨b, off, _, e, hb, _⟩ := f.at_ hn
  subst e
  refine ⟨b, off, rfl, hb, fun k hk => ?_⟩
  obtain ⟨b', off', x, e, _, hc, _, _, hx, _⟩ := f.at_ hk
  injection e with e
  injection e with e1 e2
  subst e1 e2
  rw [hc, hx]
theorem IsFlat.le {w : World} {a : Option Addr} {len cap C : Nat} {z : List Int} (f : IsFlat w a len cap C z) : len ≤ cap := by
  rcases f with ⟨_, rfl, rfl, _⟩ | ⟨_, _, h, _⟩ <;> omega
end Go.Tide
