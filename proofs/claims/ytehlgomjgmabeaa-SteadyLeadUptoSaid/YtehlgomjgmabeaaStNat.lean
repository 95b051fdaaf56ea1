/- steady.Lead, by a number that is not below nothing. Conditions: none. -/
import Derived.Test.YtehlgomjgmabeaaStLead
set_option linter.unusedVariables false
set_option linter.unusedSimpArgs false
namespace Go.Proofs.Ytehlgomjgmabeaa
open Go.RowKit Go.Shelf Go.Tide
set_option linter.unusedVariables false
set_option linter.unusedSimpArgs false
def LeadNat (r : DRules) (J N : Nat) (w : World) (e : Ending) (w' : World) : Prop :=
  Below w.heap.size w w' ∧ ((∃ s a c, dFin r J = some s ∧ N < s.l.length ∧ e = .returned (.tuple #[.slice a (leadAt s 300 N).length c, .int .i64 0]) ∧ RowC w' 2 a (leadAt s 300 N).length (drF J (leadAt s 300 N).reverse) ∧ ∀ p : Addr, a = some p → w.heap.size ≤ p.block) ∨
    (∃ s, dFin r J = some s ∧ s.l.length ≤ N ∧ e = .returned (.tuple #[.slice none 0 0, .int .i64 3])) ∨ (dFin r J = none ∧ e = .returned (.tuple #[.slice none 0 0, .int .i64 4])))
theorem lead_nat (r : DRules) (J : Nat) (hJ : Hid (r.jit = J)) (hr : r.ok) (N : Nat) (w : World) :
    Calls Try.prog 18 #[.agg #[.int .i64 r.k0, .int .i64 r.k1, .int .i64 r.rate, .int .i64 r.buf, .int .i64 r.jit], .int .i64 (N : Nat)] w (LeadNat r J N w) :=
  (lead_any r J hJ hr (N : Nat) w).mono fun e w' ⟨h1, h2⟩ => ⟨h1, by
    rcases h2 with ⟨s, a, c, g1, g2, g3, g4, g5⟩ | ⟨s, g1, g2, g3⟩ | ⟨g1, g2⟩
    · rw [Int.toNat_natCast] at g4 g5
      exact .inl ⟨s, a, c, g1, by omega, g4, g5⟩
    · exact .inr (.inl ⟨s, g1, by omega, g3⟩)
    · exact .inr (.inr ⟨g1, g2⟩)⟩
end Go.Proofs.Ytehlgomjgmabeaa
