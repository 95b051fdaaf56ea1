/- A run's round is an edge of the graph: plain. Conditions: none. -/
import Derived.Test.YtehlgomjgmabeaaStPl
import Derived.Test.YtehlgomjgmabeaaStGr2
set_option linter.unusedVariables false
set_option linter.unusedSimpArgs false
namespace Go.Proofs.Ytehlgomjgmabeaa
open Go.RowKit Go.Shelf Go.Tide
set_option linter.unusedVariables false
set_option linter.unusedSimpArgs false
/-- The graph's numbers. -/
theorem told_at {r : DRules} {J : Nat} {s : Fnd DSt} {E : List Edge} (hT : Told r J s E) {who : Nat} {ratio : Int} {u : Nat} (hu : u < E.length) : ∃ x n, s.l[u / ((J + 1) * (J + 1))]? = some x ∧ s.l[n]? = some (dNx r J x (u % ((J + 1) * (J + 1)))) ∧
    egF who ratio E u 0 = (u / ((J + 1) * (J + 1)) : Nat) ∧ egF who ratio E u 1 = (n : Nat) ∧ egF who ratio E u 2 = eWt who ratio (dRow r x) := by
  obtain ⟨x, n, h1, h2, h3⟩ := hT.2 u (by rw [← hT.1]; exact hu)
  refine ⟨x, n, h1, h2, ?_, ?_, ?_⟩ <;> simp [egF, h3]
/-- A run's round is an edge. -/
theorem told_run {r : DRules} {J : Nat} (hJ : r.jit = J) {s : Fnd DSt} {E : List Edge} (hs : dFin r J = some s) (hT : Told r J s E) {who : Nat} {ratio : Int} {f : Nat → Nat → Int} {n k i : Nat} (ha : dAll r f n) (hk : k < n) (hi : s.l[i]? = some (dRun r f k)) :
    ∃ i', i * ((J + 1) * (J + 1)) + dNum J f k < E.length ∧ s.l[i']? = some (dRun r f (k + 1)) ∧ egF who ratio E (i * ((J + 1) * (J + 1)) + dNum J f k) 0 = (i : Nat) ∧ egF who ratio E (i * ((J + 1) * (J + 1)) + dNum J f k) 1 = (i' : Nat) ∧
      egF who ratio E (i * ((J + 1) * (J + 1)) + dNum J f k) 2 = eWt who ratio (dRow r (dRun r f k)) := by
  obtain ⟨hd, q0, q1⟩ := num_at hJ (ha k hk)
  have l1 := get_lt hi
  have hlt : i * ((J + 1) * (J + 1)) + dNum J f k < E.length := by
    rw [hT.1]
    have := Nat.mul_le_mul_right ((J + 1) * (J + 1)) (show i + 1 ≤ s.l.length by omega)
    rw [Nat.add_mul] at this
    omega
  obtain ⟨x, n', h1, h2, e0, e1, e2⟩ := told_at hT (who := who) (ratio := ratio) hlt
  obtain ⟨d1, d2⟩ := stamp_eq (m := (J + 1) * (J + 1)) (k := i) (i := dNum J f k) (t := i * ((J + 1) * (J + 1)) + dNum J f k) (m_pos J) hd rfl
  rw [← d1] at h1 e0
  rw [← d2] at h2
  obtain rfl : x = dRun r f k := by rw [hi] at h1; exact (Option.some.inj h1).symm
  refine ⟨n', hlt, ?_, e0, e1, e2⟩
  rw [h2]
  show some (dNx r J (dRun r f k) (dNum J f k)) = some (dGo r (dRun r f k) (f k 0) (f k 1))
  unfold dNx
  rw [q0, q1]
end Go.Proofs.Ytehlgomjgmabeaa
