/- Runs come to what was found; and what was found is come to by its lead. Conditions: none. -/
import Derived.Test.YtehlgomjgmabeaaStLead
set_option linter.unusedVariables false
set_option linter.unusedSimpArgs false
namespace Go.Proofs.Ytehlgomjgmabeaa
open Go.RowKit Go.Shelf Go.Tide
set_option linter.unusedVariables false
set_option linter.unusedSimpArgs false
def dNum (J : Nat) (f : Nat → Nat → Int) (k : Nat) : Nat := (f k 0).toNat * (J + 1) + (f k 1).toNat
theorem num_at {r : DRules} {J : Nat} {f : Nat → Nat → Int} {k : Nat} (hJ : r.jit = J) (h : dLate r (f k 0) (f k 1)) : dNum J f k < (J + 1) * (J + 1) ∧ ((dNum J f k / (J + 1) : Nat) : Int) = f k 0 ∧ ((dNum J f k % (J + 1) : Nat) : Int) = f k 1 := by
  obtain ⟨⟨h1, h2⟩, h3, h4⟩ := h
  obtain ⟨a, ha⟩ : ∃ a : Nat, f k 0 = a := ⟨(f k 0).toNat, by omega⟩
  obtain ⟨b, hb⟩ : ∃ b : Nat, f k 1 = b := ⟨(f k 1).toNat, by omega⟩
  have ha' : a ≤ J := by omega
  have hb' : b < J + 1 := by omega
  have e : dNum J f k = a * (J + 1) + b := by unfold dNum; rw [ha, hb]; simp
  rw [e, ha, hb]
  have e1 : (a * (J + 1) + b) / (J + 1) = a := by
    rw [Nat.mul_comm, Nat.mul_add_div (by omega), Nat.div_eq_of_lt hb', Nat.add_zero]
  have e2 : (a * (J + 1) + b) % (J + 1) = b := by
    rw [Nat.mul_comm, Nat.mul_add_mod, Nat.mod_eq_of_lt hb']
  rw [e1, e2]
  have h5 : a * (J + 1) ≤ J * (J + 1) := Nat.mul_le_mul_right _ ha'
  have h6 : (J + 1) * (J + 1) = J * (J + 1) + (J + 1) := Nat.succ_mul _ _
  exact ⟨by omega, rfl, rfl⟩
theorem run_num {r : DRules} {J : Nat} {f : Nat → Nat → Int} (hJ : r.jit = J) : ∀ n, dAll r f n → dRun r f n = ((List.range n).map (dNum J f)).foldl (dNx r J) (dBegin r) := by
  intro n
  induction n with
  | zero => intro _; rfl
  | succ n ih =>
    intro h
    obtain ⟨_, h1, h2⟩ := num_at (f := f) (k := n) hJ (h n (by omega))
    rw [List.range_succ, List.map_append, List.foldl_append, ← ih fun k hk => h k (by omega)]
    show dGo r (dRun r f n) (f n 0) (f n 1) = dNx r J (dRun r f n) (dNum J f n)
    unfold dNx
    rw [h1, h2]
/-- Whatever is late: the state is one that was found, and its lead is no longer. -/
theorem run_found {r : DRules} {J n : Nat} {f : Nat → Nat → Int} {s : Fnd DSt} (hJ : r.jit = J) (hs : dFin r J = some s) (h : dAll r f n) : ∃ i, s.l[i]? = some (dRun r f n) ∧ (leadAt s 300 i).length ≤ n := by
  obtain ⟨i, h1, h2⟩ := lead_short (m_pos J) (by omega) hs ((List.range n).map (dNum J f)).reverse (fun i hi => by
    simp only [List.mem_reverse, List.mem_map, List.mem_range] at hi
    obtain ⟨k, hk, rfl⟩ := hi
    exact (num_at hJ (h k hk)).1)
  rw [List.reverse_reverse, ← run_num hJ n h] at h1
  exact ⟨i, h1, by simpa using h2⟩
theorem dr_run {r : DRules} {J : Nat} {d : List Nat} : ∀ k, k ≤ d.length → dRun r (drF J d) k = (d.take k).foldl (dNx r J) (dBegin r) := by
  intro k
  induction k with
  | zero => intro _; rfl
  | succ k ih =>
    intro hk
    rw [List.take_succ_eq_append_getElem (by omega), List.foldl_append, ← ih (by omega)]
    show dGo r (dRun r (drF J d) k) (drF J d k 0) (drF J d k 1) = dNx r J (dRun r (drF J d) k) d[k]
    simp [dNx, drF, List.getD, List.getElem?_eq_getElem (show k < d.length by omega)]
theorem dr_all {r : DRules} {J : Nat} {d : List Nat} (hJ : r.jit = J) (h : ∀ i ∈ d, i < (J + 1) * (J + 1)) : dAll r (drF J d) d.length := fun k hk => by
  have h1 := late_at hJ (h d[k] (List.getElem_mem hk))
  simpa [drF, List.getD, List.getElem?_eq_getElem hk] using h1
/-- Each is come to by its lead. -/
theorem lead_comes {r : DRules} {J n : Nat} {s : Fnd DSt} {y : DSt} (hJ : r.jit = J) (hs : dFin r J = some s) (hn : n ≤ 300) (hy : s.l[n]? = some y) : dAll r (drF J (leadAt s 300 n).reverse) (leadAt s 300 n).length ∧ dRun r (drF J (leadAt s 300 n).reverse) (leadAt s 300 n).length = y := by
  have hI : FInv (dNx r J) ((J + 1) * (J + 1)) 300 (dBegin r) (300 * ((J + 1) * (J + 1))) s := finv_run (m_pos J) (by omega) _ _ hs
  obtain ⟨h1, h2⟩ := lead_walk hI n 300 y hn hy
  have h3 := dr_all (d := (leadAt s 300 n).reverse) hJ (fun i hi => h2 i (List.mem_reverse.1 hi))
  have h4 := dr_run (r := r) (J := J) (d := (leadAt s 300 n).reverse) _ (Nat.le_refl _)
  rw [List.take_length, h1] at h4
  rw [List.length_reverse] at h3 h4
  exact ⟨h3, h4⟩
theorem found_once {r : DRules} {J i j : Nat} {s : Fnd DSt} {x : DSt} (hs : dFin r J = some s) (hi : s.l[i]? = some x) (hj : s.l[j]? = some x) : i = j :=
  (finv_run (m_pos J) (by omega) _ _ hs : FInv (dNx r J) ((J + 1) * (J + 1)) 300 (dBegin r) (300 * ((J + 1) * (J + 1))) s).apart i j x hi hj
end Go.Proofs.Ytehlgomjgmabeaa
