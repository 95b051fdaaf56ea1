/- Finding states with the steps between them told: plain. Conditions: none. -/
import Derived.Test.YtgmljgcmfooniaaGreatDoorStLaw
set_option linter.unusedVariables false
set_option linter.unusedSimpArgs false
namespace Go.Tide
section
variable {α : Type} {ρ : Type}
def pStep [DecidableEq α] (nx : α → Nat → α) (cap : Nat) (row : α → ρ) (k i : Nat) (P : Fnd α × List (Nat × Nat × ρ)) : Option (Fnd α × List (Nat × Nat × ρ)) :=
  match P.1.l[k]? with
  | none => some P
  | some x =>
    if nx x i ∈ P.1.l then some (P.1, P.2 ++ [(k, P.1.l.idxOf (nx x i), row x)])
    else if P.1.l.length = cap then none
    else some (⟨P.1.l ++ [nx x i], P.1.pr ++ [((k : Int), i)]⟩, P.2 ++ [(k, P.1.l.length, row x)])
def pMany [DecidableEq α] (nx : α → Nat → α) (cap : Nat) (row : α → ρ) (k : Nat) : List Nat → Fnd α × List (Nat × Nat × ρ) → Option (Fnd α × List (Nat × Nat × ρ))
  | [], P => some P
  | i :: is, P => (pStep nx cap row k i P).bind (pMany nx cap row k is)
def pRun [DecidableEq α] (nx : α → Nat → α) (m cap : Nat) (s0 : α) (row : α → ρ) : Nat → Option (Fnd α × List (Nat × Nat × ρ))
  | 0 => some (⟨[s0], [(-1, 0)]⟩, [])
  | t + 1 => (pRun nx m cap s0 row t).bind (pStep nx cap row (t / m) (t % m))
variable [DecidableEq α] {nx : α → Nat → α} {m cap : Nat} {s0 : α} {row : α → ρ}
theorem pmany_snoc (k i : Nat) : ∀ (is : List Nat) (P : Fnd α × List (Nat × Nat × ρ)), pMany nx cap row k (is ++ [i]) P = (pMany nx cap row k is P).bind (pStep nx cap row k i) := by
  intro is
  induction is with
  | nil =>
    intro P
    simp only [List.nil_append, pMany, Option.bind_some]
    show (pStep nx cap row k i P).bind some = pStep nx cap row k i P
    cases pStep nx cap row k i P <;> rfl
  | cons j is ih =>
    intro P
    simp only [List.cons_append, pMany]
    cases pStep nx cap row k j P with
    | none => rfl
    | some Q => exact ih Q
theorem prun_many (hm : 0 < m) (k : Nat) : ∀ i, i ≤ m → pRun nx m cap s0 row (k * m + i) = (pRun nx m cap s0 row (k * m)).bind (pMany nx cap row k (List.range i)) := by
  intro i
  induction i with
  | zero => intro _; cases h : pRun nx m cap s0 row (k * m) <;> simp [h, pMany]
  | succ i ih =>
    intro hi
    rw [← Nat.add_assoc, pRun, ih (by omega), ← (stamp_eq hm (show i < m by omega) rfl).1, ← (stamp_eq hm (show i < m by omega) rfl).2, List.range_succ]
    cases pRun nx m cap s0 row (k * m) with
    | none => rfl
    | some P => simp only [Option.bind_some, pmany_snoc]
theorem pstep_fst (t : Nat) (P : Fnd α × List (Nat × Nat × ρ)) : (pStep nx cap row (t / m) (t % m) P).map Prod.fst = fStep nx m cap t P.1 := by
  unfold pStep fStep
  split
  · rename_i h; simp only [h]; rfl
  · rename_i x h
    simp only [h]
    split
    · rfl
    · split <;> rfl
theorem prun_fst : ∀ t, (pRun nx m cap s0 row t).map Prod.fst = fRun nx m cap s0 t := by
  intro t
  induction t with
  | zero => rfl
  | succ t ih =>
    rw [pRun, fRun, ← ih]
    cases pRun nx m cap s0 row t with
    | none => rfl
    | some P => exact pstep_fst t P
theorem prun_some {t : Nat} {P : Fnd α × List (Nat × Nat × ρ)} (h : pRun nx m cap s0 row t = some P) : fRun nx m cap s0 t = some P.1 := by rw [← prun_fst (row := row), h]; rfl
theorem prun_none {t : Nat} (h : pRun nx m cap s0 row t = none) : fRun nx m cap s0 t = none := by rw [← prun_fst (row := row), h]; rfl
/-- What is told, step by step. -/
theorem prun_told (hm : 0 < m) (hc : 1 ≤ cap) : ∀ t P, pRun nx m cap s0 row t = some P → t ≤ P.1.l.length * m →
    P.2.length = t ∧ ∀ u, u < t → ∃ x n, P.1.l[u / m]? = some x ∧ P.1.l[n]? = some (nx x (u % m)) ∧ P.2[u]? = some (u / m, n, row x) := by
  intro t
  induction t with
  | zero => intro P h _; injection h with h; subst h; exact ⟨rfl, fun u hu => absurd hu (by omega)⟩
  | succ t ih =>
    intro P h ht
    rw [pRun] at h
    cases h1 : pRun nx m cap s0 row t with
    | none => rw [h1] at h; cases h
    | some Q =>
      rw [h1] at h
      simp only [Option.bind_some] at h
      have hI := finv_run hm hc t _ (prun_some h1)
      unfold pStep at h
      split at h
      · rename_i hn
        injection h with h
        subst h
        exfalso
        have : t / m < Q.1.l.length := (Nat.div_lt_iff_lt_mul hm).2 (by omega)
        rw [List.getElem?_eq_getElem this] at hn
        cases hn
      · rename_i x hx
        have hlt := get_lt hx
        have hle : t ≤ Q.1.l.length * m := by have := (Nat.div_lt_iff_lt_mul hm).1 hlt; omega
        obtain ⟨e1, e2⟩ := ih Q h1 hle
        split at h
        · rename_i hmem
          injection h with h
          subst h
          refine ⟨by simp [e1], fun u hu => ?_⟩
          rcases Nat.lt_or_ge u t with h2 | h2
          · obtain ⟨y, n, a, b, c⟩ := e2 u h2
            exact ⟨y, n, a, b, by dsimp only; rw [snoc_lt (by omega)]; exact c⟩
          · obtain rfl : u = t := by omega
            refine ⟨x, Q.1.l.idxOf (nx x (u % m)), hx, ?_, by dsimp only; rw [← e1] at *; exact snoc_at⟩
            have hi := List.idxOf_lt_length_of_mem hmem
            rw [List.getElem?_eq_getElem hi, List.getElem_idxOf]
        · rename_i hmem
          split at h
          · cases h
          · injection h with h
            subst h
            refine ⟨by simp [e1], fun u hu => ?_⟩
            rcases Nat.lt_or_ge u t with h2 | h2
            · obtain ⟨y, n, a, b, c⟩ := e2 u h2
              exact ⟨y, n, by dsimp only; rw [snoc_lt (get_lt a)]; exact a, by dsimp only; rw [snoc_lt (get_lt b)]; exact b, by dsimp only; rw [snoc_lt (by omega)]; exact c⟩
            · obtain rfl : u = t := by omega
              exact ⟨x, Q.1.l.length, by dsimp only; rw [snoc_lt hlt]; exact hx, by dsimp only; exact snoc_at, by dsimp only; rw [← e1] at *; exact snoc_at⟩
end
end Go.Tide
