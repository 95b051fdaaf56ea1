/- What walks weigh: relaxing edges, plain. Conditions: none. -/
import Derived.Test.YtnbjcohkkaijaaaKitC
set_option linter.unusedVariables false
set_option linter.unusedSimpArgs false
namespace Go.Tide
/-- One number of a row turned. -/
def putAt (f : Nat → Int) (j : Nat) (v : Int) (k : Nat) : Int := if k = j then v else f k
theorem putAt_same (f : Nat → Int) (j : Nat) (v : Int) : putAt f j v j = v := by simp [putAt]
theorem putAt_ne (f : Nat → Int) {j k : Nat} (v : Int) (h : k ≠ j) : putAt f j v k = f k := by simp [putAt, h]
theorem cells_put (n j : Nat) (f : Nat → Int) (v : Int) : (cellsOf n f).set j (.int .i64 v) = cellsOf n (putAt f j v) := by
  apply List.ext_getElem?
  intro k
  rw [List.getElem?_set]
  by_cases hk : k < n
  · rw [cellsOf_get _ hk]
    by_cases hkj : j = k
    · subst hkj
      rw [if_pos rfl, if_pos (by rw [cellsOf_length]; exact hk), cellsOf_get _ hk, putAt_same]
    · rw [if_neg hkj, cellsOf_get _ hk, putAt_ne _ _ (Ne.symm hkj)]
  · rw [List.getElem?_eq_none (l := cellsOf n (putAt f j v)) (by rw [cellsOf_length]; omega)]
    by_cases hkj : j = k
    · rw [if_pos hkj, if_neg (by rw [cellsOf_length]; omega)]
    · rw [if_neg hkj, List.getElem?_eq_none (by rw [cellsOf_length]; omega)]
theorem cells_puts (n j : Nat) (f : Nat → Int) (v : Int) : (cellsOf n f).toArray.setIfInBounds j (.int .i64 v) = (cellsOf n (putAt f j v)).toArray := by
  rw [List.setIfInBounds_toArray, cells_put]

/-- What potential.Wrong asks. -/
def GRight (N : Int) (n : Nat) (f : Nat → Nat → Int) : Prop := 0 ≤ N ∧ N ≤ 300 ∧ n ≤ 4800 ∧ ∀ k, k < n → 0 ≤ f k 0 ∧ f k 0 < N ∧ 0 ≤ f k 1 ∧ f k 1 < N ∧ -1048576 ≤ f k 2 ∧ f k 2 ≤ 1048576
noncomputable def gRight (N : Int) (n : Nat) (f : Nat → Nat → Int) : Bool := @decide (GRight N n f) (Classical.propDecidable _)
theorem gRight_iff {N : Int} {n : Nat} {f : Nat → Nat → Int} : gRight N n f = true ↔ GRight N n f := by simp [gRight]
noncomputable def gWrong (N : Int) (n : Nat) (f : Nat → Nat → Int) : Int := @ite _ (GRight N n f) (Classical.propDecidable _) 0 2
theorem gWrong_ok {N : Int} {n : Nat} {f : Nat → Nat → Int} (h : GRight N n f) : gWrong N n f = 0 := by simp [gWrong, h]
theorem gWrong_bad {N : Int} {n : Nat} {f : Nat → Nat → Int} (h : ¬ GRight N n f) : gWrong N n f = 2 := by simp [gWrong, h]

/-- The solver: the most for each node, by which edge, and the last node that was more. -/
structure PSt where
  M : Nat → Int
  B : Nat → Int
  L : Int
def relax (f : Nat → Nat → Int) (k : Nat) (s : PSt) : PSt :=
  if s.M (f k 1).toNat < s.M (f k 0).toNat + f k 2 then ⟨putAt s.M (f k 1).toNat (s.M (f k 0).toNat + f k 2), putAt s.B (f k 1).toNat k, f k 1⟩ else s
/-- The first k edges, once. -/
def pass (f : Nat → Nat → Int) : Nat → PSt → PSt
  | 0, s => s
  | k + 1, s => relax f k (pass f k s)
def rnd (f : Nat → Nat → Int) (n : Nat) (s : PSt) : PSt := pass f n ⟨s.M, s.B, -1⟩
/-- Rounds till nothing is more, but t at most. -/
def solveAt (f : Nat → Nat → Int) (n : Nat) : Nat → PSt → PSt
  | 0, s => s
  | t + 1, s => if (rnd f n s).L < 0 then rnd f n s else solveAt f n t (rnd f n s)
def start : PSt := ⟨fun _ => 0, fun _ => -1, -1⟩
def solved (f : Nat → Nat → Int) (n : Nat) (N : Nat) : PSt := solveAt f n (N + 1) start

/-- Bounds of the most. -/
def MB (N : Nat) (c : Int) (M : Nat → Int) : Prop := ∀ v, v < N → 0 ≤ M v ∧ M v ≤ c
theorem relax_mb {N : Nat} {n : Nat} {f : Nat → Nat → Int} {c : Int} {s : PSt} (h : GRight N n f) (hM : MB N c s.M) {k : Nat} (hk : k < n) (hc : 0 ≤ c) : MB N (c + 1048576) (relax f k s).M := by
  have hf := h.2.2.2 k hk
  have h0 := hM (f k 0).toNat (by omega)
  intro v hv
  have h1 := hM v hv
  unfold relax
  split
  · rename_i hc
    by_cases e : v = (f k 1).toNat
    · subst e
      show 0 ≤ putAt s.M _ _ _ ∧ putAt s.M _ _ _ ≤ _
      rw [putAt_same]
      omega
    · show 0 ≤ putAt s.M _ _ _ ∧ putAt s.M _ _ _ ≤ _
      rw [putAt_ne _ _ e]
      omega
  · omega
theorem pass_mb {N : Nat} {n : Nat} {f : Nat → Nat → Int} {c : Int} {s : PSt} (h : GRight N n f) (hM : MB N c s.M) (hc : 0 ≤ c) : ∀ k, k ≤ n → MB N (c + 1048576 * k) (pass f k s).M := by
  intro k
  induction k with
  | zero => intro _; simpa [pass] using hM
  | succ k ih =>
    intro hk
    have h1 := ih (by omega)
    have h2 := relax_mb h h1 (show k < n by omega) (by omega)
    have e : c + 1048576 * ((k + 1 : Nat) : Int) = c + 1048576 * k + 1048576 := by omega
    rw [e]
    exact h2
theorem rnd_mb {N : Nat} {n : Nat} {f : Nat → Nat → Int} {c : Int} {s : PSt} (h : GRight N n f) (hM : MB N c s.M) (hc : 0 ≤ c) : MB N (c + 5033164800) (rnd f n s).M := by
  have h1 := pass_mb (s := ⟨s.M, s.B, -1⟩) h hM hc n (Nat.le_refl _)
  have h2 := h.2.2.1
  intro v hv
  have := h1 v hv
  unfold rnd
  omega
theorem relax_L {f : Nat → Nat → Int} {k : Nat} {s : PSt} : (relax f k s).L = f k 1 ∨ (relax f k s).L = s.L := by
  unfold relax
  split
  · exact .inl rfl
  · exact .inr rfl
theorem pass_L {N : Nat} {n : Nat} {f : Nat → Nat → Int} {s : PSt} (h : GRight N n f) (hs : -1 ≤ s.L ∧ s.L < N) : ∀ k, k ≤ n → -1 ≤ (pass f k s).L ∧ (pass f k s).L < N := by
  intro k
  induction k with
  | zero => intro _; exact hs
  | succ k ih =>
    intro hk
    have h1 := ih (by omega)
    have hf := h.2.2.2 k (by omega)
    show -1 ≤ (relax f k (pass f k s)).L ∧ (relax f k (pass f k s)).L < N
    rcases relax_L (f := f) (k := k) (s := pass f k s) with e | e <;> rw [e] <;> omega
end Go.Tide
