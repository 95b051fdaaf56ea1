/- Plain laws of shares: the level, what is given out. No program in sight. Conditions: none. -/
import Derived.Test.YtmlkebemkibipaaSlFunc
import Derived.Test.YtmlkebemkibipaaNum
set_option linter.unusedVariables false
set_option linter.unusedSimpArgs false
namespace Go.Tide
/-- The sum of the first k. -/
def isum (x : Nat → Int) : Nat → Int
  | 0 => 0
  | k + 1 => isum x k + x k
/-- How much all have, if nobody has more than a level. -/
def filledTo (x : Nat → Int) (L : Int) (k : Nat) : Int := isum (fun j => min (x j) L) k
/-- What share.Right asks. -/
def SRight (n : Nat) (x : Nat → Int) : Prop := n ≤ 300 ∧ AllIn n x 0 1048576
noncomputable def sRight (n : Nat) (x : Nat → Int) : Bool := @decide (SRight n x) (Classical.propDecidable _)
theorem sRight_iff {n : Nat} {x : Nat → Int} : sRight n x = true ↔ SRight n x := by simp [sRight]
theorem sRight_false {n : Nat} {x : Nat → Int} (h : ¬ SRight n x) : sRight n x = false := by simp [sRight, h]
theorem isum_bd {n : Nat} {x : Nat → Int} {M : Int} (h : ∀ k, k < n → 0 ≤ x k ∧ x k ≤ M) : ∀ k, k ≤ n → 0 ≤ isum x k ∧ isum x k ≤ (k : Int) * M := by
  intro k
  induction k with
  | zero => intro _; simp only [isum]; omega
  | succ k ih =>
    intro hk
    have h1 := ih (by omega)
    have h2 := h k (by omega)
    simp only [isum]
    rw [Int.natCast_add, Int.add_mul]
    omega
theorem isum_le {n : Nat} {x y : Nat → Int} (h : ∀ k, k < n → x k ≤ y k) : ∀ k, k ≤ n → isum x k ≤ isum y k := by
  intro k
  induction k with
  | zero => intro _; exact Int.le_refl _
  | succ k ih =>
    intro hk
    have h1 := ih (by omega)
    have h2 := h k (by omega)
    simp only [isum]
    omega
theorem isum_same {n : Nat} {x y : Nat → Int} (h : ∀ k, k < n → x k = y k) : ∀ k, k ≤ n → isum x k = isum y k := by
  intro k
  induction k with
  | zero => intro _; rfl
  | succ k ih => intro hk; simp only [isum]; rw [ih (by omega), h k (by omega)]
theorem SRight.filled {n : Nat} {x : Nat → Int} (h : SRight n x) {L : Int} (h0 : 0 ≤ L) : ∀ k, k ≤ n → 0 ≤ filledTo x L k ∧ filledTo x L k ≤ 314572800 := by
  intro k hk
  have h1 := isum_bd (n := n) (x := fun j => min (x j) L) (M := 1048576) (fun j hj => by have := h.2 j hj; omega) k hk
  have h2 := h.1
  unfold filledTo
  omega
/-- The highest level that there is enough for, bit by bit. -/
def Fits (F : Int → Int) (all L : Int) : Prop := L ≤ 1048576 ∧ F L ≤ all
def fits (F : Int → Int) (all L : Int) : Bool := decide (L ≤ 1048576) && decide (F L ≤ all)
theorem fits_iff {F : Int → Int} {all L : Int} : fits F all L = true ↔ Fits F all L := by simp [fits, Fits]
def bitAt : Nat → Int
  | 0 => 1048576
  | j + 1 => bitAt j / 2
def levAt (F : Int → Int) (all : Int) : Nat → Int
  | 0 => 0
  | j + 1 => if fits F all (levAt F all j + bitAt j) = true then levAt F all j + bitAt j else levAt F all j
theorem bit_half : ∀ j, j < 20 → bitAt j = 2 * bitAt (j + 1) := by decide +kernel
theorem bit_bounds : ∀ j, j < 21 → 1 ≤ bitAt j ∧ bitAt j ≤ 1048576 := by decide +kernel
theorem lev_inv {F : Int → Int} {all : Int} (h0 : F 0 ≤ all) : ∀ j, j < 21 → (0 ≤ levAt F all j ∧ levAt F all j ≤ 1048576 ∧ F (levAt F all j) ≤ all) ∧ ¬ Fits F all (levAt F all j + 2 * bitAt j) := by
  intro j
  induction j with
  | zero => intro _; exact ⟨⟨by simp [levAt], by simp [levAt], by simpa [levAt] using h0⟩, fun h => by have := h.1; simp [levAt, bitAt] at this⟩
  | succ j ih =>
    intro hj
    obtain ⟨⟨a1, a2, a3⟩, a4⟩ := ih (by omega)
    have hb := bit_half j (by omega)
    have hc := bit_bounds j (by omega)
    rw [← hb]
    simp only [levAt]
    by_cases hf : fits F all (levAt F all j + bitAt j) = true
    · rw [if_pos hf]
      have hf2 := fits_iff.1 hf
      refine ⟨⟨by omega, hf2.1, hf2.2⟩, fun h => a4 ?_⟩
      rwa [show levAt F all j + 2 * bitAt j = levAt F all j + bitAt j + bitAt j by omega]
    · rw [if_neg hf]
      exact ⟨⟨a1, a2, a3⟩, fun h => hf (fits_iff.2 h)⟩
theorem lev_succ (F : Int → Int) (all : Int) (j : Nat) : levAt F all (j + 1) = if fits F all (levAt F all j + bitAt j) = true then levAt F all j + bitAt j else levAt F all j := rfl
theorem lev_end {F : Int → Int} {all : Int} (h0 : F 0 ≤ all) : (0 ≤ levAt F all 21 ∧ levAt F all 21 ≤ 1048576 ∧ F (levAt F all 21) ≤ all) ∧ ¬ Fits F all (levAt F all 21 + 1) := by
  have hb : bitAt 20 = 1 := by decide +kernel
  have hi := lev_inv h0 20 (by omega)
  have he := lev_succ F all 20
  rw [hb] at hi he
  generalize levAt F all 20 = l at *
  have he' : levAt F all 21 = if fits F all (l + 1) = true then l + 1 else l := he
  rw [he']
  clear he he'
  obtain ⟨⟨a1, a2, a3⟩, a4⟩ := hi
  by_cases hf : fits F all (l + 1) = true
  · rw [if_pos hf]
    have hf2 := fits_iff.1 hf
    exact ⟨⟨by omega, hf2.1, hf2.2⟩, fun h => a4 (by rwa [show l + 2 * 1 = l + 1 + 1 by omega])⟩
  · rw [if_neg hf]
    exact ⟨⟨a1, a2, a3⟩, fun h => hf (fits_iff.2 h)⟩
/-- What is left to give out, one by one, and what each gets. -/
def restTo (x : Nat → Int) (L r0 : Int) : Nat → Int
  | 0 => r0
  | k + 1 => if 0 < restTo x L r0 k ∧ L < x k then restTo x L r0 k - 1 else restTo x L r0 k
def shOf (x : Nat → Int) (L r0 : Int) (k : Nat) : Int := if 0 < restTo x L r0 k ∧ L < x k then min (x k) L + 1 else min (x k) L
section
variable {x : Nat → Int} {L r0 : Int}
theorem rest_eq (h0 : 0 ≤ r0) : ∀ k, restTo x L r0 k = max (r0 - (filledTo x (L + 1) k - filledTo x L k)) 0 := by
  intro k
  induction k with
  | zero => simp only [restTo, filledTo, isum]; omega
  | succ k ih =>
    have e1 : filledTo x (L + 1) (k + 1) = filledTo x (L + 1) k + min (x k) (L + 1) := rfl
    have e2 : filledTo x L (k + 1) = filledTo x L k + min (x k) L := rfl
    have e3 : filledTo x L k ≤ filledTo x (L + 1) k := isum_le (n := k) (fun j _ => by omega) k (Nat.le_refl _)
    simp only [restTo]
    split <;> omega
theorem rest_mono (h0 : 0 ≤ r0) (i : Nat) : ∀ d, restTo x L r0 (i + d) ≤ restTo x L r0 i ∧ 0 ≤ restTo x L r0 (i + d) := by
  intro d
  induction d with
  | zero => rw [Nat.add_zero]; exact ⟨Int.le_refl _, by rw [rest_eq h0]; omega⟩
  | succ d ih =>
    show restTo x L r0 (i + d + 1) ≤ _ ∧ 0 ≤ restTo x L r0 (i + d + 1)
    simp only [restTo]
    split <;> omega
theorem sh_sum : ∀ k, isum (shOf x L r0) k = filledTo x L k + (r0 - restTo x L r0 k) := by
  intro k
  induction k with
  | zero => simp only [isum, filledTo, restTo]; omega
  | succ k ih =>
    have e2 : filledTo x L (k + 1) = filledTo x L k + min (x k) L := rfl
    simp only [isum]
    rw [ih, e2]
    simp only [restTo, shOf]
    split <;> omega
end
/-- What share.Share gives each one. -/
def shareOf (all : Int) (n : Nat) (x : Nat → Int) : Nat → Int := shOf x (levAt (fun L => filledTo x L n) all 21) (all - filledTo x (levAt (fun L => filledTo x L n) all 21) n)
theorem filled_zero {n : Nat} {x : Nat → Int} (h : SRight n x) : filledTo x 0 n = 0 := by
  have h1 := h.filled (L := 0) (Int.le_refl _) n (Nat.le_refl _)
  have h2 := isum_bd (n := n) (x := fun j => min (x j) 0) (M := 0) (fun j hj => by have := h.2 j hj; omega) n (Nat.le_refl _)
  unfold filledTo at *
  omega
theorem share_sum {n : Nat} {x : Nat → Int} {all : Int} (h : SRight n x) (ha : 0 ≤ all) : isum (shareOf all n x) n = min all (isum x n) := by
  obtain ⟨⟨a1, a2, a3⟩, a4⟩ := lev_end (F := fun L => filledTo x L n) (all := all) (by simp only [filled_zero h]; exact ha)
  unfold shareOf
  generalize levAt (fun L => filledTo x L n) all 21 = L at *
  rw [sh_sum, rest_eq (by omega)]
  have hle : filledTo x (L + 1) n ≤ isum x n := isum_le (n := n) (fun j _ => by omega) n (Nat.le_refl _)
  have hle2 : filledTo x L n ≤ filledTo x (L + 1) n := isum_le (n := n) (fun j _ => by omega) n (Nat.le_refl _)
  by_cases hL : L + 1 ≤ 1048576
  · have : ¬ filledTo x (L + 1) n ≤ all := fun hc => a4 ⟨hL, hc⟩
    omega
  · have e1 : filledTo x L n = isum x n := isum_same (n := n) (fun j hj => by have := h.2 j hj; omega) n (Nat.le_refl _)
    have e2 : filledTo x (L + 1) n = isum x n := isum_same (n := n) (fun j hj => by have := h.2 j hj; omega) n (Nat.le_refl _)
    omega
theorem share_fair {n : Nat} {x : Nat → Int} {all : Int} (h : SRight n x) (ha : 0 ≤ all) : ∀ i, i < n → (0 ≤ shareOf all n x i ∧ shareOf all n x i ≤ x i) ∧
    ∀ j, j < n → shareOf all n x i < x i → shareOf all n x j ≤ shareOf all n x i + 1 ∧ (i < j → shareOf all n x j ≤ shareOf all n x i) := by
  obtain ⟨⟨a1, a2, a3⟩, a4⟩ := lev_end (F := fun L => filledTo x L n) (all := all) (by simp only [filled_zero h]; exact ha)
  unfold shareOf
  generalize levAt (fun L => filledTo x L n) all 21 = L at *
  have hr : 0 ≤ all - filledTo x L n := by omega
  generalize all - filledTo x L n = r0 at *
  intro i hi
  have hxi := h.2 i hi
  refine ⟨by unfold shOf; split <;> omega, fun j hj hlt => ?_⟩
  have hxj := h.2 j hj
  have hri := rest_mono (x := x) (L := L) hr i 0
  refine ⟨by unfold shOf at *; (repeat' split at *) <;> omega, fun hij => ?_⟩
  have hrj := rest_mono (x := x) (L := L) hr i (j - i)
  rw [show i + (j - i) = j by omega] at hrj
  rw [Nat.add_zero] at hri
  unfold shOf at *
  (repeat' split at *) <;> omega
end Go.Tide
