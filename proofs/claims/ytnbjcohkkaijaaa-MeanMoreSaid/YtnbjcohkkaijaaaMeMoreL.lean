/- So much more, or twice as much, for each edge: what the greatest mean comes to; plain. Conditions: none. -/
import Derived.Test.YtnbjcohkkaijaaaMeC
set_option linter.unusedVariables false
set_option linter.unusedSimpArgs false
namespace Go.Proofs.Ytnbjcohkkaijaaa
open Go.RowKit Go.Tide
set_option linter.unusedVariables false
set_option linter.unusedSimpArgs false
def affF (f : Nat → Nat → Int) (al be : Int) (k j : Nat) : Int := if j = 2 then al * f k 2 + be else f k j
def aff (al c x : Int) : Int := if x = -4611686018427387904 then -4611686018427387904 else al * x + c
theorem mul_small {t : Nat} {b : Int} (ht : t ≤ 300) (hb : -1048576 ≤ b ∧ b ≤ 1048576) : -314572800 ≤ b * t ∧ b * t ≤ 314572800 := by
  have h1 : b * (t : Int) ≤ 1048576 * t := Int.mul_le_mul_of_nonneg_right hb.2 (by omega)
  have h2 : -1048576 * (t : Int) ≤ b * t := Int.mul_le_mul_of_nonneg_right hb.1 (by omega)
  omega
theorem row_aff {N n : Nat} {f : Nat → Nat → Int} {al be c : Int} (hal : al = 1 ∨ al = 2) (hbe : -1048576 ≤ be ∧ be ≤ 1048576) (hc : -314572800 ≤ c ∧ c ≤ 314572800) (hG : GRight N n f) {last last' : Nat → Int} (hl : ∀ v, v < N → MOk 314572800 (last v)) (he : ∀ v, v < N → last' v = aff al c (last v)) :
    ∀ k, k ≤ n → ∀ v, v < N → mRow (affF f al be) last' k v = aff al (c + be) (mRow f last k v) := by
  intro k
  induction k with
  | zero => intro _ v _; rfl
  | succ k ih =>
    intro hk v hv
    have hg := hG.2.2.2 k (by omega)
    have h1 := ih (by omega) v hv
    have hf := he (f k 0).toNat (by omega)
    have hlf := hl (f k 0).toNat (by omega)
    have ht := ih (by omega) (f k 1).toNat (by omega)
    have hok := mRow_ok hG (show 0 ≤ (314572800 : Int) ∧ (314572800 : Int) ≤ 1000000000 by omega) hl (show k ≤ n by omega) (show (f k 1).toNat < N by omega)
    rw [mRow_succ, mRow_succ]
    show (if -4611686018427387904 < last' (f k 0).toNat then putAt (mRow (affF f al be) last' k) (f k 1).toNat (max (mRow (affF f al be) last' k (f k 1).toNat) (last' (f k 0).toNat + (al * f k 2 + be))) else mRow (affF f al be) last' k) v = _
    rw [hf, ht]
    generalize mRow f last k (f k 1).toNat = a at *
    generalize last (f k 0).toNat = l at *
    generalize f k 2 = z at *
    by_cases hln : l = -4611686018427387904
    · subst hln
      rw [if_neg (by unfold aff; rw [if_pos rfl]; omega), if_neg (by omega)]
      exact h1
    · have hl2 : -314572800 ≤ l ∧ l ≤ 314572800 := by unfold MOk at hlf; omega
      have e1 : aff al c l = al * l + c := by unfold aff; rw [if_neg hln]
      rw [e1, if_pos (by rcases hal with rfl | rfl <;> omega), if_pos (by omega)]
      by_cases hvt : v = (f k 1).toNat
      · rw [hvt, putAt_same, putAt_same]
        by_cases han : a = -4611686018427387904
        · subst han
          have e2 : aff al (c + be) (-4611686018427387904) = -4611686018427387904 := by unfold aff; rw [if_pos rfl]
          rw [e2]
          unfold aff
          rw [if_neg (by omega)]
          rcases hal with rfl | rfl <;> omega
        · have ha2 : -400000000 ≤ a ∧ a ≤ 400000000 := by unfold MOk at hok; omega
          have e2 : aff al (c + be) a = al * a + (c + be) := by unfold aff; rw [if_neg han]
          rw [e2]
          unfold aff
          rw [if_neg (by omega)]
          rcases hal with rfl | rfl <;> omega
      · rw [putAt_ne _ _ hvt, putAt_ne _ _ hvt]
        exact h1
theorem mF_aff {N n : Nat} {f : Nat → Nat → Int} {al be : Int} (hal : al = 1 ∨ al = 2) (hbe : -1048576 ≤ be ∧ be ≤ 1048576) (hG : GRight N n f) : ∀ t : Nat, t ≤ N → ∀ v, v < N → mF (affF f al be) n t v = aff al (be * t) (mF f n t v) := by
  have hN : N ≤ 300 := by have := hG.2.1; omega
  intro t
  induction t with
  | zero => intro _ v _; show (0 : Int) = aff al (be * ((0 : Nat) : Int)) 0; unfold aff; rw [if_neg (by omega)]; simp
  | succ t ih =>
    intro ht v hv
    have e : be * ((t + 1 : Nat) : Int) = be * t + be := by rw [Int.natCast_add, Int.mul_add]; simp
    rw [e]
    exact row_aff hal hbe (mul_small (by omega) hbe) hG (fun v hv => mF_in hG v hv t (by omega)) (ih (by omega)) n (Nat.le_refl _) v hv
theorem more_aff {al be a b c d : Int} (hal : al = 1 ∨ al = 2) : fMore (al * a + be * b, b) (al * c + be * d, d) = fMore (a, b) (c, d) := by
  unfold fMore
  rw [Bool.eq_iff_iff, decide_eq_true_eq, decide_eq_true_eq]
  show (al * c + be * d) * b < (al * a + be * b) * d ↔ c * b < a * d
  have e1 : (al * c + be * d) * b = al * (c * b) + be * (d * b) := by grind
  have e2 : (al * a + be * b) * d = al * (a * d) + be * (d * b) := by grind
  rw [e1, e2]
  rcases hal with rfl | rfl <;> omega
def tr (al be : Int) (p : Int × Int) : Int × Int := (al * p.1 + be * p.2, p.2)
theorem least_aff {F F' : Nat → Nat → Int} {N v : Nat} {al be : Int} (hal : al = 1 ∨ al = 2) (hb : ∀ k, k ≤ N → MOk 314572800 (F k v)) (hbe : -1048576 ≤ be ∧ be ≤ 1048576) (hN : N ≤ 300) (he : ∀ k, k ≤ N → F' k v = aff al (be * k) (F k v)) (hx : F N v ≠ -4611686018427387904) : ∀ k, k ≤ N → leastAt F' N v k = tr al be (leastAt F N v k) := by
  intro k
  induction k with
  | zero => intro _; show ((0 : Int), (0 : Int)) = (al * 0 + be * 0, 0); simp
  | succ k ih =>
    intro hk
    have h1 := ih (by omega)
    have hk0 := he k (by omega)
    have hkb := hb k (by omega)
    have hms := mul_small (t := k) (b := be) (by omega) hbe
    have hNe := he N (Nat.le_refl _)
    have e0 : aff al (be * N) (F N v) = al * F N v + be * N := by unfold aff; rw [if_neg hx]
    rw [leastAt_succ, leastAt_succ, h1]
    by_cases hu : F k v = -4611686018427387904
    · rw [if_pos (by rw [hk0, hu]; unfold aff; rw [if_pos rfl]), if_pos hu]
    · have e1 : F' k v = al * F k v + be * k := by rw [hk0]; unfold aff; rw [if_neg hu]
      have hkb2 : -314572800 ≤ F k v ∧ F k v ≤ 314572800 := by unfold MOk at hkb; omega
      have e2 : F' N v - F' k v = al * (F N v - F k v) + be * ((N : Int) - k) := by rw [hNe, e0, e1, Int.mul_sub, Int.mul_sub]; omega
      rw [if_neg (by rw [e1]; rcases hal with rfl | rfl <;> omega), if_neg hu, e2]
      have e3 : fMore (tr al be (leastAt F N v k)) (al * (F N v - F k v) + be * ((N : Int) - k), (N : Int) - k) = fMore (leastAt F N v k) (F N v - F k v, (N : Int) - k) := by
        unfold tr
        exact more_aff hal
      rw [e3]
      by_cases hc : (leastAt F N v k).2 = 0 ∨ fMore (leastAt F N v k) (F N v - F k v, (N : Int) - k) = true
      · have hc' : (tr al be (leastAt F N v k)).2 = 0 ∨ fMore (leastAt F N v k) (F N v - F k v, (N : Int) - k) = true := hc
        rw [if_pos hc', if_pos hc]
        rfl
      · have hc' : ¬ ((tr al be (leastAt F N v k)).2 = 0 ∨ fMore (leastAt F N v k) (F N v - F k v, (N : Int) - k) = true) := hc
        rw [if_neg hc', if_neg hc]
theorem best_aff {N n : Nat} {f : Nat → Nat → Int} {al be : Int} (hal : al = 1 ∨ al = 2) (hbe : -1048576 ≤ be ∧ be ≤ 1048576) (hG : GRight N n f) : best (affF f al be) n N = tr al be (best f n N) := by
  have hN : N ≤ 300 := by have := hG.2.1; omega
  have key : ∀ m, m ≤ N → bestAt (mF (affF f al be) n) N m = tr al be (bestAt (mF f n) N m) := by
    intro m
    induction m with
    | zero => intro _; show ((0 : Int), (0 : Int)) = (al * 0 + be * 0, 0); simp
    | succ m ih =>
      intro hm
      have h1 := ih (by omega)
      have hNe := mF_aff hal hbe hG N (Nat.le_refl _) m (by omega)
      have hNb := mF_in hG m (by omega) N (Nat.le_refl _)
      have hms := mul_small (t := N) (b := be) hN hbe
      rw [bestAt_succ, bestAt_succ, h1]
      by_cases hu : mF f n N m = -4611686018427387904
      · rw [if_pos (by rw [hNe, hu]; unfold aff; rw [if_pos rfl]), if_pos hu]
      · have hl := least_aff (F := mF f n) (F' := mF (affF f al be) n) hal (mF_in hG m (by omega)) hbe hN (fun k hk => mF_aff hal hbe hG k hk m (by omega)) hu N (Nat.le_refl _)
        have hkb2 : -314572800 ≤ mF f n N m ∧ mF f n N m ≤ 314572800 := by unfold MOk at hNb; omega
        have e1 : mF (affF f al be) n N m = al * mF f n N m + be * N := by rw [hNe]; unfold aff; rw [if_neg hu]
        rw [if_neg (by rw [e1]; rcases hal with rfl | rfl <;> omega), if_neg hu, hl]
        have e3 : fMore (tr al be (leastAt (mF f n) N m N)) (tr al be (bestAt (mF f n) N m)) = fMore (leastAt (mF f n) N m N) (bestAt (mF f n) N m) := by
          unfold tr
          exact more_aff hal
        rw [e3]
        by_cases hc : (bestAt (mF f n) N m).2 = 0 ∨ fMore (leastAt (mF f n) N m N) (bestAt (mF f n) N m) = true
        · have hc' : (tr al be (bestAt (mF f n) N m)).2 = 0 ∨ fMore (leastAt (mF f n) N m N) (bestAt (mF f n) N m) = true := hc
          rw [if_pos hc', if_pos hc]
        · have hc' : ¬ ((tr al be (bestAt (mF f n) N m)).2 = 0 ∨ fMore (leastAt (mF f n) N m N) (bestAt (mF f n) N m) = true) := hc
          rw [if_neg hc', if_neg hc]
  exact key N (Nat.le_refl _)
theorem aff_law {N n : Nat} {f : Nat → Nat → Int} {al be : Int} (hal : al = 1 ∨ al = 2) (hbe : -1048576 ≤ be ∧ be ≤ 1048576) (hG : GRight N n f) (h0 : (best f n N).2 ≠ 0) : bP (affF f al be) n N * bQ f n N = (al * bP f n N + be * bQ f n N) * bQ (affF f al be) n N := by
  have hN : N ≤ 300 := by have := hG.2.1; omega
  have hb := best_aff hal hbe hG
  obtain ⟨g, g1, g2, g3, _⟩ := low_facts hN h0
  obtain ⟨g', k1, k2, k3, _⟩ := low_facts (f := affF f al be) hN (by rw [hb]; exact h0)
  rw [hb] at k2 k3
  have k2' : bP (affF f al be) n N * g' = al * (best f n N).1 + be * (best f n N).2 := k2
  have k3' : bQ (affF f al be) n N * g' = (best f n N).2 := k3
  rw [← g2, ← g3] at k2'
  rw [← g3] at k3'
  have h1 : (bP (affF f al be) n N * bQ f n N) * (g * g') = ((al * bP f n N + be * bQ f n N) * bQ (affF f al be) n N) * (g * g') := by grind
  exact Int.eq_of_mul_eq_mul_right (by have := Int.mul_pos (show 0 < g by omega) (show 0 < g' by omega); omega) h1
theorem aff_none {N n : Nat} {f : Nat → Nat → Int} {al be : Int} (hal : al = 1 ∨ al = 2) (hbe : -1048576 ≤ be ∧ be ≤ 1048576) (hG : GRight N n f) : (best (affF f al be) n N).2 = (best f n N).2 := by
  rw [best_aff hal hbe hG]
  rfl
end Go.Proofs.Ytnbjcohkkaijaaa
