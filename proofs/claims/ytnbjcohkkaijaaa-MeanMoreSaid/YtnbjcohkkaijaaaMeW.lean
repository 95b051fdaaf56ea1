/- What mean.more and mean.lowest answer. Conditions: numbers that fit. -/
import Derived.Test.YtnbjcohkkaijaaaMeLaw
import Derived.Test.YtnbjcohkkaijaaaPotW
set_option linter.unusedVariables false
set_option linter.unusedSimpArgs false
namespace Go.Proofs.Ytnbjcohkkaijaaa
open Go.RowKit Go.Tide
set_option linter.unusedVariables false
set_option linter.unusedSimpArgs false
theorem drewN_two (w : World) (a b : Nat) : (w.drewN a).drewN b = w.drewN (a + b) := by simp [World.drewN, Nat.add_assoc]
theorem mul_in {a d : Int} (ha : -700000000 ≤ a ∧ a ≤ 700000000) (hd : 0 ≤ d ∧ d ≤ 300) : -210000000000 ≤ a * d ∧ a * d ≤ 210000000000 := by
  have h1 : a * d ≤ 700000000 * d := Int.mul_le_mul_of_nonneg_right ha.2 hd.1
  have h2 : -700000000 * d ≤ a * d := Int.mul_le_mul_of_nonneg_right ha.1 hd.1
  omega
theorem more_any (a b c d : Int) (w : World) (ha : -700000000 ≤ a ∧ a ≤ 700000000) (hb : 0 ≤ b ∧ b ≤ 300) (hc : -700000000 ≤ c ∧ c ≤ 700000000) (hd : 0 ≤ d ∧ d ≤ 300) :
    Calls Try.prog 14 #[.agg #[.int .i64 a, .int .i64 b], .agg #[.int .i64 c, .int .i64 d]] w fun e w' => e = .returned (.bool (fMore (a, b) (c, d))) ∧ More w w' := by
  have m1 := mul_in ha hd
  have m2 := mul_in hc hb
  obtain ⟨p, hp⟩ : ∃ p, a * d = p := ⟨_, rfl⟩
  obtain ⟨q, hq⟩ : ∃ q, c * b = q := ⟨_, rfl⟩
  have HP : Hid (fMore (a, b) (c, d) = decide (q < p)) := by rw [← hp, ← hq]; rfl
  rw [hp] at m1
  rw [hq] at m2
  have i1 : IntKind.i64.wrap (a * d) = p := by rw [hp]; exact IntWalk.i64_in _ (by omega)
  have i2 : IntKind.i64.wrap (c * b) = q := by rw [hq]; exact IntWalk.i64_in _ (by omega)
  clear ha hb hc hd hp hq
  go_enter Try.func14, Try.ntmps14
  go_wp2
  go_ret
  exact ⟨ret_bool HP.out.symm, (by repeat (first | (with_reducible assumption) | (with_reducible exact More.refl _) | (with_reducible refine More.alloc ?_ _) | (with_reducible refine More.more ?_ _ _) | (with_reducible refine More.drewN ?_ _) | (with_reducible refine More.drew ?_)))⟩
theorem gcd_facts (p : Int) (D g : Nat) (hD : 1 ≤ D) (hg : Nat.gcd p.natAbs D = g) : 1 ≤ g ∧ (g : Int) ≤ D ∧ p.tdiv g * g = p ∧ (D : Int).tdiv g * g = D ∧ 0 ≤ (D : Int).tdiv g ∧ (D : Int).tdiv g ≤ D := by
  have h0 : 0 < g := by rw [← hg]; exact Nat.gcd_pos_of_pos_right _ hD
  have h1 : (g : Int) ∣ p := by
    have := Nat.gcd_dvd_left p.natAbs D
    rw [hg] at this
    exact Int.ofNat_dvd_left.2 this
  have h2 : g ∣ D := by
    have := Nat.gcd_dvd_right p.natAbs D
    rwa [hg] at this
  have h3 : g ≤ D := Nat.le_of_dvd hD h2
  have h4 : (D : Int).tdiv g = ((D / g : Nat) : Int) := (Int.ofNat_tdiv D g).symm
  have h5 := Nat.div_le_self D g
  refine ⟨h0, by omega, Int.tdiv_mul_cancel h1, Int.tdiv_mul_cancel (Int.natCast_dvd_natCast.2 h2), ?_, ?_⟩
  · rw [h4]
    exact Int.natCast_nonneg _
  · rw [h4]
    exact Int.ofNat_le.2 h5
theorem tdiv_in (p : Int) (g : Nat) (hp : -700000000 ≤ p ∧ p ≤ 700000000) : -700000000 ≤ p.tdiv g ∧ p.tdiv g ≤ 700000000 := by
  have h : (p.tdiv (g : Int)).natAbs = p.natAbs / (g : Int).natAbs := Int.natAbs_tdiv p g
  have h2 := Nat.div_le_self p.natAbs (g : Int).natAbs
  generalize p.natAbs / (g : Int).natAbs = q at h h2
  generalize p.tdiv (g : Int) = r at *
  omega
/-- The greatest mean in lowest terms. -/
def bP (f : Nat → Nat → Int) (n N : Nat) : Int := (best f n N).1.tdiv (Nat.gcd (best f n N).1.natAbs (best f n N).2.toNat : Nat)
def bQ (f : Nat → Nat → Int) (n N : Nat) : Int := (best f n N).2.tdiv (Nat.gcd (best f n N).1.natAbs (best f n N).2.toNat : Nat)
theorem low_facts {f : Nat → Nat → Int} {n N : Nat} (hN : N ≤ 300) (h : (best f n N).2 ≠ 0) : ∃ g : Int, 1 ≤ g ∧ bP f n N * g = (best f n N).1 ∧ bQ f n N * g = (best f n N).2 ∧ 1 ≤ bQ f n N ∧ bQ f n N ≤ 300 := by
  obtain ⟨h1, h2⟩ := best_den h
  obtain ⟨D, hD⟩ : ∃ D : Nat, (best f n N).2 = D := ⟨(best f n N).2.toNat, by omega⟩
  have h3 : 1 ≤ D ∧ D ≤ 300 := by omega
  unfold bP bQ
  rw [hD, Int.toNat_natCast]
  obtain ⟨f1, f2, f3, f4, f5, f6⟩ := gcd_facts (best f n N).1 D _ h3.1 rfl
  refine ⟨_, by omega, f3, f4, ?_, by omega⟩
  by_cases hq : (D : Int).tdiv (Nat.gcd (best f n N).1.natAbs D : Nat) = 0
  · rw [hq] at f4
    omega
  · omega
set_option maxHeartbeats 1000000 in
theorem lowest_any (p : Int) (D : Nat) (w : World) (hp : -700000000 ≤ p ∧ p ≤ 700000000) (hD : 1 ≤ D ∧ D ≤ 300) :
    Calls Try.prog 15 #[.int .i64 p, .int .i64 (D : Nat)] w fun e w' => ∃ (P Q : Int), e = .returned (.agg #[.int .i64 P, .int .i64 Q]) ∧ Hid (P = p.tdiv (Nat.gcd p.natAbs D : Nat) ∧ Q = (D : Int).tdiv (Nat.gcd p.natAbs D : Nat)) ∧ More w w' := by
  obtain ⟨A, hA⟩ : ∃ A : Nat, A = p.natAbs := ⟨_, rfl⟩
  have hA2 : A ≤ 700000000 := by omega
  have hmx : max p (-p) = (A : Int) := by omega
  have hneg : IntKind.i64.wrap (-p) = -p := IntWalk.i64_in _ (by omega)
  have HA := Lib.hid hA
  clear hA
  go_enter Try.func15, Try.ntmps15
  go_wp2_with fail
  all_goals
    go_loopw [5, 6] (fun a b wr => ∃ s t dr : Nat, a = .int .i64 s ∧ b = .int .i64 t ∧ Hid (Nat.gcd s t = Nat.gcd A D) ∧ s ≤ 700000000 ∧ t ≤ 700000000 ∧ wr = (w.alloc (.cells #[.int .i64 0, .int .i64 0] 27)).drewN dr) (fun _ b _ => (intOf b).toNat)
    case atStart => exact ⟨A, D, 0, by first | (rw [show -p = (A : Int) by omega]; done) | (rw [show p = (A : Int) by omega]; done), rfl, rfl, hA2, by omega, rfl⟩
    case round =>
      obtain ⟨s, t, dr, rfl, rfl, HG, hs, ht, rfl⟩ := hrel
      clear hmx hneg
      rcases Nat.eq_zero_or_pos t with h0 | h0
      · subst h0
        have hg : Nat.gcd p.natAbs D = s := by rw [← HA.out, ← HG.out, Nat.gcd_zero_right]
        obtain ⟨f1, f2, f3, f4, f5, f6⟩ := gcd_facts p D s hD.1 hg
        have f7 := tdiv_in p s hp
        obtain ⟨P, hP⟩ : ∃ P, p.tdiv (s : Int) = P := ⟨_, rfl⟩
        obtain ⟨Q, hQ⟩ : ∃ Q, (D : Int).tdiv (s : Int) = Q := ⟨_, rfl⟩
        have HF : Hid (P = p.tdiv (Nat.gcd p.natAbs D : Nat) ∧ Q = (D : Int).tdiv (Nat.gcd p.natAbs D : Nat)) := by rw [hg, ← hP, ← hQ]; exact ⟨rfl, rfl⟩
        rw [hP] at f7
        rw [hQ] at f5 f6
        have hz : ((s : Int) == 0) = false := by simp; omega
        have wP : IntKind.i64.wrap P = P := IntWalk.i64_in _ (by omega)
        have wQ : IntKind.i64.wrap Q = Q := IntWalk.i64_in _ (by omega)
        clear hg f3 f4
        go_wp2_with fail
        go_region
        go_wp2
        exact bodyPost_ret (v := .agg #[.int .i64 P, .int .i64 Q]) (by simp [results, Try.results15, go_sem]) rfl ⟨P, Q, rfl, HF, (by repeat (first | (with_reducible assumption) | (with_reducible exact More.refl _) | (with_reducible refine More.alloc ?_ _) | (with_reducible refine More.more ?_ _ _) | (with_reducible refine More.drewN ?_ _) | (with_reducible refine More.drew ?_)))⟩
      · have hne : ((t : Int) != 0) = true := by simp; omega
        have hz : ((t : Int) == 0) = false := by simp; omega
        have hm : (s : Int).tmod (t : Int) = ((s % t : Nat) : Int) := (Int.ofNat_tmod s t).symm
        have hlt := Nat.mod_lt s h0
        have HN : Hid (Nat.gcd t (s % t) = Nat.gcd A D) := by
          show _ = _
          rw [← HG.out, Nat.gcd_comm t, ← Nat.gcd_rec, Nat.gcd_comm]
        generalize s % t = u at *
        go_wp2_with fail
        go_quiet (fail)
        go_wp2
        go_roundw
        case rel => exact ⟨t, u, dr + _, rfl, rfl, HN, ht, by omega, drewN_two _ dr _⟩
        case measure => simp [intOf]; omega
end Go.Proofs.Ytnbjcohkkaijaaa
