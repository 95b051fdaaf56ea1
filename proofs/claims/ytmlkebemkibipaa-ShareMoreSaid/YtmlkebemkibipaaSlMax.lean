/- slices.Max at []int, of a slice that is not empty: a number of it, and none is more. Conditions: lengths that fit. -/
import Derived.Test.YtmlkebemkibipaaProg
import Derived.Test.YtmlkebemkibipaaKit2
namespace Go.Tide
/-- m is a greatest number of the n. -/
def IsMax (n : Nat) (f : Nat → Int) (m : Int) : Prop := (∃ k, k < n ∧ f k = m) ∧ ∀ k, k < n → f k ≤ m
/-- m is a least number of the n. -/
def IsMin (n : Nat) (f : Nat → Int) (m : Int) : Prop := (∃ k, k < n ∧ f k = m) ∧ ∀ k, k < n → m ≤ f k
theorem isMax_one {f : Nat → Int} {x : Int} (h : x = f 0) : ∀ k, k < 1 → f k ≤ x := by
  intro j hj
  obtain rfl : j = 0 := by omega
  rw [h]
  exact Int.le_refl _
end Go.Tide
namespace Go.Proofs.Ytmlkebemkibipaa
open Go.RowKit Go.Tide
set_option linter.unusedVariables false
set_option linter.unusedSimpArgs false

set_option maxHeartbeats 400000 in
theorem max_any (a : Option Addr) (n c : Nat) (f : Nat → Int) (w : World) (hf : Row w a n f) (hn : n ≤ 1152921504606846976) (h0 : 0 < n) :
    Calls Try.prog 32 #[.slice a n c] w fun e w' => ∃ m : Int, e = .returned (.int .i64 m) ∧ IsMax n f m ∧ w = w' := by
  obtain ⟨b0, off0, x0, rfl, hb0, hc0, hx0⟩ := hf.at_ h0
  rw [Nat.add_zero] at hc0
  have hn1 : decide ((n : Int) < 1) = false := by simp; omega
  go_enter Try.func32, Try.ntmps32
  go_wp2
  go_loop [3, 4] (fun m i => ∃ (k : Nat) (x : Int), i = .int .i64 k ∧ 1 ≤ k ∧ k ≤ n ∧ m = .int .i64 x ∧ IsMax k f x) (fun _ i => n - (intOf i).toNat)
  case atStart => exact ⟨1, x0, rfl, by omega, by omega, rfl, ⟨0, by omega, hx0.out.symm⟩, isMax_one hx0.out⟩
  case round =>
    obtain ⟨k, x, rfl, hk1, hk, rfl, hm⟩ := hrel
    have HM := Lib.hid hm
    clear hm
    by_cases hlt : k < n
    · obtain ⟨b, off, y, he, hb, hc, hy⟩ := hf.at_ hlt
      injection he with he
      injection he with he1 he2
      subst he1 he2
      go_wp2
      all_goals
        go_round
        case rel =>
          refine ⟨k + 1, _, by go_num, by omega, by omega, rfl, ?_, fun j hj => ?_⟩
          · obtain ⟨⟨i, hi, hfi⟩, _⟩ := HM.out
            by_cases hxy : x < y
            · exact ⟨k, by omega, by rw [← hy.out]; first | rfl | (simp only [hxy, if_true]) | omega⟩
            · exact ⟨i, by omega, by rw [hfi]; first | rfl | (simp only [hxy, if_false]) | omega⟩
          · rcases Nat.lt_succ_iff_lt_or_eq.1 hj with h | h
            · have := HM.out.2 j h
              first | omega | (split <;> omega)
            · subst h
              rw [← hy.out]
              first | omega | (split <;> omega)
        case measure => simp [intOf]; omega
    · obtain rfl : k = n := by omega
      go_wp2
      go_ret
      exact ⟨x, rfl, HM.out, rfl⟩
end Go.Proofs.Ytmlkebemkibipaa
