/- slices.IndexFunc and slices.ContainsFunc at []int: whether a look says yes at some number, for every look that only reckons. Conditions: lengths that fit. -/
import Derived.Test.YtmlkebemkibipaaProg
import Derived.Test.YtmlkebemkibipaaKit2
namespace Go.Tide
def SomeIn (n : Nat) (f : Nat → Int) (p : Int → Bool) : Prop := ∃ k, k < n ∧ p (f k) = true
noncomputable def someIn (n : Nat) (f : Nat → Int) (p : Int → Bool) : Bool := @decide (SomeIn n f p) (Classical.propDecidable _)
theorem someIn_iff {n : Nat} {f : Nat → Int} {p : Int → Bool} : someIn n f p = true ↔ SomeIn n f p := by simp [someIn]
/-- All n numbers lie from lo to hi. -/
def AllIn (n : Nat) (f : Nat → Int) (lo hi : Int) : Prop := ∀ k, k < n → lo ≤ f k ∧ f k ≤ hi
noncomputable def allIn (n : Nat) (f : Nat → Int) (lo hi : Int) : Bool := @decide (AllIn n f lo hi) (Classical.propDecidable _)
theorem allIn_iff {n : Nat} {f : Nat → Int} {lo hi : Int} : allIn n f lo hi = true ↔ AllIn n f lo hi := by simp [allIn]
theorem allIn_true {n : Nat} {f : Nat → Int} {lo hi : Int} (h : AllIn n f lo hi) : allIn n f lo hi = true := allIn_iff.2 h
theorem allIn_false {n : Nat} {f : Nat → Int} {lo hi : Int} (h : ¬ AllIn n f lo hi) : allIn n f lo hi = false := by simp [allIn, h]
theorem not_someIn {n : Nat} {f : Nat → Int} {lo hi : Int} : (!(someIn n f fun x => decide (x < lo) || decide (hi < x))) = allIn n f lo hi := by
  rw [Bool.eq_iff_iff, Bool.not_eq_true', ← Bool.not_eq_true, someIn_iff, allIn_iff]
  constructor
  · intro h k hk
    have : ¬ (f k < lo ∨ hi < f k) := fun hc => h ⟨k, hk, by simpa using hc⟩
    omega
  · rintro h ⟨k, hk, hp⟩
    have := h k hk
    simp at hp
    omega
end Go.Tide
namespace Go.Proofs.Ytmlkebemkibipaa
open Go.RowKit Go.Tide
set_option linter.unusedVariables false
set_option linter.unusedSimpArgs false

/-- A look at an int: it only reckons, and it is called as any function. -/
def Looks (K : Nat) (p : Int → Bool) : Prop := (∀ (x : Int) (W : World), Calls Try.prog K #[.int .i64 x] W fun e w' => e = .returned (.bool (p x)) ∧ W = w') ∧
  ∀ (x : Int) (W : World), Sem.run Try.prog (callFunc K #[.int .i64 x]) W = .ok (.enter K #[.int .i64 x]) W

set_option maxHeartbeats 400000 in
theorem index_any (K : Nat) (p : Int → Bool) (hK : Looks K p) (a : Option Addr) (n c : Nat) (f : Nat → Int) (w : World) (hf : Row w a n f) (hn : n ≤ 1152921504606846976) :
    Calls Try.prog 46 #[.slice a n c, .func (.func K) #[] #[]] w fun e w' => ∃ r : Int, e = .returned (.int .i64 r) ∧ (0 ≤ r ↔ SomeIn n f p) ∧ w = w' := by
  obtain ⟨hK1, hC⟩ := hK
  have HK := Lib.hid hK1
  clear hK1
  go_enter Try.func46, Try.ntmps46
  go_wp2
  go_loop [8] (fun i => ∃ k : Nat, i = .int .i64 k ∧ k ≤ n ∧ ¬ SomeIn k f p) (fun i => n - (intOf i).toNat)
  case atStart => exact ⟨0, rfl, Nat.zero_le _, fun ⟨j, hj, _⟩ => absurd hj (by omega)⟩
  case round =>
    obtain ⟨k, rfl, hk, hall⟩ := hrel
    have HA := Lib.hid hall
    clear hall
    by_cases hlt : k < n
    · obtain ⟨b, off, x, rfl, hb, hc, hx⟩ := hf.at_ hlt
      by_cases hp : p x = true
      · go_wp2_with (with_reducible refine (HK.out _ _).mono ?_; rintro e w' ⟨rfl, rfl⟩)
        go_ret
        refine ⟨_, rfl, ⟨fun _ => ⟨k, hlt, by rw [← hx.out]; exact hp⟩, fun _ => by omega⟩, rfl⟩
      · have hp' : p x = false := by simpa using hp
        clear hp
        go_wp2_with (with_reducible refine (HK.out _ _).mono ?_; rintro e w' ⟨rfl, rfl⟩)
        go_round
        case rel =>
          refine ⟨k + 1, by go_num, by omega, ?_⟩
          rintro ⟨j, hj, hpj⟩
          rcases Nat.lt_succ_iff_lt_or_eq.1 hj with h | h
          · exact HA.out ⟨j, h, hpj⟩
          · subst h
            rw [← hx.out, hp'] at hpj
            cases hpj
        case measure => simp [intOf]; omega
    · obtain rfl : k = n := by omega
      go_wp2
      go_ret
      exact ⟨_, rfl, ⟨fun h => by omega, fun h => absurd h HA.out⟩, rfl⟩

set_option maxHeartbeats 400000 in
theorem contains_any (K : Nat) (p : Int → Bool) (hK : Looks K p) (a : Option Addr) (n c : Nat) (f : Nat → Int) (w : World) (hf : Row w a n f) (hn : n ≤ 1152921504606846976) :
    Calls Try.prog 40 #[.slice a n c, .func (.func K) #[] #[]] w fun e w' => e = .returned (.bool (someIn n f p)) ∧ w = w' := by
  go_enter Try.func40, Try.ntmps40
  go_wp2_with fail
  refine (index_any K p hK a n c f _ hf hn).mono ?_
  rintro e w' ⟨r, rfl, hr, rfl⟩
  have HR := Lib.hid hr
  clear hr
  go_wp2
  go_ret
  refine ⟨ret_bool_iff ?_, rfl⟩
  rw [someIn_iff, ← HR.out]
  simp
end Go.Proofs.Ytmlkebemkibipaa
