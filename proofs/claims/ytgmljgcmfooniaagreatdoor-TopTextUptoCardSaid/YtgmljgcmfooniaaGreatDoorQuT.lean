/- Texts in one: SlSorted, SlFunc, Curve, MpLaw, BkLaw, QuLaw, Bucket, BdLaw, Queue, Play. Conditions: those of each law. -/
import Derived.Test.YtgmljgcmfooniaaGreatDoorProg
import Derived.Test.YtgmljgcmfooniaaGreatDoorKit2
import Derived.Test.YtgmljgcmfooniaaGreatDoorNum
import Derived.Deep.RegionHeld3
import Derived.Test.YtgmljgcmfooniaaGreatDoorKit3
import Derived.Deep.RegionLaw
/- SlSorted -/
namespace Go.Tide
def Sorted (n : Nat) (f : Nat → Int) : Prop := ∀ k, k + 1 < n → f k ≤ f (k + 1)
theorem Sorted.le {n : Nat} {f : Nat → Int} (h : Sorted n f) : ∀ i j, i ≤ j → j < n → f i ≤ f j := by
  intro i j hij
  induction j with
  | zero => intro _; obtain rfl : i = 0 := by omega
            exact Int.le_refl _
  | succ j ih =>
    intro hj
    rcases Nat.lt_or_ge i (j + 1) with h1 | h1
    · exact Int.le_trans (ih (by omega) (by omega)) (h j hj)
    · obtain rfl : i = j + 1 := by omega
      exact Int.le_refl _
end Go.Tide
namespace Go.Proofs.YtgmljgcmfooniaaGreatDoor
open Go.RowKit Go.Tide
set_option linter.unusedVariables false
set_option linter.unusedSimpArgs false

end Go.Proofs.YtgmljgcmfooniaaGreatDoor
/- SlFunc -/
namespace Go.Tide
def SomeIn (n : Nat) (f : Nat → Int) (p : Int → Bool) : Prop := ∃ k, k < n ∧ p (f k) = true
noncomputable def someIn (n : Nat) (f : Nat → Int) (p : Int → Bool) : Bool := @decide (SomeIn n f p) (Classical.propDecidable _)
theorem someIn_iff {n : Nat} {f : Nat → Int} {p : Int → Bool} : someIn n f p = true ↔ SomeIn n f p := by simp [someIn]
/-- All n numbers lie from lo to hi. -/
def AllIn (n : Nat) (f : Nat → Int) (lo hi : Int) : Prop := ∀ k, k < n → lo ≤ f k ∧ f k ≤ hi
noncomputable def allIn (n : Nat) (f : Nat → Int) (lo hi : Int) : Bool := @decide (AllIn n f lo hi) (Classical.propDecidable _)
theorem allIn_iff {n : Nat} {f : Nat → Int} {lo hi : Int} : allIn n f lo hi = true ↔ AllIn n f lo hi := by simp [allIn]
theorem not_someIn {n : Nat} {f : Nat → Int} {lo hi : Int} : (!(someIn n f fun x => decide (x < lo) || decide (hi < x))) = allIn n f lo hi := by
  rw [Bool.eq_iff_iff, Bool.not_eq_true', ← Bool.not_eq_true, someIn_iff, allIn_iff]
  constructor
  · intro h k hk
    have : ¬ (f k < lo ∨ hi < f k) := fun hc => h ⟨k, hk, by simpa using hc⟩
    omega
  · rintro h ⟨k, hk, hp⟩
    have := h k hk
    simp at hp
    omega
end Go.Tide
namespace Go.Proofs.YtgmljgcmfooniaaGreatDoor
open Go.RowKit Go.Tide

/-- A look at an int: it only reckons, and it is called as any function. -/
def Looks (K : Nat) (p : Int → Bool) : Prop := (∀ (x : Int) (W : World), Calls Tryz.prog K #[.int .i64 x] W fun e w' => e = .returned (.bool (p x)) ∧ W = w') ∧
  ∀ (x : Int) (W : World), Sem.run Tryz.prog (callFunc K #[.int .i64 x]) W = .ok (.enter K #[.int .i64 x]) W

set_option maxHeartbeats 400000 in
theorem index_any (K : Nat) (p : Int → Bool) (hK : Looks K p) (a : Option Addr) (n c : Nat) (f : Nat → Int) (w : World) (hf : Row w a n f) (hn : n ≤ 1152921504606846976) :
    Calls Tryz.prog 74 #[.slice a n c, .func (.func K) #[] #[]] w fun e w' => ∃ r : Int, e = .returned (.int .i64 r) ∧ (0 ≤ r ↔ SomeIn n f p) ∧ w = w' := by
  obtain ⟨hK1, hC⟩ := hK
  have HK := Lib.hid hK1
  clear hK1
  go_enter Tryz.func74, Tryz.ntmps74
  go_wp2
  go_loop [8] (fun i => ∃ k : Nat, i = .int .i64 k ∧ k ≤ n ∧ ¬ SomeIn k f p) (fun i => n - (intOf i).toNat)
  case atStart => exact ⟨0, rfl, Nat.zero_le _, fun ⟨j, hj, _⟩ => absurd hj (by omega)⟩
  case round =>
    obtain ⟨k, rfl, hk, hall⟩ := hrel
    have HA := Lib.hid hall
    clear hall
    by_cases hlt : k < n
    · obtain ⟨b, off, x, rfl, hb, hc, hx⟩ := hf.at_ hlt
      by_cases hp : p x = true
      · go_wp2_with (with_reducible refine (HK.out _ _).mono ?_; rintro e w' ⟨rfl, rfl⟩)
        go_ret
        refine ⟨_, rfl, ⟨fun _ => ⟨k, hlt, by rw [← hx.out]; exact hp⟩, fun _ => by omega⟩, rfl⟩
      · have hp' : p x = false := by simpa using hp
        clear hp
        go_wp2_with (with_reducible refine (HK.out _ _).mono ?_; rintro e w' ⟨rfl, rfl⟩)
        go_round
        case rel =>
          refine ⟨k + 1, by go_num, by omega, ?_⟩
          rintro ⟨j, hj, hpj⟩
          rcases Nat.lt_succ_iff_lt_or_eq.1 hj with h | h
          · exact HA.out ⟨j, h, hpj⟩
          · subst h
            rw [← hx.out, hp'] at hpj
            cases hpj
        case measure => simp [intOf]; omega
    · obtain rfl : k = n := by omega
      go_wp2
      go_ret
      exact ⟨_, rfl, ⟨fun h => by omega, fun h => absurd h HA.out⟩, rfl⟩

set_option maxHeartbeats 400000 in
theorem contains_any (K : Nat) (p : Int → Bool) (hK : Looks K p) (a : Option Addr) (n c : Nat) (f : Nat → Int) (w : World) (hf : Row w a n f) (hn : n ≤ 1152921504606846976) :
    Calls Tryz.prog 48 #[.slice a n c, .func (.func K) #[] #[]] w fun e w' => e = .returned (.bool (someIn n f p)) ∧ w = w' := by
  go_enter Tryz.func48, Tryz.ntmps48
  go_wp2_with fail
  refine (index_any K p hK a n c f _ hf hn).mono ?_
  rintro e w' ⟨r, rfl, hr, rfl⟩
  have HR := Lib.hid hr
  clear hr
  go_wp2
  go_ret
  refine ⟨ret_bool_iff ?_, rfl⟩
  rw [someIn_iff, ← HR.out]
  simp
end Go.Proofs.YtgmljgcmfooniaaGreatDoor
/- Curve -/
namespace Go.Tide
theorem fit_bounds (a : Int) : 0 ≤ fit a ∧ fit a ≤ 1152921504606846976 := by simp only [fit]; omega
theorem plus_bounds (a b : Int) : 0 ≤ plus a b ∧ plus a b ≤ 1152921504606846976 := by have := fit_bounds a; have := fit_bounds b; simp only [plus]; omega
theorem fit_of {a : Int} (h0 : 0 ≤ a) (h1 : a ≤ 1152921504606846976) : fit a = a := by simp only [fit]; omega
/-- Sums: nothing at first, then what has come up to each tick. -/
def ofRow (f : Nat → Int) : Nat → Int
  | 0 => 0
  | k + 1 => plus (ofRow f k) (f k)
/-- What curve.Within asks. -/
def CWithin (n m : Nat) (f g : Nat → Int) : Prop := ∀ t, t < n → t < m → fit (f t) ≤ fit (g t)
end Go.Tide
namespace Go.Proofs.YtgmljgcmfooniaaGreatDoor
open Go.RowKit Go.Tide

end Go.Proofs.YtgmljgcmfooniaaGreatDoor
/- MpLaw -/
namespace Go.Tide
/-- Least sums, up to some tick of the first. -/
def convTo (f g : Nat → Int) (t : Nat) : Nat → Int
  | 0 => 1152921504606846976
  | s + 1 => min (convTo f g t s) (plus (f s) (g (t - s)))
def conv (f g : Nat → Int) (t : Nat) : Int := convTo f g t (t + 1)
theorem convTo_le (f g : Nat → Int) (t : Nat) : ∀ n s, s < n → convTo f g t n ≤ plus (f s) (g (t - s)) := by
  intro n
  induction n with
  | zero => intro s hs; omega
  | succ n ih =>
    intro s hs
    simp only [convTo]
    rcases Nat.lt_succ_iff_lt_or_eq.1 hs with h | h
    · have := ih s h; omega
    · subst h; omega
theorem convTo_at (f g : Nat → Int) (t : Nat) : ∀ n, 0 < n → ∃ s, s < n ∧ convTo f g t n = plus (f s) (g (t - s)) := by
  intro n
  induction n with
  | zero => intro h; omega
  | succ n ih =>
    intro _
    have hb := plus_bounds (f n) (g (t - n))
    simp only [convTo]
    by_cases hn : 0 < n
    · obtain ⟨s, hs, e⟩ := ih hn
      by_cases hc : convTo f g t n ≤ plus (f n) (g (t - n))
      · exact ⟨s, by omega, by rw [← e]; omega⟩
      · exact ⟨n, by omega, by omega⟩
    · obtain rfl : n = 0 := by omega
      exact ⟨0, by omega, by simp only [convTo]; omega⟩
theorem conv_le (f g : Nat → Int) {t s : Nat} (h : s ≤ t) : conv f g t ≤ plus (f s) (g (t - s)) := convTo_le f g t (t + 1) s (by omega)
theorem conv_le' (f g : Nat → Int) (s r : Nat) : conv f g (s + r) ≤ plus (f s) (g r) := by
  have := conv_le f g (t := s + r) (s := s) (by omega)
  rwa [Nat.add_sub_cancel_left] at this
theorem conv_at (f g : Nat → Int) (t : Nat) : ∃ s r, s + r = t ∧ conv f g t = plus (f s) (g r) := by
  obtain ⟨s, hs, e⟩ := convTo_at f g t (t + 1) (by omega)
  exact ⟨s, t - s, by omega, e⟩
theorem conv_bounds (f g : Nat → Int) (t : Nat) : 0 ≤ conv f g t ∧ conv f g t ≤ 1152921504606846976 := by
  obtain ⟨s, r, _, e⟩ := conv_at f g t
  rw [e]
  exact plus_bounds _ _
theorem fit_conv (f g : Nat → Int) (t : Nat) : fit (conv f g t) = conv f g t := fit_of (conv_bounds f g t).1 (conv_bounds f g t).2
/-- What minplus.Parts asks. -/
def Parts (n : Nat) (f : Nat → Int) : Prop := n = 0 ∨ fit (f 0) = 0 ∧ CWithin n n f (conv f f)
theorem Parts.le {n : Nat} {f : Nat → Int} (h : Parts n f) {s r : Nat} (hk : s + r < n) : fit (f (s + r)) ≤ plus (f s) (f r) := by
  rcases h with h | ⟨_, h⟩
  · omega
  · have := h (s + r) hk hk
    rw [fit_conv] at this
    exact Int.le_trans this (conv_le' f f s r)
theorem Parts.of {n : Nat} {f : Nat → Int} (h0 : fit (f 0) = 0) (h : ∀ s r, s + r < n → fit (f (s + r)) ≤ plus (f s) (f r)) : Parts n f := by
  refine .inr ⟨h0, fun t ht _ => ?_⟩
  rw [fit_conv]
  obtain ⟨s, r, hs, e⟩ := conv_at f f t
  rw [e, ← hs]
  exact h s r (by omega)
end Go.Tide
/- BkLaw -/
namespace Go.Tide
/-- The sum of the first k. -/
def isum (x : Nat → Int) : Nat → Int
  | 0 => 0
  | k + 1 => isum x k + x k
theorem isum_bounds {n : Nat} {x : Nat → Int} {M : Int} (h : AllIn n x 0 M) : ∀ k, k ≤ n → 0 ≤ isum x k ∧ isum x k ≤ (k : Int) * M := by
  intro k
  induction k with
  | zero => intro _; simp only [isum]; omega
  | succ k ih =>
    intro hk
    have h1 := ih (by omega)
    have h2 := h k (by omega)
    simp only [isum]
    rw [Int.natCast_add, Int.add_mul]
    omega
/-- Rows that may be: shorter than MaxLength, from 0 to Most. -/
def Small (n : Nat) (x : Nat → Int) : Prop := n < 300 ∧ AllIn n x 0 1099511627776
theorem Small.sum {n : Nat} {x : Nat → Int} (h : Small n x) : ∀ k, k ≤ n → 0 ≤ isum x k ∧ isum x k ≤ 329853488332800 := by
  intro k hk
  have h1 := isum_bounds h.2 k hk
  have h2 := h.1
  omega
theorem Small.of {n : Nat} {x : Nat → Int} (h : Small n x) : ∀ k, k ≤ n → ofRow x k = isum x k := by
  intro k
  induction k with
  | zero => intro _; rfl
  | succ k ih =>
    intro hk
    have h1 := h.sum k (by omega)
    have h2 := h.2 k (by omega)
    show plus (ofRow x k) (x k) = isum x k + x k
    rw [ih (by omega)]
    simp only [plus, fit]
    omega

section
variable (r B : Int) (x : Nat → Int)
/-- The store, and what waits. -/
def bkState : Nat → Int × Int
  | 0 => (B, 0)
  | k + 1 => (min ((bkState k).1 - min ((bkState k).2 + x k) (bkState k).1 + r) B, (bkState k).2 + x k - min ((bkState k).2 + x k) (bkState k).1)
def bkNow (k : Nat) : Int := min ((bkState r B x k).2 + x k) (bkState r B x k).1
end

section
variable {r B : Int} {x : Nat → Int} {n : Nat}
/-- What the bucket keeps: its store from 0 to the burst, and what waits not below 0. -/
theorem bk_state (hr : 0 ≤ r) (hB : 0 ≤ B) (hx : ∀ k, k < n → 0 ≤ x k) : ∀ k, k ≤ n → 0 ≤ (bkState r B x k).1 ∧ (bkState r B x k).1 ≤ B ∧ 0 ≤ (bkState r B x k).2 := by
  intro k
  induction k with
  | zero => intro _; simp only [bkState]; omega
  | succ k ih =>
    intro hk
    have h1 := ih (by omega)
    have h2 := hx k (by omega)
    simp only [bkState]
    omega
theorem bk_waits (k : Nat) : (bkState r B x k).2 = isum x k - isum (bkNow r B x) k := by
  induction k with
  | zero => rfl
  | succ k ih =>
    have h2 : bkNow r B x k = min ((bkState r B x k).2 + x k) (bkState r B x k).1 := rfl
    simp only [bkState, isum]
    omega
theorem bk_now_bounds (hr : 0 ≤ r) (hB : 0 ≤ B) (hx : ∀ k, k < n → 0 ≤ x k) : ∀ k, k < n → 0 ≤ bkNow r B x k ∧ bkNow r B x k ≤ B := by
  intro k hk
  have h1 := bk_state hr hB hx k (by omega)
  have h2 := hx k hk
  unfold bkNow
  omega
end
section
variable {r B r' B' : Int} {x : Nat → Int} {n : Nat}
end
end Go.Tide
/- QuLaw -/
namespace Go.Tide
section
variable (R M : Int) (x : Nat → Int)
/-- What waits ahead of tick k. -/
def quWait : Nat → Int
  | 0 => 0
  | k + 1 => quWait k + x k - min (quWait k + x k) R - max (quWait k + x k - min (quWait k + x k) R - M) 0
def quWent (k : Nat) : Int := min (quWait R M x k + x k) R
def quLost (k : Nat) : Int := max (quWait R M x k + x k - quWent R M x k - M) 0
end
section
variable {R M : Int} {x : Nat → Int} {n : Nat}
theorem qu_succ (k : Nat) : quWait R M x (k + 1) = quWait R M x k + x k - quWent R M x k - quLost R M x k := rfl
theorem qu_state (hR : 0 ≤ R) (hM : 0 ≤ M) (hx : ∀ k, k < n → 0 ≤ x k) : ∀ k, k ≤ n → 0 ≤ quWait R M x k ∧ quWait R M x k ≤ M := by
  intro k
  induction k with
  | zero => intro _; simp only [quWait]; omega
  | succ k ih =>
    intro hk
    have h1 := ih (by omega)
    have h2 := hx k (by omega)
    simp only [quWait]
    omega
end
end Go.Tide
/- Bucket -/
namespace Go.Tide
/-- What bucket.small asks. -/
def smallB (x : Int) : Bool := decide (0 ≤ x) && decide (x ≤ 1099511627776)
theorem smallB_iff {x : Int} : smallB x = true ↔ 0 ≤ x ∧ x ≤ 1099511627776 := by simp [smallB]
/-- What bucket.Right asks. -/
def BRight (r B : Int) (n : Nat) (x : Nat → Int) : Prop := (0 ≤ r ∧ r ≤ 1099511627776) ∧ (0 ≤ B ∧ B ≤ 1099511627776) ∧ Small n x
noncomputable def bRight (r B : Int) (n : Nat) (x : Nat → Int) : Bool := @decide (BRight r B n x) (Classical.propDecidable _)
theorem bRight_iff {r B : Int} {n : Nat} {x : Nat → Int} : bRight r B n x = true ↔ BRight r B n x := by simp [bRight]
theorem Small.zero (n : Nat) (hn : n < 300) : Small n (fun _ => 0) := ⟨hn, fun k _ => by simp⟩
theorem bRight_false {r B : Int} {n : Nat} {x : Nat → Int} (h : ¬ BRight r B n x) : bRight r B n x = false := by simp [bRight, h]
theorem Small.nil (x : Nat → Int) : Small 0 x := ⟨by omega, fun k hk => by omega⟩
end Go.Tide
namespace Go
theorem More.cell {w w' : World} {b i : Nat} (h : More w w') (hb : b < w.heap.size) : w'.cell? ⟨b, i, none⟩ = w.cell? ⟨b, i, none⟩ := by
  obtain ⟨os, n, rfl⟩ := h
  exact World.cell?_more w os n b i hb
/-- What a struct of two numbers keeps. -/
theorem More.two {w w' : World} {b : Nat} {u v : Value} (hg : b < w.heap.size) (h0 : w.cell? ⟨b, 0, none⟩ = some u) (h1 : w.cell? ⟨b, 1, none⟩ = some v) (h : More w w') :
    w'.cell? ⟨b, 0, none⟩ = some u ∧ w'.cell? ⟨b, 1, none⟩ = some v ∧ More w w' := ⟨(h.cell hg).trans h0, (h.cell hg).trans h1, h⟩
end Go
namespace Go.Proofs.YtgmljgcmfooniaaGreatDoor
open Go.RowKit Go.Tide
set_option maxRecDepth 20000

theorem bsmall_any (x : Int) (w : World) : Calls Tryz.prog 71 #[.int .i64 x] w fun e w' => e = .returned (.bool (smallB x)) ∧ w = w' := by
  go_enter Tryz.func71, Tryz.ntmps71
  go_wp2
  all_goals
    go_ret
    refine ⟨ret_bool_iff ?_, rfl⟩
    simp only [smallB, Bool.and_eq_true, decide_eq_true_eq, true_iff, iff_true, Bool.true_eq, Bool.false_eq_true, false_iff] <;> omega

theorem bbad_looks : Looks 72 (fun x => !smallB x) := by
  refine ⟨fun x w => ?_, fun _ _ => rfl⟩
  go_enter Tryz.func72, Tryz.ntmps72
  go_wp2_with (go_at_call 71; refine (bsmall_any _ _).mono ?_; rintro e w' ⟨rfl, rfl⟩)
  go_ret
  exact ⟨rfl, rfl⟩

theorem not_bad {n : Nat} {x : Nat → Int} : (!(someIn n x fun x => !smallB x)) = allIn n x 0 1099511627776 := by
  rw [← not_someIn]
  refine congrArg (fun p => !(someIn n x p)) (funext fun y => ?_)
  rw [Bool.eq_iff_iff]
  simp only [smallB, Bool.not_eq_true', Bool.or_eq_true, decide_eq_true_eq, ← Bool.not_eq_true, Bool.and_eq_true]
  omega

set_option maxHeartbeats 400000 in
theorem bright_any (r B : Int) (a : Option Addr) (n c : Nat) (x : Nat → Int) (w : World) (hx : Row w a n x) (hn : n ≤ 1152921504606846976) :
    Calls Tryz.prog 43 #[.agg #[.int .i64 r, .int .i64 B], .slice a n c] w fun e w' => e = .returned (.bool (bRight r B n x)) ∧ More w w' := by
  have hns' := not_bad (n := n) (x := x)
  obtain ⟨s, hs⟩ : ∃ s, Hid (someIn n x (fun x => !smallB x) = s) := ⟨_, rfl⟩
  rw [hs.out] at hns'
  by_cases h1 : smallB r = true
  · by_cases h2 : smallB B = true
    · by_cases h3 : n < 300
      · have hv : bRight r B n x = !s := by
          rw [Bool.eq_iff_iff, bRight_iff, hns', allIn_iff]
          exact ⟨fun h => h.2.2.2, fun h => ⟨smallB_iff.1 h1, smallB_iff.1 h2, h3, h⟩⟩
        have k3 : (n : Int) < 300 := by omega
        have H1 := Lib.hid h1
        have H2 := Lib.hid h2
        have HV := Lib.hid hv
        clear h1 h2 h3 hns' hv
        go_enter Tryz.func43, Tryz.ntmps43
        go_wp2_with fail
        refine (bsmall_any _ _).mono ?_
        rintro e w' ⟨rfl, rfl⟩
        rw [H1.out]
        go_wp2_with fail
        refine (bsmall_any _ _).mono ?_
        rintro e w' ⟨rfl, rfl⟩
        rw [H2.out]
        go_wp2_with fail
        refine (contains_any _ _ bbad_looks a n c x _ (by repeat (first | (with_reducible assumption) | (with_reducible exact Row.nil) | (with_reducible apply Row.drewN) | (with_reducible apply Row.drew) | (with_reducible apply Row.more) | (with_reducible apply Row.alloc))) hn).mono ?_
        rintro e w' ⟨rfl, rfl⟩
        rw [hs.out]
        go_wp2
        go_ret
        exact ⟨ret_bool HV.out.symm, (by repeat (first | (with_reducible exact More.refl _) | (with_reducible refine More.alloc ?_ _) | (with_reducible refine More.more ?_ _ _) | (with_reducible refine More.drewN ?_ _) | (with_reducible refine More.drew ?_)))⟩
      · have hv : bRight r B n x = false := bRight_false fun h => h3 h.2.2.1
        have k3 : decide ((n : Int) < 300) = false := by simp; omega
        have k4 : decide (n < 300) = false := by simp; omega
        have H1 := Lib.hid h1
        have H2 := Lib.hid h2
        have HV := Lib.hid hv
        clear h1 h2 h3 hns' hv hn hx hs
        go_enter Tryz.func43, Tryz.ntmps43
        go_wp2_with fail
        refine (bsmall_any _ _).mono ?_
        rintro e w' ⟨rfl, rfl⟩
        rw [H1.out]
        go_wp2_with fail
        refine (bsmall_any _ _).mono ?_
        rintro e w' ⟨rfl, rfl⟩
        rw [H2.out]
        go_wp2_with fail
        go_ret
        exact ⟨ret_bool HV.out.symm, (by repeat (first | (with_reducible exact More.refl _) | (with_reducible refine More.alloc ?_ _) | (with_reducible refine More.more ?_ _ _) | (with_reducible refine More.drewN ?_ _) | (with_reducible refine More.drew ?_)))⟩
    · have hv : bRight r B n x = false := bRight_false fun h => h2 (smallB_iff.2 h.2.1)
      have h2' : smallB B = false := by simpa using h2
      have H1 := Lib.hid h1
      have H2 := Lib.hid h2'
      have HV := Lib.hid hv
      clear h1 h2 h2' hns' hv
      go_enter Tryz.func43, Tryz.ntmps43
      go_wp2_with fail
      refine (bsmall_any _ _).mono ?_
      rintro e w' ⟨rfl, rfl⟩
      rw [H1.out]
      go_wp2_with fail
      refine (bsmall_any _ _).mono ?_
      rintro e w' ⟨rfl, rfl⟩
      rw [H2.out]
      go_wp2_with fail
      go_ret
      exact ⟨ret_bool HV.out.symm, (by repeat (first | (with_reducible exact More.refl _) | (with_reducible refine More.alloc ?_ _) | (with_reducible refine More.more ?_ _ _) | (with_reducible refine More.drewN ?_ _) | (with_reducible refine More.drew ?_)))⟩
  · have hv : bRight r B n x = false := bRight_false fun h => h1 (smallB_iff.2 h.1)
    have h1' : smallB r = false := by simpa using h1
    have H1 := Lib.hid h1'
    have HV := Lib.hid hv
    clear h1 h1' hns' hv
    go_enter Tryz.func43, Tryz.ntmps43
    go_wp2_with fail
    refine (bsmall_any _ _).mono ?_
    rintro e w' ⟨rfl, rfl⟩
    rw [H1.out]
    go_wp2_with fail
    go_ret
    exact ⟨ret_bool HV.out.symm, (by repeat (first | (with_reducible exact More.refl _) | (with_reducible refine More.alloc ?_ _) | (with_reducible refine More.more ?_ _ _) | (with_reducible refine More.drewN ?_ _) | (with_reducible refine More.drew ?_)))⟩

set_option maxHeartbeats 1000000 in
theorem bpass_any (r B : Int) (a : Option Addr) (n c : Nat) (x : Nat → Int) (w : World) (hx : Row w a n x) (h : BRight r B n x) :
    Calls Tryz.prog 32 #[.agg #[.int .i64 r, .int .i64 B], .slice a n c] w fun e w' => ∃ a' c', e = .returned (.slice a' n c') ∧ n ≤ c' ∧ Row w' a' n (bkNow r B x) ∧ Below w.heap.size w w' := by
  have E := Lib.hid (bRight_iff.2 h)
  obtain ⟨hr, hB, hn, hall⟩ := h
  have HA := Lib.hid hall
  clear hall
  obtain ⟨i0, hi, hz0, hz1, hz2⟩ := info_parts intInfo
  go_enter Tryz.func32, Tryz.ntmps32
  go_wp2_with fail
  refine (bright_any r B a n c x _ (by repeat (first | (with_reducible assumption) | (with_reducible exact Row.nil) | (with_reducible apply Row.drewN) | (with_reducible apply Row.drew) | (with_reducible apply Row.more) | (with_reducible apply Row.alloc))) (by omega)).mono ?_
  rintro e w1 ⟨rfl, os, d, rfl⟩
  rw [E.out]
  go_wp2_with fail
  have hb : Blk ((w.alloc (.cells #[.int .i64 r, .int .i64 B] 69)).more os d) w.heap.size 69 #[.int .i64 r, .int .i64 B] := (by repeat (first | (with_reducible assumption) | ((with_reducible refine Blk.new' ?_); (simp [Nat.add_assoc]; done)) | (with_reducible refine Blk.alloc ?_ _) | (with_reducible refine Blk.more ?_ _ _) | (with_reducible refine Blk.drew ?_) | (with_reducible refine Blk.drewN ?_ _)))
  have hm : More w ((w.alloc (.cells #[.int .i64 r, .int .i64 B] 69)).more os d) := (by repeat (first | (with_reducible exact More.refl _) | (with_reducible refine More.alloc ?_ _) | (with_reducible refine More.more ?_ _ _) | (with_reducible refine More.drewN ?_ _) | (with_reducible refine More.drew ?_)))
  have hg := hb.lt
  have hc0 := hb.cell 0
  have hc1 := hb.cell 1
  have hs0 := hm.below.size
  have hx1 : Row ((w.alloc (.cells #[.int .i64 r, .int .i64 B] 69)).more os d) a n x := (by repeat (first | (with_reducible assumption) | (with_reducible exact Row.nil) | (with_reducible apply Row.drewN) | (with_reducible apply Row.drew) | (with_reducible apply Row.more) | (with_reducible apply Row.alloc)))
  generalize ((w.alloc (.cells #[.int .i64 r, .int .i64 B] 69)).more os d) = wb at *
  go_loopw [7, 5, 6, 19] (fun wt out tk i wr => ∃ k : Nat, i = .int .i64 k ∧ k ≤ n ∧ wt = .int .i64 (bkState r B x k).2 ∧ tk = .int .i64 (bkState r B x k).1 ∧ wr.ownsRow wb.heap.size 3 1 out k (cellsOf k (bkNow r B x)) ∧ Below wb.heap.size wb wr) (fun _ _ _ i _ => n - (intOf i).toNat)
  case atStart => exact ⟨0, rfl, Nat.zero_le _, rfl, rfl, World.ownsRow_nil _ _ _ _, Below.refl _ _⟩
  case round =>
    obtain ⟨k, rfl, hk, rfl, rfl, hown, hbe⟩ := hrel
    have hsz := hbe.size
    have e0 : wr.cell? ⟨w.heap.size, 0, none⟩ = some (.int .i64 r) := (hbe.cell (p := ⟨w.heap.size, 0, none⟩) hg).trans hc0
    have e1 : wr.cell? ⟨w.heap.size, 1, none⟩ = some (.int .i64 B) := (hbe.cell (p := ⟨w.heap.size, 1, none⟩) hg).trans hc1
    by_cases hlt : k < n
    · obtain ⟨b1, o1, xv, rfl, hb1, hcx, hxv⟩ := (hx1.below hbe (Nat.le_refl _)).at_ hlt
      have hx0 : 0 ≤ xv ∧ xv ≤ 1099511627776 := by rw [hxv.out]; exact HA.out k hlt
      have hst := bk_state hr.1 hB.1 (n := n) (x := x) (fun k hk => (HA.out k hk).1) k hk
      have hsu := (Small.sum (n := n) (x := x) ⟨hn, HA.out⟩) k hk
      have hnb := isum_bounds (n := n) (x := bkNow r B x) (M := 1099511627776) (fun k hk => by have := bk_now_bounds hr.1 hB.1 (fun k hk => (HA.out k hk).1) k hk; omega) k hk
      have hww := bk_waits (r := r) (B := B) (x := x) k
      have hW : 0 ≤ (bkState r B x k).2 ∧ (bkState r B x k).2 ≤ 329853488332800 := by omega
      have H1 : Hid ((bkState r B x (k + 1)).1 = min ((bkState r B x k).1 - min ((bkState r B x k).2 + xv) (bkState r B x k).1 + r) B) := by rw [hxv.out]; rfl
      have H2 : Hid ((bkState r B x (k + 1)).2 = (bkState r B x k).2 + xv - min ((bkState r B x k).2 + xv) (bkState r B x k).1) := by rw [hxv.out]; rfl
      have H3 : Hid (bkNow r B x k = min ((bkState r B x k).2 + xv) (bkState r B x k).1) := by rw [hxv.out]; rfl
      clear hww hnb hsu
      generalize (bkState r B x k).1 = T at *
      generalize (bkState r B x k).2 = W at *
      obtain ⟨hT0, hT1, _⟩ := hst
      have hmn : (if T < W + xv then T else W + xv) = min (W + xv) T := by omega
      have kw : IntKind.i64.wrap (W + xv) = W + xv := IntWalk.i64_in _ (by omega)
      go_wp2_with ((at_builtin; refine wpList_append_own _ rfl _ _ 49 rfl _ 3 i0 (.int .i64 0) 1 8 Tryz.underlying49 hi hz0 hz1 hz2 rfl (by decide) _ _ _ rfl (hown.alloc _) _ _ _ [.int .i64 _] rfl rfl (cell_one _ _ _) (oneCell_int _ _) (by simp only [maxLen]; omega) (by omega) (by simp; omega) ?_; intro v' w1 hown' hgrow hnil; clear hnil); have hbe' := below_append hbe hsz hown hgrow; have e2 : w1.cell? ⟨w.heap.size, 0, none⟩ = some (.int .i64 r) := (hbe'.cell (p := ⟨w.heap.size, 0, none⟩) hg).trans hc0; have e3 : w1.cell? ⟨w.heap.size, 1, none⟩ = some (.int .i64 B) := (hbe'.cell (p := ⟨w.heap.size, 1, none⟩) hg).trans hc1)
      all_goals
        go_roundw
        case rel => exact ⟨k + 1, by go_num, by omega, by rw [H2.out], by rw [H1.out] <;> (congr 1; omega), by rw [cellsOf_succ, H3.out]; exact hown', below_append hbe hsz hown hgrow⟩
        case measure => simp [intOf]; omega
    · obtain rfl : k = n := by omega
      obtain ⟨a', c', hv, hc'⟩ := own_slice hown
      subst hv
      go_wp2
      go_ret
      exact ⟨a', c', rfl, hc', Row.of_own hown, hm.below.trans (hbe.mono hs0)⟩

end Go.Proofs.YtgmljgcmfooniaaGreatDoor
/- BdLaw -/
namespace Go.Tide
section
variable {R M : Int} {x : Nat → Int} {n : Nat}
end

section
variable {R r B : Int} {x : Nat → Int} {n : Nat}
end
end Go.Tide
/- Queue -/
namespace Go
theorem grown_put (w : World) (g i : Nat) (v : Value) : w.grownBy (w.setCell ⟨g, i, none⟩ v) (some g) :=
  ⟨rfl, rfl, rfl, by simp, fun k _ hk => RowKit.Below.heap_setCell w ⟨g, i, none⟩ v k (fun e => hk (by subst e; rfl))⟩
end Go
namespace Go.Proofs.YtgmljgcmfooniaaGreatDoor
open Go.RowKit Go.Tide
set_option maxRecDepth 20000

theorem qright_any (R M : Int) (a : Option Addr) (n c : Nat) (x : Nat → Int) (w : World) (hx : Row w a n x) (hn : n ≤ 1152921504606846976) :
    Calls Tryz.prog 15 #[.int .i64 R, .int .i64 M, .slice a n c] w fun e w' => e = .returned (.bool (bRight R M n x)) ∧ More w w' := by
  go_enter Tryz.func15, Tryz.ntmps15
  go_wp2_with fail
  refine (bright_any R M a n c x _ (by repeat (first | (with_reducible assumption) | (with_reducible exact Row.nil) | (with_reducible apply Row.drewN) | (with_reducible apply Row.drew) | (with_reducible apply Row.more) | (with_reducible apply Row.alloc))) hn).mono ?_
  rintro e w1 ⟨rfl, os, d, rfl⟩
  go_wp2
  go_ret
  exact ⟨rfl, (by repeat (first | (with_reducible exact More.refl _) | (with_reducible refine More.alloc ?_ _) | (with_reducible refine More.more ?_ _ _) | (with_reducible refine More.drewN ?_ _) | (with_reducible refine More.drew ?_)))⟩

set_option maxHeartbeats 400000 in
theorem tick_any (g : Nat) (R M W x : Int) (w : World) (hblk : Blk w g 99 #[.int .i64 R, .int .i64 M, .int .i64 W]) (hR : 0 ≤ R ∧ R ≤ 1099511627776) (hM : 0 ≤ M ∧ M ≤ 1099511627776) (hW : 0 ≤ W ∧ W ≤ M) (hx : 0 ≤ x ∧ x ≤ 1099511627776) :
    Calls Tryz.prog 44 #[.pointer (some ⟨g, 0, none⟩), .int .i64 x] w fun e w' => e = .returned (.tuple #[.int .i64 (min (W + x) R), .int .i64 (max (W + x - min (W + x) R - M) 0)]) ∧
      Blk w' g 99 #[.int .i64 R, .int .i64 M, .int .i64 (W + x - min (W + x) R - max (W + x - min (W + x) R - M) 0)] ∧ w.grownBy w' (some g) ∧ w'.heap.size = w.heap.size := by
  have c0 : w.cell? ⟨g, 0, none⟩ = some (.int .i64 R) := hblk.cell 0
  have c1 : w.cell? ⟨g, 1, none⟩ = some (.int .i64 M) := hblk.cell 1
  have c2 : w.cell? ⟨g, 2, none⟩ = some (.int .i64 W) := hblk.cell 2
  have z2 : w.frozen? ⟨g, 2, none⟩ = false := hblk.frozen 2
  have hlt := hblk.lt
  have kw : IntKind.i64.wrap (W + x) = W + x := IntWalk.i64_in _ (by omega)
  have hmn : (if R < W + x then R else W + x) = min (W + x) R := by omega
  obtain ⟨V, hV⟩ : ∃ V, Hid (min (W + x) R = V) := ⟨_, rfl⟩
  rw [hV.out] at hmn ⊢
  have hVb : 0 ≤ V ∧ V ≤ W + x := by have := hV.out; omega
  have kv : IntKind.i64.wrap (W + x - V) = W + x - V := IntWalk.i64_in _ (by omega)
  obtain ⟨L, hL⟩ : ∃ L, Hid (max (W + x - V - M) 0 = L) := ⟨_, rfl⟩
  rw [hL.out]
  have hLb : 0 ≤ L ∧ L ≤ W + x - V := by have := hL.out; omega
  have km : IntKind.i64.wrap (W + x - V - M) = W + x - V - M := IntWalk.i64_in _ (by omega)
  have kl : IntKind.i64.wrap (W + x - V - L) = W + x - V - L := IntWalk.i64_in _ (by omega)
  have hmx : (if W + x - V - M < 0 then 0 else W + x - V - M) = L := by have := hL.out; omega
  go_enter Tryz.func44, Tryz.ntmps44
  go_wp2
  have hb2 : Blk (w.setCell ⟨g, 2, none⟩ (.int .i64 (W + x))) g 99 #[.int .i64 R, .int .i64 M, .int .i64 (W + x)] := hblk.put 2 _
  have hg2 : w.grownBy (w.setCell ⟨g, 2, none⟩ (.int .i64 (W + x))) (some g) := grown_put w g 2 _
  have hs2 : (w.setCell ⟨g, 2, none⟩ (.int .i64 (W + x))).heap.size = w.heap.size := by simp
  generalize w.setCell ⟨g, 2, none⟩ (.int .i64 (W + x)) = wa at *
  have c0' : wa.cell? ⟨g, 0, none⟩ = some (.int .i64 R) := hb2.cell 0
  have c1' : wa.cell? ⟨g, 1, none⟩ = some (.int .i64 M) := hb2.cell 1
  have c2' : wa.cell? ⟨g, 2, none⟩ = some (.int .i64 (W + x)) := hb2.cell 2
  have z2' : wa.frozen? ⟨g, 2, none⟩ = false := hb2.frozen 2
  have hlt' := hb2.lt
  go_quiet (fail)
  go_wp2
  have hb3 : Blk (wa.setCell ⟨g, 2, none⟩ (.int .i64 (W + x - V))) g 99 #[.int .i64 R, .int .i64 M, .int .i64 (W + x - V)] := hb2.put 2 _
  have hg3 : w.grownBy (wa.setCell ⟨g, 2, none⟩ (.int .i64 (W + x - V))) (some g) := hg2.trans (grown_put wa g 2 _)
  have hs3 : (wa.setCell ⟨g, 2, none⟩ (.int .i64 (W + x - V))).heap.size = w.heap.size := by simp [hs2]
  clear c0 c1 c2 z2 c0' c1' c2' z2' hlt' hb2 hg2
  generalize wa.setCell ⟨g, 2, none⟩ (.int .i64 (W + x - V)) = wc at *
  have c0' : wc.cell? ⟨g, 0, none⟩ = some (.int .i64 R) := hb3.cell 0
  have c1' : wc.cell? ⟨g, 1, none⟩ = some (.int .i64 M) := hb3.cell 1
  have c2' : wc.cell? ⟨g, 2, none⟩ = some (.int .i64 (W + x - V)) := hb3.cell 2
  have z2' : wc.frozen? ⟨g, 2, none⟩ = false := hb3.frozen 2
  have hlt' := hb3.lt
  go_quiet (fail)
  go_wp2
  have hb4 : Blk (wc.setCell ⟨g, 2, none⟩ (.int .i64 (W + x - V - L))) g 99 #[.int .i64 R, .int .i64 M, .int .i64 (W + x - V - L)] := hb3.put 2 _
  have hg4 : w.grownBy (wc.setCell ⟨g, 2, none⟩ (.int .i64 (W + x - V - L))) (some g) := hg3.trans (grown_put wc g 2 _)
  have hs4 : (wc.setCell ⟨g, 2, none⟩ (.int .i64 (W + x - V - L))).heap.size = w.heap.size := by simp [hs3]
  generalize wc.setCell ⟨g, 2, none⟩ (.int .i64 (W + x - V - L)) = wd at *
  exact bodyPost_ret (v := .tuple #[.int .i64 V, .int .i64 L]) (by simp [results, Tryz.results44, go_sem]) rfl ⟨rfl, hb4, ⟨hg4.os, hg4.tape, hg4.output, hg4.size, hg4.block⟩, hs4⟩

end Go.Proofs.YtgmljgcmfooniaaGreatDoor
/- Play -/
namespace Go
theorem apart_symm {a b : Option Nat} (h : a = none ∨ a ≠ b) : b = none ∨ b ≠ a := by
  rcases h with h | h
  · subst h; cases b with
    | none => exact .inl rfl
    | some b => exact .inr (by simp)
  · exact .inr (fun e => h e.symm)
theorem apart_new {vi vj : Option Nat} {gi H G S : Nat} (ap : vi = none ∨ vi ≠ vj) (hat : vi = some gi ∨ gi = H) (nb : ∀ i, (i < G ∨ S ≤ i) → some i ≠ vj) (hS : S ≤ H) : some gi = none ∨ some gi ≠ vj := by
  right
  intro e
  rcases hat with h | h
  · rcases ap with h' | h'
    · rw [h'] at h; cases h
    · exact h' (h.trans e)
  · exact nb gi (.inr (by omega)) e
theorem gg_ne {v : Option Nat} {gi gj H : Nat} (n : some gi = none ∨ some gi ≠ v) (hat : v = some gj ∨ gj = H) (hlt : gi < H) : gi ≠ gj := by
  rintro rfl
  rcases hat with h | h
  · rcases n with n | n
    · cases n
    · exact n h.symm
  · omega
end Go
namespace Go.Proofs.YtgmljgcmfooniaaGreatDoor
open Go.RowKit Go.Tide
set_option maxRecDepth 20000

set_option maxHeartbeats 1000000 in
theorem play_any (R M : Int) (a : Option Addr) (n c : Nat) (x : Nat → Int) (w : World) (hx : Row w a n x) (h : BRight R M n x) :
    Calls Tryz.prog 16 #[.int .i64 R, .int .i64 M, .slice a n c] w fun e w' => ∃ a1 c1 a2 c2 a3 c3, e = .returned (.tuple #[.slice a1 n c1, .slice a2 n c2, .slice a3 n c3]) ∧ (n ≤ c1 ∧ n ≤ c2 ∧ n ≤ c3) ∧
      (Row w' a1 n (quWent R M x) ∧ Row w' a2 n (quLost R M x) ∧ Row w' a3 n (fun k => quWait R M x (k + 1))) ∧ Below w.heap.size w w' := by
  have E := Lib.hid (bRight_iff.2 h)
  obtain ⟨hR, hM, hn, hall⟩ := h
  have HA := Lib.hid hall
  clear hall
  obtain ⟨i0, hi, hz0, hz1, hz2⟩ := info_parts intInfo
  go_enter Tryz.func16, Tryz.ntmps16
  go_wp2_with fail
  refine (qright_any R M a n c x _ (by repeat (first | (with_reducible assumption) | (with_reducible exact Row.nil) | (with_reducible apply Row.drewN) | (with_reducible apply Row.drew) | (with_reducible apply Row.more) | (with_reducible apply Row.alloc))) (by omega)).mono ?_
  rintro e w1 ⟨rfl, os, d, rfl⟩
  rw [E.out]
  go_wp2_with fail
  have hmW : More w ((w.more os d).alloc (.cells #[.int .i64 R, .int .i64 M, .int .i64 0] 99)) := (by repeat (first | (with_reducible exact More.refl _) | (with_reducible refine More.alloc ?_ _) | (with_reducible refine More.more ?_ _ _) | (with_reducible refine More.drewN ?_ _) | (with_reducible refine More.drew ?_)))
  have hbW : Blk ((w.more os d).alloc (.cells #[.int .i64 R, .int .i64 M, .int .i64 0] 99)) (w.heap.size + os.size) 99 #[.int .i64 R, .int .i64 M, .int .i64 0] := (by repeat (first | (with_reducible assumption) | ((with_reducible refine Blk.new' ?_); (simp [Nat.add_assoc]; done)) | (with_reducible refine Blk.alloc ?_ _) | (with_reducible refine Blk.more ?_ _ _) | (with_reducible refine Blk.drew ?_) | (with_reducible refine Blk.drewN ?_ _)))
  have hsW : ((w.more os d).alloc (.cells #[.int .i64 R, .int .i64 M, .int .i64 0] 99)).heap.size = w.heap.size + os.size + 1 := by simp
  have hgW : w.heap.size ≤ w.heap.size + os.size := by omega
  have hbelW := hmW.below
  clear hmW
  generalize ((w.more os d).alloc (.cells #[.int .i64 R, .int .i64 M, .int .i64 0] 99)) = wq at *
  generalize w.heap.size + os.size = g at *
  have hbW' : Blk wq g 99 #[.int .i64 R, .int .i64 M, .int .i64 (quWait R M x 0)] := hbW
  go_loopw [6, 7, 8, 25] (fun u6 u7 u8 i wr => ∃ k : Nat, i = .int .i64 k ∧ k ≤ n ∧ (wr.ownsRow (g + 1) 3 1 u6 k (cellsOf k (quWent R M x)) ∧ wr.ownsRow (g + 1) 3 1 u7 k (cellsOf k (quLost R M x)) ∧ wr.ownsRow (g + 1) 3 1 u8 k (cellsOf k (fun k => quWait R M x (k + 1)))) ∧
    ((u6.ownBlock = none ∨ u6.ownBlock ≠ u7.ownBlock) ∧ (u6.ownBlock = none ∨ u6.ownBlock ≠ u8.ownBlock) ∧ (u7.ownBlock = none ∨ u7.ownBlock ≠ u8.ownBlock)) ∧ Blk wr g 99 #[.int .i64 R, .int .i64 M, .int .i64 (quWait R M x k)] ∧ Below w.heap.size w wr) (fun _ _ _ i _ => n - (intOf i).toNat)
  case atStart => exact ⟨0, rfl, Nat.zero_le _, ⟨World.ownsRow_nil _ _ _ _, World.ownsRow_nil _ _ _ _, World.ownsRow_nil _ _ _ _⟩, ⟨.inl rfl, .inl rfl, .inl rfl⟩, hbW', hbelW⟩
  case round =>

    obtain ⟨k, rfl, hk, ⟨hw1, hw2, hw3⟩, ⟨ap12, ap13, ap23⟩, hblk, hbe⟩ := hrel
    by_cases hlt : k < n
    · obtain ⟨b1, off1, xv, rfl, hb1, hcx, hxv⟩ := (hx.below hbe (Nat.le_refl _)).at_ hlt
      have hx0 : 0 ≤ xv ∧ xv ≤ 1099511627776 := by rw [hxv.out]; exact HA.out k hlt
      have hst := qu_state hR.1 hM.1 (n := n) (x := x) (fun k hk => (HA.out k hk).1) k hk
      have T := tick_any g R M (quWait R M x k) xv wr hblk hR hM hst hx0
      have t1 : min (quWait R M x k + xv) R = quWent R M x k := by rw [hxv.out]; rfl
      rw [t1] at T
      have t2 : max (quWait R M x k + xv - quWent R M x k - M) 0 = quLost R M x k := by rw [hxv.out]; rfl
      rw [t2] at T
      have t3 : quWait R M x k + xv - quWent R M x k - quLost R M x k = quWait R M x (k + 1) := by rw [hxv.out, qu_succ]
      rw [t3] at T
      clear t1 t2 t3
      have c1 := cellsOf_succ k (quWent R M x)
      have c2 := cellsOf_succ k (quLost R M x)
      have c3 := cellsOf_succ k (fun k => quWait R M x (k + 1))
      have C1 := Lib.hid c1
      have C2 := Lib.hid c2
      have C3 := Lib.hid c3
      clear c1 c2 c3
      generalize quWent R M x k = V at *
      generalize quLost R M x k = L at *
      obtain ⟨W, HW⟩ : ∃ W, Hid (quWait R M x (k + 1) = W) := ⟨_, rfl⟩
      rw [HW.out] at T C3
      go_wp2_with (refine T.mono ?_; clear T; rintro e w2 ⟨rfl, hb2, hg2, hs2⟩)
      have l1 := hw1.lt
      have l2 := hw2.lt
      have l3 := hw3.lt
      have sep : ∀ (v : Value), (∀ k, v.ownBlock = some k → g + 1 ≤ k ∧ k < wr.heap.size) → v.ownBlock = none ∨ v.ownBlock ≠ some g := fun v h => .inr (fun e => by have := h g e; omega)
      have hw1 : w2.ownsRow (g + 1) 3 1 u6 k _ := hw1.kept hg2 (sep _ l1)
      have hw2 : w2.ownsRow (g + 1) 3 1 u7 k _ := hw2.kept hg2 (sep _ l2)
      have hw3 : w2.ownsRow (g + 1) 3 1 u8 k _ := hw3.kept hg2 (sep _ l3)
      have hbe2 : Below w.heap.size w w2 := hbe.trans ⟨hg2.os, hg2.tape, hg2.output, hg2.size, fun j hj => hg2.block j (by have := hbe.size; omega) (fun e => by injection e with e; omega)⟩
      have ap21 : u7.ownBlock = none ∨ u7.ownBlock ≠ u6.ownBlock := apart_symm ap12
      have ap31 : u8.ownBlock = none ∨ u8.ownBlock ≠ u6.ownBlock := apart_symm ap13
      have ap32 : u8.ownBlock = none ∨ u8.ownBlock ≠ u7.ownBlock := apart_symm ap23
      rw [← hs2] at l1 l2 l3
      have hgl := hb2.lt
      have nb1 : ∀ i, (i < g + 1 ∨ w2.heap.size ≤ i) → some i ≠ u6.ownBlock := fun i hi' e => by have := l1 i e.symm; omega
      have nb2 : ∀ i, (i < g + 1 ∨ w2.heap.size ≤ i) → some i ≠ u7.ownBlock := fun i hi' e => by have := l2 i e.symm; omega
      have nb3 : ∀ i, (i < g + 1 ∨ w2.heap.size ≤ i) → some i ≠ u8.ownBlock := fun i hi' e => by have := l3 i e.symm; omega
      have lb1 : ∀ i, u6.ownBlock = some i → w.heap.size ≤ i := fun i e => by have := l1 i e; omega
      have lb2 : ∀ i, u7.ownBlock = some i → w.heap.size ≤ i := fun i e => by have := l2 i e; omega
      have lb3 : ∀ i, u8.ownBlock = some i → w.heap.size ≤ i := fun i e => by have := l3 i e; omega
      clear hblk hbe hcx sep l1 l2 l3 hs2 hg2 hst
      go_region_held3 (fun w' => w'.cell? ⟨g, 2, none⟩ = some (.int .i64 W)) (exact Blk.cell (t := 99) (cs := #[.int .i64 R, .int .i64 M, .int .i64 W]) (by repeat (first | (with_reducible assumption) | ((with_reducible refine Blk.new' ?_); (simp [Nat.add_assoc]; done)) | (with_reducible refine Blk.alloc ?_ _) | (with_reducible refine Blk.drew ?_) | (with_reducible refine Blk.drewN ?_ _) | (refine Blk.grown ?_ (by assumption) (by first | exact nb1 _ (by first | (left; omega) | (right; (try simp only [World.size_alloc, World.size_drew]); omega)) | exact nb2 _ (by first | (left; omega) | (right; (try simp only [World.size_alloc, World.size_drew]); omega)) | exact nb3 _ (by first | (left; omega) | (right; (try simp only [World.size_alloc, World.size_drew]); omega)))))) 2) (first
        | (refine step_append_lies _ (by rfl) _ _ _ (by rfl) (g + 1) 3 i0 _ 1 8 Tryz.underlying49 hi hz0 hz1 hz2 rfl (by omega) u6 k (cellsOf k (quWent R M x)) (by rfl) (by repeat (first | (with_reducible assumption) | (with_reducible refine World.ownsRow.alloc ?_ _) | (with_reducible refine World.ownsRow.drew ?_) | (with_reducible refine own_drewN ?_ _) | (refine World.ownsRow.kept ?_ (by assumption) (by assumption)))) _ 1 1 [.int .i64 V] (by rfl) (by rfl) (World.news_of_block (cs := #[.int .i64 V]) (t := 3) (fr := (0, 0)) (by show Blk _ _ 3 #[.int .i64 V]; exact (by repeat (first | (with_reducible assumption) | ((with_reducible refine Blk.new' ?_); (simp [Nat.add_assoc]; done)) | (with_reducible refine Blk.alloc ?_ _) | (with_reducible refine Blk.drew ?_) | (with_reducible refine Blk.drewN ?_ _) | (refine Blk.grown ?_ (by assumption) (by first | exact nb1 _ (by first | (left; omega) | (right; (try simp only [World.size_alloc, World.size_drew]); omega)) | exact nb2 _ (by first | (left; omega) | (right; (try simp only [World.size_alloc, World.size_drew]); omega)) | exact nb3 _ (by first | (left; omega) | (right; (try simp only [World.size_alloc, World.size_drew]); omega)))))))) (by simp [Value.oneCell']) (by omega) (by simp only [maxLen]; omega) (by omega) (by (try simp only [World.size_alloc, World.size_drew]); omega) _ rfl ?_; intro gg1 cap1 wA1 hown1 hgrow1 hat1 hlt1; have hsz1 := hgrow1.size; (try simp only [World.size_alloc, World.size_drew] at hsz1); (try simp only [World.size_alloc, World.size_drew] at hat1); have n12 : (Value.slice (some ⟨gg1, 0, none⟩) (k + 1) cap1).ownBlock = none ∨ (Value.slice (some ⟨gg1, 0, none⟩) (k + 1) cap1).ownBlock ≠ u7.ownBlock := apart_new ap12 hat1 nb2 (by omega); have n13 : (Value.slice (some ⟨gg1, 0, none⟩) (k + 1) cap1).ownBlock = none ∨ (Value.slice (some ⟨gg1, 0, none⟩) (k + 1) cap1).ownBlock ≠ u8.ownBlock := apart_new ap13 hat1 nb3 (by omega))
        | (refine step_append_lies _ (by rfl) _ _ _ (by rfl) (g + 1) 3 i0 _ 1 8 Tryz.underlying49 hi hz0 hz1 hz2 rfl (by omega) u7 k (cellsOf k (quLost R M x)) (by rfl) (by repeat (first | (with_reducible assumption) | (with_reducible refine World.ownsRow.alloc ?_ _) | (with_reducible refine World.ownsRow.drew ?_) | (with_reducible refine own_drewN ?_ _) | (refine World.ownsRow.kept ?_ (by assumption) (by assumption)))) _ 1 1 [.int .i64 L] (by rfl) (by rfl) (World.news_of_block (cs := #[.int .i64 L]) (t := 3) (fr := (0, 0)) (by show Blk _ _ 3 #[.int .i64 L]; exact (by repeat (first | (with_reducible assumption) | ((with_reducible refine Blk.new' ?_); (simp [Nat.add_assoc]; done)) | (with_reducible refine Blk.alloc ?_ _) | (with_reducible refine Blk.drew ?_) | (with_reducible refine Blk.drewN ?_ _) | (refine Blk.grown ?_ (by assumption) (by first | exact nb1 _ (by first | (left; omega) | (right; (try simp only [World.size_alloc, World.size_drew]); omega)) | exact nb2 _ (by first | (left; omega) | (right; (try simp only [World.size_alloc, World.size_drew]); omega)) | exact nb3 _ (by first | (left; omega) | (right; (try simp only [World.size_alloc, World.size_drew]); omega)))))))) (by simp [Value.oneCell']) (by omega) (by simp only [maxLen]; omega) (by omega) (by (try simp only [World.size_alloc, World.size_drew]); omega) _ rfl ?_; intro gg2 cap2 wA2 hown2 hgrow2 hat2 hlt2; have hsz2 := hgrow2.size; (try simp only [World.size_alloc, World.size_drew] at hsz2); (try simp only [World.size_alloc, World.size_drew] at hat2); have n23 : (Value.slice (some ⟨gg2, 0, none⟩) (k + 1) cap2).ownBlock = none ∨ (Value.slice (some ⟨gg2, 0, none⟩) (k + 1) cap2).ownBlock ≠ u8.ownBlock := apart_new ap23 hat2 nb3 (by omega); have m12 : gg1 ≠ gg2 := gg_ne n12 hat2 (by omega))
        | (refine step_append_lies _ (by rfl) _ _ _ (by rfl) (g + 1) 3 i0 _ 1 8 Tryz.underlying49 hi hz0 hz1 hz2 rfl (by omega) u8 k (cellsOf k (fun k => quWait R M x (k + 1))) (by rfl) (by repeat (first | (with_reducible assumption) | (with_reducible refine World.ownsRow.alloc ?_ _) | (with_reducible refine World.ownsRow.drew ?_) | (with_reducible refine own_drewN ?_ _) | (refine World.ownsRow.kept ?_ (by assumption) (by assumption)))) _ 1 1 [.int .i64 W] (by rfl) (by rfl) (World.news_of_block (cs := #[.int .i64 W]) (t := 3) (fr := (0, 0)) (by show Blk _ _ 3 #[.int .i64 W]; exact (by repeat (first | (with_reducible assumption) | ((with_reducible refine Blk.new' ?_); (simp [Nat.add_assoc]; done)) | (with_reducible refine Blk.alloc ?_ _) | (with_reducible refine Blk.drew ?_) | (with_reducible refine Blk.drewN ?_ _) | (refine Blk.grown ?_ (by assumption) (by first | exact nb1 _ (by first | (left; omega) | (right; (try simp only [World.size_alloc, World.size_drew]); omega)) | exact nb2 _ (by first | (left; omega) | (right; (try simp only [World.size_alloc, World.size_drew]); omega)) | exact nb3 _ (by first | (left; omega) | (right; (try simp only [World.size_alloc, World.size_drew]); omega)))))))) (by simp [Value.oneCell']) (by omega) (by simp only [maxLen]; omega) (by omega) (by (try simp only [World.size_alloc, World.size_drew]); omega) _ rfl ?_; intro gg3 cap3 wA3 hown3 hgrow3 hat3 hlt3; have hsz3 := hgrow3.size; (try simp only [World.size_alloc, World.size_drew] at hsz3); (try simp only [World.size_alloc, World.size_drew] at hat3); have m13 : gg1 ≠ gg3 := gg_ne n13 hat3 (by omega); have m23 : gg2 ≠ gg3 := gg_ne n23 hat3 (by omega)))
      -- end of the region
      all_goals
        have r1 : wA3.ownsRow (g + 1) 3 1 (.slice (some ⟨gg1, 0, none⟩) (k + 1) cap1) (k + 1) (cellsOf (k + 1) (quWent R M x)) := by rw [C1.out]; exact (by repeat (first | (with_reducible assumption) | (with_reducible refine World.ownsRow.alloc ?_ _) | (with_reducible refine World.ownsRow.drew ?_) | (with_reducible refine own_drewN ?_ _) | (refine World.ownsRow.kept ?_ (by assumption) (by assumption))))
        have r2 : wA3.ownsRow (g + 1) 3 1 (.slice (some ⟨gg2, 0, none⟩) (k + 1) cap2) (k + 1) (cellsOf (k + 1) (quLost R M x)) := by rw [C2.out]; exact (by repeat (first | (with_reducible assumption) | (with_reducible refine World.ownsRow.alloc ?_ _) | (with_reducible refine World.ownsRow.drew ?_) | (with_reducible refine own_drewN ?_ _) | (refine World.ownsRow.kept ?_ (by assumption) (by assumption))))
        have r3 : wA3.ownsRow (g + 1) 3 1 (.slice (some ⟨gg3, 0, none⟩) (k + 1) cap3) (k + 1) (cellsOf (k + 1) (fun k => quWait R M x (k + 1))) := by rw [C3.out]; exact hown3
        have r4 : Blk wA3 g 99 #[.int .i64 R, .int .i64 M, .int .i64 W] := (by repeat (first | (with_reducible assumption) | ((with_reducible refine Blk.new' ?_); (simp [Nat.add_assoc]; done)) | (with_reducible refine Blk.alloc ?_ _) | (with_reducible refine Blk.drew ?_) | (with_reducible refine Blk.drewN ?_ _) | (refine Blk.grown ?_ (by assumption) (by first | exact nb1 _ (by first | (left; omega) | (right; (try simp only [World.size_alloc, World.size_drew]); omega)) | exact nb2 _ (by first | (left; omega) | (right; (try simp only [World.size_alloc, World.size_drew]); omega)) | exact nb3 _ (by first | (left; omega) | (right; (try simp only [World.size_alloc, World.size_drew]); omega))))))
        have r5 : Below w.heap.size w wA3 := (by repeat (first | (with_reducible assumption) | (with_reducible refine Below.alloc ?_ (by (try simp only [World.size_alloc, World.size_drew]); omega) _) | (with_reducible refine Below.drew ?_) | (refine Below.grown ?_ (by assumption) (by (try simp only [World.size_alloc, World.size_drew]); omega) (by first | exact lb1 | exact lb2 | exact lb3))))
        clear hw1 hw2 hw3 hown1 hown2 hown3 hgrow1 hgrow2 hgrow3
        go_wp2
        go_roundw
        case rel =>
          refine ⟨k + 1, by go_num, by omega, ⟨r1, r2, r3⟩, ⟨.inr (fun e => m12 (Option.some.inj e)), .inr (fun e => m13 (Option.some.inj e)), .inr (fun e => m23 (Option.some.inj e))⟩, ?_, r5⟩
          rw [← HW.out] at r4
          exact r4
        case measure => simp [intOf]; omega
    · obtain rfl : k = n := by omega
      obtain ⟨a1, c1, rfl, hc1⟩ := own_slice hw1
      obtain ⟨a2, c2, rfl, hc2⟩ := own_slice hw2
      obtain ⟨a3, c3, rfl, hc3⟩ := own_slice hw3
      go_wp2
      exact bodyPost_ret (v := .tuple #[.slice a1 k c1, .slice a2 k c2, .slice a3 k c3]) (by simp [results, Tryz.results16, go_sem]) rfl ⟨a1, c1, a2, c2, a3, c3, rfl, ⟨hc1, hc2, hc3⟩, ⟨Row.of_own hw1, Row.of_own hw2, Row.of_own hw3⟩, hbe⟩
end Go.Proofs.YtgmljgcmfooniaaGreatDoor
