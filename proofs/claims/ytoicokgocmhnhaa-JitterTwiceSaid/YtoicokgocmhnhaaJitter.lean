/- What jitter.Right, jitter.Pass and jitter.Delays answer, for every input. Conditions: lengths within the form's reach. -/
import Derived.Test.YtoicokgocmhnhaaSlFunc
import Derived.Test.YtoicokgocmhnhaaSlSorted
import Derived.Test.YtoicokgocmhnhaaSlEqual
import Derived.Deep.RegionHeld3
import Derived.Deep.AppendLies
namespace Go.Tide
/-- What jitter.Right asks. -/
def JRight (n m : Nat) (f g : Nat → Int) : Prop := n = m ∧ AllIn n f 0 1099511627776 ∧ AllIn m g 0 1099511627776 ∧ Sorted n f
noncomputable def jRight (n m : Nat) (f g : Nat → Int) : Bool := @decide (JRight n m f g) (Classical.propDecidable _)
theorem jRight_iff {n m : Nat} {f g : Nat → Int} : jRight n m f g = true ↔ JRight n m f g := by simp [jRight]
/-- When packet k comes. -/
def jPass (f g : Nat → Int) : Nat → Int
  | 0 => max 0 (f 0 + g 0)
  | k + 1 => max (jPass f g k) (f (k + 1) + g (k + 1))
def jLast (f g : Nat → Int) : Nat → Int
  | 0 => 0
  | k + 1 => jPass f g k
theorem jPass_eq (f g : Nat → Int) (k : Nat) : jPass f g k = max (jLast f g k) (f k + g k) := by cases k <;> rfl
theorem jLast_bounds {n : Nat} {f g : Nat → Int} (hf : AllIn n f 0 1099511627776) (hg : AllIn n g 0 1099511627776) : ∀ k, k ≤ n → 0 ≤ jLast f g k ∧ jLast f g k ≤ 2199023255552 := by
  intro k
  induction k with
  | zero => intro _; simp only [jLast]; omega
  | succ k ih =>
    intro hk
    have h1 := ih (by omega)
    have h2 := hf k (by omega)
    have h3 := hg k (by omega)
    show 0 ≤ jPass f g k ∧ jPass f g k ≤ 2199023255552
    rw [jPass_eq]
    omega
end Go.Tide
namespace Go.Proofs.Ytoicokgocmhnhaa
open Go.RowKit Go.Tide
set_option linter.unusedVariables false
set_option linter.unusedSimpArgs false

theorem jbad_looks : Looks 37 (fun x => decide (x < 0) || decide (1099511627776 < x)) := by
  refine ⟨fun x w => ?_, fun _ _ => rfl⟩
  go_enter Try.func37, Try.ntmps37
  go_wp2
  all_goals
    go_ret
    refine ⟨ret_bool_iff ?_, rfl⟩
    simp only [Bool.or_eq_true, decide_eq_true_eq, true_iff, iff_true, Bool.true_eq, Bool.false_eq_true] <;> omega

theorem jsmall_any (a : Option Addr) (n c : Nat) (f : Nat → Int) (w : World) (hf : Row w a n f) (hn : n ≤ 1152921504606846976) :
    Calls Try.prog 35 #[.slice a n c] w fun e w' => e = .returned (.bool (allIn n f 0 1099511627776)) ∧ w = w' := by
  go_enter Try.func35, Try.ntmps35
  go_wp2_with fail
  refine (contains_any _ _ jbad_looks a n c f _ hf hn).mono ?_
  rintro e w' ⟨rfl, rfl⟩
  go_wp2
  go_ret
  exact ⟨ret_bool not_someIn, rfl⟩

set_option maxHeartbeats 400000 in
theorem jright_any (a b : Option Addr) (n m c d : Nat) (f g : Nat → Int) (w : World) (hf : Row w a n f) (hg : Row w b m g) (hn : n ≤ 1152921504606846976) (hm : m ≤ 1152921504606846976) :
    Calls Try.prog 22 #[.slice a n c, .slice b m d] w fun e w' => e = .returned (.bool (jRight n m f g)) ∧ More w w' := by
  go_enter Try.func22, Try.ntmps22
  go_wp2_with (first
    | (with_reducible refine (jsmall_any a n c f _ hf hn).mono ?_; rintro e w' ⟨rfl, rfl⟩)
    | (with_reducible refine (jsmall_any b m d g _ hg hm).mono ?_; rintro e w' ⟨rfl, rfl⟩)
    | (go_at_call 24; refine (issorted_any a n c f _ hf hn).mono ?_; rintro e w' ⟨rfl, os, dr, rfl⟩))
  all_goals
    go_ret
    refine ⟨ret_bool_iff ?_, (by repeat (first | (with_reducible exact More.refl _) | (with_reducible refine More.alloc ?_ _) | (with_reducible refine More.more ?_ _ _) | (with_reducible refine More.drewN ?_ _) | (with_reducible refine More.drew ?_)))⟩
    clear hf hg hn hm
    rw [jRight_iff]
    simp_all [JRight, allIn_iff, sorted_iff]
    try omega

theorem jpass_none (a b : Option Addr) (n m c d : Nat) (f g : Nat → Int) (w : World) (hf : Row w a n f) (hg : Row w b m g) (hn : n ≤ 1152921504606846976) (hm : m ≤ 1152921504606846976) (hr : jRight n m f g = false) :
    Calls Try.prog 21 #[.slice a n c, .slice b m d] w fun e w' => e = .returned (.slice none 0 0) ∧ More w w' := by
  go_enter Try.func21, Try.ntmps21
  go_wp2_with (go_at_call 22; refine (jright_any a b n m c d f g _ hf hg hn hm).mono ?_; rintro e w' ⟨rfl, os, dr, rfl⟩)
  go_ret
  exact ⟨rfl, (by repeat (first | (with_reducible exact More.refl _) | (with_reducible refine More.alloc ?_ _) | (with_reducible refine More.more ?_ _ _) | (with_reducible refine More.drewN ?_ _) | (with_reducible refine More.drew ?_)))⟩

set_option maxHeartbeats 1000000 in
theorem jpass_any (a b : Option Addr) (n c d : Nat) (f g : Nat → Int) (w : World) (hf : Row w a n f) (hg : Row w b n g) (hn : n ≤ 17592186044416) (hr : JRight n n f g) :
    Calls Try.prog 21 #[.slice a n c, .slice b n d] w fun e w' => ∃ a' c', e = .returned (.slice a' n c') ∧ n ≤ c' ∧ Row w' a' n (jPass f g) ∧ Below w.heap.size w w' := by
  have hr' : jRight n n f g = true := jRight_iff.2 hr
  obtain ⟨_, hr1, hr2, _⟩ := hr
  have HB := Lib.hid (jLast_bounds hr1 hr2)
  have HR1 := Lib.hid hr1
  have HR2 := Lib.hid hr2
  clear hr1 hr2
  obtain ⟨i0, hi, hz0, hz1, hz2⟩ := info_parts intInfo
  go_enter Try.func21, Try.ntmps21
  go_wp2_with (go_at_call 22; refine (jright_any a b n n c d f g _ hf hg (by omega) (by omega)).mono ?_; rintro e w' ⟨rfl, os, dr, rfl⟩)
  have hb0 := (Below.refl w.heap.size w).more (Nat.le_refl _) os dr
  generalize w.more os dr = w0 at *
  go_loopw [5, 6, 15] (fun out last i wr => ∃ k : Nat, i = .int .i64 k ∧ k ≤ n ∧ last = .int .i64 (jLast f g k) ∧ wr.ownsRow w0.heap.size 3 1 out k (cellsOf k (jPass f g)) ∧ Below w0.heap.size w0 wr) (fun _ _ i _ => n - (intOf i).toNat)
  case atStart => exact ⟨0, rfl, Nat.zero_le _, rfl, World.ownsRow_nil _ _ _ _, Below.refl _ _⟩
  case round =>
    obtain ⟨k, rfl, hk, rfl, hown, hbe⟩ := hrel
    have hsz := hbe.size
    by_cases hlt : k < n
    · obtain ⟨b1, o1, x, rfl, hb1, hc1, hx⟩ := ((hf.below hb0 (Nat.le_refl _)).below hbe (Nat.le_refl _)).at_ hlt
      obtain ⟨b2, o2, y, rfl, hb2, hc2, hy⟩ := ((hg.below hb0 (Nat.le_refl _)).below hbe (Nat.le_refl _)).at_ hlt
      have hl := HB.out k hk
      have hxb : 0 ≤ x ∧ x ≤ 1099511627776 := by rw [hx.out]; exact HR1.out k hlt
      have hyb : 0 ≤ y ∧ y ≤ 1099511627776 := by rw [hy.out]; exact HR2.out k hlt
      have hnew : Hid (jPass f g k = max (jLast f g k) (x + y)) := by show _ = _; rw [hx.out, hy.out]; exact jPass_eq f g k
      generalize jLast f g k = L at *
      obtain ⟨l0, l1⟩ := hl
      obtain ⟨x0, x1⟩ := hxb
      obtain ⟨y0, y1⟩ := hyb
      go_wp2_with (at_builtin; refine wpList_append_own _ rfl _ _ 22 rfl _ 3 i0 (.int .i64 0) 1 8 Try.underlying22 hi hz0 hz1 hz2 rfl (by decide) _ _ _ rfl (hown.alloc _) _ _ _ [.int .i64 _] rfl rfl (cell_one _ _ _) (oneCell_int _ _) (by simp only [maxLen]; omega) (by omega) (by simp; omega) ?_; intro v' w1 hown' hgrow hnil; clear hnil)
      all_goals
        go_roundw
        case rel =>
          refine ⟨k + 1, by go_num, by omega, ?_, ?_, below_append hbe hsz hown hgrow⟩
          · show _ = Value.int .i64 (jPass f g k)
            rw [hnew.out]
            congr 1
            omega
          · rw [cellsOf_succ]
            have hv := hnew.out
            first
              | (rw [show jPass f g k = if L < x + y then x + y else L by omega]; exact hown')
              | (rw [show jPass f g k = x + y by omega]; exact hown')
              | (rw [show jPass f g k = L by omega]; exact hown')
        case measure => simp [intOf]; omega
    · obtain rfl : k = n := by omega
      obtain ⟨a', c', hv, hc'⟩ := own_slice hown
      subst hv
      go_wp2
      go_ret
      exact ⟨a', c', rfl, hc', Row.of_own hown, hb0.trans (hbe.mono hb0.size)⟩

set_option maxHeartbeats 1000000 in
theorem jdelays_any (a b : Option Addr) (n m c d : Nat) (f g : Nat → Int) (w : World) (hf : Row w a n f) (hg : Row w b m g) (hn : n ≤ 17592186044416) (hm : m ≤ 17592186044416)
    (hF : AllIn n f (-2305843009213693952) 2305843009213693952) (hG : AllIn m g (-2305843009213693952) 2305843009213693952) :
    Calls Try.prog 25 #[.slice a n c, .slice b m d] w fun e w' => ∃ a' c', e = .returned (.slice a' (min n m) c') ∧ min n m ≤ c' ∧ Row w' a' (min n m) (fun k => g k - f k) ∧ Below w.heap.size w w' := by
  have HF := Lib.hid hF
  have HG := Lib.hid hG
  clear hF hG
  obtain ⟨i0, hi, hz0, hz1, hz2⟩ := info_parts intInfo
  have hmin : (if m < n then (m : Int) else (n : Int)) = ((min n m : Nat) : Int) := by split <;> omega
  obtain ⟨q, hq⟩ : ∃ q, Hid (min n m = q) := ⟨_, rfl⟩
  rw [hq.out] at hmin ⊢
  have hqn : q ≤ n := by have := hq.out; omega
  have hqm : q ≤ m := by have := hq.out; omega
  go_enter Try.func25, Try.ntmps25
  go_wp2
  go_loopw [5, 12] (fun out i wr => ∃ k : Nat, i = .int .i64 k ∧ k ≤ q ∧ wr.ownsRow w.heap.size 3 1 out k (cellsOf k (fun k => g k - f k)) ∧ Below w.heap.size w wr) (fun _ i _ => q - (intOf i).toNat)
  case atStart => exact ⟨0, rfl, Nat.zero_le _, World.ownsRow_nil _ _ _ _, Below.refl _ _⟩
  case round =>
    obtain ⟨k, rfl, hk, hown, hbe⟩ := hrel
    have hsz := hbe.size
    by_cases hlt : k < q
    · obtain ⟨b1, o1, x, rfl, hb1, hc1', hx⟩ := hf.at_ (show k < n by omega)
      obtain ⟨b2, o2, y, rfl, hb2, hc2', hy⟩ := hg.at_ (show k < m by omega)
      have hc1 : wr.cell? ⟨b1, o1 + k, none⟩ = some (.int .i64 x) := (hbe.cell (p := ⟨b1, o1 + k, none⟩) hb1).trans hc1'
      have hc2 : wr.cell? ⟨b2, o2 + k, none⟩ = some (.int .i64 y) := (hbe.cell (p := ⟨b2, o2 + k, none⟩) hb2).trans hc2'
      have ha1 := own_ne hown hb1
      have ha2 := own_ne hown hb2
      clear hc1' hc2'
      have hxb := HF.out k (by omega)
      have hyb := HG.out k (by omega)
      rw [← hx.out] at hxb
      rw [← hy.out] at hyb
      obtain ⟨x0, x1⟩ := hxb
      obtain ⟨y0, y1⟩ := hyb
      have hw1 : IntKind.i64.wrap (y - x) = y - x := IntWalk.i64_in _ (by omega)
      have k0 : (0 : Int) ≤ (k : Int) := Int.natCast_nonneg _
      have k1 : (k : Int) < (n : Int) := by omega
      have k2 : (k : Int) < (m : Int) := by omega
      go_wp2
      go_region_held3 (fun w' => w'.cell? ⟨b1, o1 + k, none⟩ = some (.int .i64 x) ∧ w'.cell? ⟨b2, o2 + k, none⟩ = some (.int .i64 y))
        (first
          | go_keep
          | (go_split_ands
             refine ⟨?_, ?_⟩
             · (rw [hgrow.cell_far ⟨b1, o1 + k, none⟩ (by simp; omega) ha1.symm]; assumption)
             · (rw [hgrow.cell_far ⟨b2, o2 + k, none⟩ (by simp; omega) ha2.symm]; assumption)))
        ((refine step_append_lies _ (by rfl) _ _ _ (by rfl) _ 3 i0 _ 1 8 Try.underlying22 hi hz0 hz1 hz2 rfl (by omega) _ _ _ (by rfl) ((hown.alloc _).drew) ⟨wr.heap.size, 0, none⟩ 1 1 [.int .i64 (y - x)] (by rfl) (by rfl) (World.news_of_block (cs := #[.int .i64 (y - x)]) (t := 3) (fr := (0, 0)) (heap_alloc_new wr _)) (by simp [Value.oneCell']) (by omega) (by simp only [maxLen]; omega) (by omega) (by simp; omega) (wr.heap.size + 1) (by simp) ?_; intro gg cap w1 hown' hgrow hat hlt0))
      go_wp2
      go_roundw
      case rel =>
        refine ⟨k + 1, by go_num, by omega, ?_, below_appendd hbe hsz hown hgrow⟩
        rw [cellsOf_succ, show g k - f k = y - x by rw [hx.out, hy.out]]
        exact hown'
      case measure => simp [intOf]; omega
    · obtain rfl : k = q := by omega
      obtain ⟨a', c', hv, hc'⟩ := own_slice hown
      subst hv
      go_wp2
      go_ret
      exact ⟨a', c', rfl, hc', Row.of_own hown, hbe⟩
end Go.Proofs.Ytoicokgocmhnhaa
