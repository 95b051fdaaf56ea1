/- What bucket.Right, Line, Keeps and Pass answer, for every input. Conditions: lengths within the form's reach. -/
import Derived.Test.YtdilmnpoicdkhaaBkLaw
import Derived.Test.YtdilmnpoicdkhaaKit3
import Derived.Deep.RegionHeld3
import Derived.Deep.RegionLaw
set_option linter.unusedVariables false
set_option linter.unusedSimpArgs false
namespace Go.Tide
/-- What bucket.small asks. -/
def smallB (x : Int) : Bool := decide (0 ≤ x) && decide (x ≤ 1099511627776)
theorem smallB_iff {x : Int} : smallB x = true ↔ 0 ≤ x ∧ x ≤ 1099511627776 := by simp [smallB]
/-- What bucket.Right asks. -/
def BRight (r B : Int) (n : Nat) (x : Nat → Int) : Prop := (0 ≤ r ∧ r ≤ 1099511627776) ∧ (0 ≤ B ∧ B ≤ 1099511627776) ∧ Small n x
noncomputable def bRight (r B : Int) (n : Nat) (x : Nat → Int) : Bool := @decide (BRight r B n x) (Classical.propDecidable _)
theorem bRight_iff {r B : Int} {n : Nat} {x : Nat → Int} : bRight r B n x = true ↔ BRight r B n x := by simp [bRight]
theorem Small.zero (n : Nat) (hn : n < 300) : Small n (fun _ => 0) := ⟨hn, fun k _ => by simp⟩
theorem bRight_false {r B : Int} {n : Nat} {x : Nat → Int} (h : ¬ BRight r B n x) : bRight r B n x = false := by simp [bRight, h]
theorem Small.nil (x : Nat → Int) : Small 0 x := ⟨by omega, fun k hk => by omega⟩
/-- What comes keeps to a bucket. -/
def BKept (r B : Int) (n : Nat) (x : Nat → Int) : Prop := ∀ s d, s + d ≤ n → isum x (s + d) ≤ isum x s + lineOf r B d
noncomputable def bKept (r B : Int) (n : Nat) (x : Nat → Int) : Bool := @decide (BKept r B n x) (Classical.propDecidable _)
theorem bKept_iff {r B : Int} {n : Nat} {x : Nat → Int} : bKept r B n x = true ↔ BKept r B n x := by simp [bKept]
theorem bKept_true {r B : Int} {n : Nat} {x : Nat → Int} (h : BKept r B n x) : bKept r B n x = true := bKept_iff.2 h
theorem bKept_false {r B : Int} {n : Nat} {x : Nat → Int} (h : ¬ BKept r B n x) : bKept r B n x = false := by simp [bKept, h]
theorem BRight.now {r B : Int} {n : Nat} {x : Nat → Int} (h : BRight r B n x) : BRight r B n (bkNow r B x) := by
  obtain ⟨h1, h2, h3, h4⟩ := h
  refine ⟨h1, h2, h3, fun k hk => ?_⟩
  have := bk_now_bounds h1.1 h2.1 (fun k hk => (h4 k hk).1) k hk
  omega
end Go.Tide
namespace Go
theorem More.cell {w w' : World} {b i : Nat} (h : More w w') (hb : b < w.heap.size) : w'.cell? ⟨b, i, none⟩ = w.cell? ⟨b, i, none⟩ := by
  obtain ⟨os, n, rfl⟩ := h
  exact World.cell?_more w os n b i hb
/-- What a struct of two numbers keeps. -/
theorem More.two {w w' : World} {b : Nat} {u v : Value} (hg : b < w.heap.size) (h0 : w.cell? ⟨b, 0, none⟩ = some u) (h1 : w.cell? ⟨b, 1, none⟩ = some v) (h : More w w') :
    w'.cell? ⟨b, 0, none⟩ = some u ∧ w'.cell? ⟨b, 1, none⟩ = some v ∧ More w w' := ⟨(h.cell hg).trans h0, (h.cell hg).trans h1, h⟩
end Go
namespace Go.Proofs.Ytdilmnpoicdkhaa
open Go.RowKit Go.Tide
set_option linter.unusedVariables false
set_option linter.unusedSimpArgs false

theorem bsmall_any (x : Int) (w : World) : Calls Try.prog 65 #[.int .i64 x] w fun e w' => e = .returned (.bool (smallB x)) ∧ w = w' := by
  go_enter Try.func65, Try.ntmps65
  go_wp2
  all_goals
    go_ret
    refine ⟨ret_bool_iff ?_, rfl⟩
    simp only [smallB, Bool.and_eq_true, decide_eq_true_eq, true_iff, iff_true, Bool.true_eq, Bool.false_eq_true, false_iff] <;> omega

theorem bbad_looks : Looks 66 (fun x => !smallB x) := by
  refine ⟨fun x w => ?_, fun _ _ => rfl⟩
  go_enter Try.func66, Try.ntmps66
  go_wp2_with (go_at_call 65; refine (bsmall_any _ _).mono ?_; rintro e w' ⟨rfl, rfl⟩)
  go_ret
  exact ⟨rfl, rfl⟩

theorem not_bad {n : Nat} {x : Nat → Int} : (!(someIn n x fun x => !smallB x)) = allIn n x 0 1099511627776 := by
  rw [← not_someIn]
  refine congrArg (fun p => !(someIn n x p)) (funext fun y => ?_)
  rw [Bool.eq_iff_iff]
  simp only [smallB, Bool.not_eq_true', Bool.or_eq_true, decide_eq_true_eq, ← Bool.not_eq_true, Bool.and_eq_true]
  omega

set_option maxHeartbeats 400000 in
theorem bright_any (r B : Int) (a : Option Addr) (n c : Nat) (x : Nat → Int) (w : World) (hx : Row w a n x) (hn : n ≤ 1152921504606846976) :
    Calls Try.prog 38 #[.agg #[.int .i64 r, .int .i64 B], .slice a n c] w fun e w' => e = .returned (.bool (bRight r B n x)) ∧ More w w' := by
  have hns' := not_bad (n := n) (x := x)
  obtain ⟨s, hs⟩ : ∃ s, Hid (someIn n x (fun x => !smallB x) = s) := ⟨_, rfl⟩
  rw [hs.out] at hns'
  by_cases h1 : smallB r = true
  · by_cases h2 : smallB B = true
    · by_cases h3 : n < 300
      · have hv : bRight r B n x = !s := by
          rw [Bool.eq_iff_iff, bRight_iff, hns', allIn_iff]
          exact ⟨fun h => h.2.2.2, fun h => ⟨smallB_iff.1 h1, smallB_iff.1 h2, h3, h⟩⟩
        have k3 : (n : Int) < 300 := by omega
        have H1 := Lib.hid h1
        have H2 := Lib.hid h2
        have HV := Lib.hid hv
        clear h1 h2 h3 hns' hv
        go_enter Try.func38, Try.ntmps38
        go_wp2_with fail
        refine (bsmall_any _ _).mono ?_
        rintro e w' ⟨rfl, rfl⟩
        rw [H1.out]
        go_wp2_with fail
        refine (bsmall_any _ _).mono ?_
        rintro e w' ⟨rfl, rfl⟩
        rw [H2.out]
        go_wp2_with fail
        refine (contains_any _ _ bbad_looks a n c x _ (by repeat (first | (with_reducible assumption) | (with_reducible exact Row.nil) | (with_reducible apply Row.drewN) | (with_reducible apply Row.drew) | (with_reducible apply Row.more) | (with_reducible apply Row.alloc))) hn).mono ?_
        rintro e w' ⟨rfl, rfl⟩
        rw [hs.out]
        go_wp2
        go_ret
        exact ⟨ret_bool HV.out.symm, (by repeat (first | (with_reducible exact More.refl _) | (with_reducible refine More.alloc ?_ _) | (with_reducible refine More.more ?_ _ _) | (with_reducible refine More.drewN ?_ _) | (with_reducible refine More.drew ?_)))⟩
      · have hv : bRight r B n x = false := bRight_false fun h => h3 h.2.2.1
        have k3 : decide ((n : Int) < 300) = false := by simp; omega
        have k4 : decide (n < 300) = false := by simp; omega
        have H1 := Lib.hid h1
        have H2 := Lib.hid h2
        have HV := Lib.hid hv
        clear h1 h2 h3 hns' hv hn hx hs
        go_enter Try.func38, Try.ntmps38
        go_wp2_with fail
        refine (bsmall_any _ _).mono ?_
        rintro e w' ⟨rfl, rfl⟩
        rw [H1.out]
        go_wp2_with fail
        refine (bsmall_any _ _).mono ?_
        rintro e w' ⟨rfl, rfl⟩
        rw [H2.out]
        go_wp2_with fail
        go_ret
        exact ⟨ret_bool HV.out.symm, (by repeat (first | (with_reducible exact More.refl _) | (with_reducible refine More.alloc ?_ _) | (with_reducible refine More.more ?_ _ _) | (with_reducible refine More.drewN ?_ _) | (with_reducible refine More.drew ?_)))⟩
    · have hv : bRight r B n x = false := bRight_false fun h => h2 (smallB_iff.2 h.2.1)
      have h2' : smallB B = false := by simpa using h2
      have H1 := Lib.hid h1
      have H2 := Lib.hid h2'
      have HV := Lib.hid hv
      clear h1 h2 h2' hns' hv
      go_enter Try.func38, Try.ntmps38
      go_wp2_with fail
      refine (bsmall_any _ _).mono ?_
      rintro e w' ⟨rfl, rfl⟩
      rw [H1.out]
      go_wp2_with fail
      refine (bsmall_any _ _).mono ?_
      rintro e w' ⟨rfl, rfl⟩
      rw [H2.out]
      go_wp2_with fail
      go_ret
      exact ⟨ret_bool HV.out.symm, (by repeat (first | (with_reducible exact More.refl _) | (with_reducible refine More.alloc ?_ _) | (with_reducible refine More.more ?_ _ _) | (with_reducible refine More.drewN ?_ _) | (with_reducible refine More.drew ?_)))⟩
  · have hv : bRight r B n x = false := bRight_false fun h => h1 (smallB_iff.2 h.1)
    have h1' : smallB r = false := by simpa using h1
    have H1 := Lib.hid h1'
    have HV := Lib.hid hv
    clear h1 h1' hns' hv
    go_enter Try.func38, Try.ntmps38
    go_wp2_with fail
    refine (bsmall_any _ _).mono ?_
    rintro e w' ⟨rfl, rfl⟩
    rw [H1.out]
    go_wp2_with fail
    go_ret
    exact ⟨ret_bool HV.out.symm, (by repeat (first | (with_reducible exact More.refl _) | (with_reducible refine More.alloc ?_ _) | (with_reducible refine More.more ?_ _ _) | (with_reducible refine More.drewN ?_ _) | (with_reducible refine More.drew ?_)))⟩

set_option maxHeartbeats 1000000 in
theorem bline_int (r B nn : Int) (n : Nat) (w : World) (hr : 0 ≤ r ∧ r ≤ 1099511627776) (hB : 0 ≤ B ∧ B ≤ 1099511627776) (hk : (n : Int) = min (max nn 0) 300) :
    Calls Try.prog 50 #[.agg #[.int .i64 r, .int .i64 B], .int .i64 nn] w fun e w' => ∃ a' c', e = .returned (.slice a' n c') ∧ n ≤ c' ∧ Row w' a' n (lineOf r B) ∧ Below w.heap.size w w' := by
  obtain ⟨m, hm0⟩ : ∃ m, (if nn < 0 then 0 else nn) = m := ⟨_, rfl⟩
  have hmn : (if 300 < m then 300 else m) = (n : Int) := by rw [← hm0]; (repeat' split) <;> omega
  have hn : n ≤ 300 := by omega
  clear hk
  have E := Lib.hid (bRight_iff.2 ⟨hr, hB, Small.nil (fun _ => 0)⟩)
  obtain ⟨i0, hi, hz0, hz1, hz2⟩ := info_parts intInfo
  go_enter Try.func50, Try.ntmps50
  go_wp2_with fail
  refine (bright_any r B none 0 0 (fun _ => 0) _ Row.nil (by omega)).mono ?_
  rintro e w1 ⟨rfl, os, d, rfl⟩
  rw [E.out]
  go_wp2_with fail
  have hb : Blk ((w.alloc (.cells #[.int .i64 r, .int .i64 B] 35)).more os d) w.heap.size 35 #[.int .i64 r, .int .i64 B] := (by repeat (first | ((with_reducible refine Blk.new' ?_); (simp [Nat.add_assoc]; done)) | (with_reducible refine Blk.alloc ?_ _) | (with_reducible refine Blk.more ?_ _ _) | (with_reducible refine Blk.drew ?_) | (with_reducible refine Blk.drewN ?_ _)))
  have hm : More w ((w.alloc (.cells #[.int .i64 r, .int .i64 B] 35)).more os d) := (by repeat (first | (with_reducible exact More.refl _) | (with_reducible refine More.alloc ?_ _) | (with_reducible refine More.more ?_ _ _) | (with_reducible refine More.drewN ?_ _) | (with_reducible refine More.drew ?_)))
  have hg := hb.lt
  have hc0 := hb.cell 0
  have hc1 := hb.cell 1
  have hs0 := hm.below.size
  generalize ((w.alloc (.cells #[.int .i64 r, .int .i64 B] 35)).more os d) = w1 at *
  have hmin : (if B < r then B else r) = min r B := by omega
  go_loopw [5, 13] (fun out i wr => ∃ k : Nat, i = .int .i64 k ∧ k ≤ n ∧ wr.ownsRow w1.heap.size 3 1 out k (cellsOf k (lineOf r B)) ∧ Below w1.heap.size w1 wr) (fun _ i _ => n - (intOf i).toNat)
  case atStart => exact ⟨0, rfl, Nat.zero_le _, World.ownsRow_nil _ _ _ _, Below.refl _ _⟩
  case round =>
    obtain ⟨t, rfl, hk, hown, hbe⟩ := hrel
    have hsz := hbe.size
    have e0 : wr.cell? ⟨w.heap.size, 0, none⟩ = some (.int .i64 r) := (hbe.cell (p := ⟨w.heap.size, 0, none⟩) hg).trans hc0
    have e1 : wr.cell? ⟨w.heap.size, 1, none⟩ = some (.int .i64 B) := (hbe.cell (p := ⟨w.heap.size, 1, none⟩) hg).trans hc1
    by_cases hlt : t < n
    · match t, hk, hown, hlt with
      | 0, hk, hown, hlt =>
        go_wp2_with (at_builtin; refine wpList_append_own _ rfl _ _ 22 rfl _ 3 i0 (.int .i64 0) 1 8 Try.underlying22 hi hz0 hz1 hz2 rfl (by decide) _ _ _ rfl (hown.alloc _) _ _ _ [.int .i64 _] rfl rfl (cell_one _ _ _) (oneCell_int _ _) (by simp only [maxLen]; omega) (by omega) (by simp; omega) ?_; intro v' w1 hown' hgrow hnil; clear hnil)
        go_roundw
        case rel => exact ⟨1, by go_num, by omega, by rw [cellsOf_succ]; exact hown', below_append hbe hsz hown hgrow⟩
        case measure => simp [intOf]; omega
      | 1, hk, hown, hlt =>
        go_wp2_with (at_builtin; refine wpList_append_own _ rfl _ _ 22 rfl _ 3 i0 (.int .i64 0) 1 8 Try.underlying22 hi hz0 hz1 hz2 rfl (by decide) _ _ _ rfl (hown.alloc _) _ _ _ [.int .i64 _] rfl rfl (cell_one _ _ _) (oneCell_int _ _) (by simp only [maxLen]; omega) (by omega) (by simp; omega) ?_; intro v' w1 hown' hgrow hnil; clear hnil)
        go_roundw
        case rel => exact ⟨2, by go_num, by omega, by rw [cellsOf_succ]; exact hown', below_append hbe hsz hown hgrow⟩
        case measure => simp [intOf]; omega
      | t + 2, hk, hown, hlt =>
        obtain ⟨ao, co, hv, hco⟩ := own_slice hown
        subst hv
        have hro := Row.of_own hown
        obtain ⟨b1, o1, y, rfl, hb1, hcy, hy⟩ := hro.at_ (show t + 1 < t + 2 by omega)
        have hyb := line_bounds hr.1 hB.1 hB.2 (t + 1) (by omega)
        rw [← hy.out] at hyb
        have hn0 : (((t + 2 : Nat) : Int) == 0) = false := by simp; omega
        have hn1 : (((t + 2 : Nat) : Int) == 1) = false := by simp; omega
        have hn2 : ((t : Int) + 2 == 0) = false := by simp; omega
        have hn3 : ((t : Int) + 2 == 1) = false := by simp; omega
        have hpl : y + min r B = lineOf r B (t + 2) := by rw [hy.out]; rfl
        have HP := Lib.hid hpl
        clear hpl
        have kw : IntKind.i64.wrap ((t : Int) + 2 - 1) = (t : Int) + 1 := by rw [IntWalk.i64_in _ (by omega)]; omega
        have kw2 : IntKind.i64.wrap (y + min r B) = y + min r B := IntWalk.i64_in _ (by omega)
        have k0 : (0 : Int) ≤ (t : Int) + 1 := by omega
        have k1 : (t : Int) + 1 < (t : Int) + 2 := by omega
        have k2 : ((t : Int) + 1).toNat = t + 1 := by omega
        go_wp2_with fail
        go_region_law (refine step_append_lies _ (by rfl) _ _ _ (by rfl) _ 3 i0 _ 1 8 Try.underlying22 hi hz0 hz1 hz2 rfl (by omega) _ _ _ (by rfl) ((hown.alloc _).drew) ⟨wr.heap.size, 0, none⟩ 1 1 [.int .i64 (y + min r B)] (by rfl) (by rfl) (World.news_of_block (cs := #[.int .i64 (y + min r B)]) (t := 3) (fr := (0, 0)) (heap_alloc_new wr _)) (by simp [Value.oneCell']) (by omega) (by simp only [maxLen]; omega) (by omega) (by simp; omega) (wr.heap.size + 1) (by simp) ?_; intro gg cap w1 hown' hgrow hat hlt0)
        all_goals
          go_wp2
          go_roundw
          case rel => exact ⟨t + 3, by go_num, by omega, by rw [cellsOf_succ, ← HP.out]; exact hown', below_appendd hbe hsz hown hgrow⟩
          case measure => simp [intOf]; omega
    · obtain rfl : t = n := by omega
      obtain ⟨a', c', hv, hc'⟩ := own_slice hown
      subst hv
      go_wp2
      go_ret
      exact ⟨a', c', rfl, hc', Row.of_own hown, hm.below.trans (hbe.mono hs0)⟩

theorem bline_any (r B : Int) (n : Nat) (w : World) (hr : 0 ≤ r ∧ r ≤ 1099511627776) (hB : 0 ≤ B ∧ B ≤ 1099511627776) (hn : n ≤ 300) :
    Calls Try.prog 50 #[.agg #[.int .i64 r, .int .i64 B], .int .i64 n] w fun e w' => ∃ a' c', e = .returned (.slice a' n c') ∧ n ≤ c' ∧ Row w' a' n (lineOf r B) ∧ Below w.heap.size w w' :=
  bline_int r B n n w hr hB (by omega)

theorem bline_succ (r B : Int) (n : Nat) (w : World) (hr : 0 ≤ r ∧ r ≤ 1099511627776) (hB : 0 ≤ B ∧ B ≤ 1099511627776) (hn : n + 1 ≤ 300) :
    Calls Try.prog 50 #[.agg #[.int .i64 r, .int .i64 B], .int .i64 ((n : Int) + 1)] w fun e w' => ∃ a' c', e = .returned (.slice a' (n + 1) c') ∧ n + 1 ≤ c' ∧ Row w' a' (n + 1) (lineOf r B) ∧ Below w.heap.size w w' := by
  have h := bline_any r B (n + 1) w hr hB hn
  rwa [show ((n + 1 : Nat) : Int) = (n : Int) + 1 by omega] at h

set_option maxHeartbeats 1000000 in
theorem bpass_any (r B : Int) (a : Option Addr) (n c : Nat) (x : Nat → Int) (w : World) (hx : Row w a n x) (h : BRight r B n x) :
    Calls Try.prog 39 #[.agg #[.int .i64 r, .int .i64 B], .slice a n c] w fun e w' => ∃ a' c', e = .returned (.slice a' n c') ∧ n ≤ c' ∧ Row w' a' n (bkNow r B x) ∧ Below w.heap.size w w' := by
  have E := Lib.hid (bRight_iff.2 h)
  obtain ⟨hr, hB, hn, hall⟩ := h
  have HA := Lib.hid hall
  clear hall
  obtain ⟨i0, hi, hz0, hz1, hz2⟩ := info_parts intInfo
  go_enter Try.func39, Try.ntmps39
  go_wp2_with fail
  refine (bright_any r B a n c x _ (by repeat (first | (with_reducible assumption) | (with_reducible exact Row.nil) | (with_reducible apply Row.drewN) | (with_reducible apply Row.drew) | (with_reducible apply Row.more) | (with_reducible apply Row.alloc))) (by omega)).mono ?_
  rintro e w1 ⟨rfl, os, d, rfl⟩
  rw [E.out]
  go_wp2_with fail
  have hb : Blk ((w.alloc (.cells #[.int .i64 r, .int .i64 B] 35)).more os d) w.heap.size 35 #[.int .i64 r, .int .i64 B] := (by repeat (first | ((with_reducible refine Blk.new' ?_); (simp [Nat.add_assoc]; done)) | (with_reducible refine Blk.alloc ?_ _) | (with_reducible refine Blk.more ?_ _ _) | (with_reducible refine Blk.drew ?_) | (with_reducible refine Blk.drewN ?_ _)))
  have hm : More w ((w.alloc (.cells #[.int .i64 r, .int .i64 B] 35)).more os d) := (by repeat (first | (with_reducible exact More.refl _) | (with_reducible refine More.alloc ?_ _) | (with_reducible refine More.more ?_ _ _) | (with_reducible refine More.drewN ?_ _) | (with_reducible refine More.drew ?_)))
  have hg := hb.lt
  have hc0 := hb.cell 0
  have hc1 := hb.cell 1
  have hs0 := hm.below.size
  have hx1 : Row ((w.alloc (.cells #[.int .i64 r, .int .i64 B] 35)).more os d) a n x := (by repeat (first | (with_reducible assumption) | (with_reducible exact Row.nil) | (with_reducible apply Row.drewN) | (with_reducible apply Row.drew) | (with_reducible apply Row.more) | (with_reducible apply Row.alloc)))
  generalize ((w.alloc (.cells #[.int .i64 r, .int .i64 B] 35)).more os d) = wb at *
  go_loopw [7, 5, 6, 19] (fun wt out tk i wr => ∃ k : Nat, i = .int .i64 k ∧ k ≤ n ∧ wt = .int .i64 (bkState r B x k).2 ∧ tk = .int .i64 (bkState r B x k).1 ∧ wr.ownsRow wb.heap.size 3 1 out k (cellsOf k (bkNow r B x)) ∧ Below wb.heap.size wb wr) (fun _ _ _ i _ => n - (intOf i).toNat)
  case atStart => exact ⟨0, rfl, Nat.zero_le _, rfl, rfl, World.ownsRow_nil _ _ _ _, Below.refl _ _⟩
  case round =>
    obtain ⟨k, rfl, hk, rfl, rfl, hown, hbe⟩ := hrel
    have hsz := hbe.size
    have e0 : wr.cell? ⟨w.heap.size, 0, none⟩ = some (.int .i64 r) := (hbe.cell (p := ⟨w.heap.size, 0, none⟩) hg).trans hc0
    have e1 : wr.cell? ⟨w.heap.size, 1, none⟩ = some (.int .i64 B) := (hbe.cell (p := ⟨w.heap.size, 1, none⟩) hg).trans hc1
    by_cases hlt : k < n
    · obtain ⟨b1, o1, xv, rfl, hb1, hcx, hxv⟩ := (hx1.below hbe (Nat.le_refl _)).at_ hlt
      have hx0 : 0 ≤ xv ∧ xv ≤ 1099511627776 := by rw [hxv.out]; exact HA.out k hlt
      have hst := bk_state hr.1 hB.1 (n := n) (x := x) (fun k hk => (HA.out k hk).1) k hk
      have hsu := (Small.sum (n := n) (x := x) ⟨hn, HA.out⟩) k hk
      have hnb := isum_bounds (n := n) (x := bkNow r B x) (M := 1099511627776) (fun k hk => by have := bk_now_bounds hr.1 hB.1 (fun k hk => (HA.out k hk).1) k hk; omega) k hk
      have hww := bk_waits (r := r) (B := B) (x := x) k
      have hW : 0 ≤ (bkState r B x k).2 ∧ (bkState r B x k).2 ≤ 329853488332800 := by omega
      have H1 : Hid ((bkState r B x (k + 1)).1 = min ((bkState r B x k).1 - min ((bkState r B x k).2 + xv) (bkState r B x k).1 + r) B) := by rw [hxv.out]; rfl
      have H2 : Hid ((bkState r B x (k + 1)).2 = (bkState r B x k).2 + xv - min ((bkState r B x k).2 + xv) (bkState r B x k).1) := by rw [hxv.out]; rfl
      have H3 : Hid (bkNow r B x k = min ((bkState r B x k).2 + xv) (bkState r B x k).1) := by rw [hxv.out]; rfl
      clear hww hnb hsu
      generalize (bkState r B x k).1 = T at *
      generalize (bkState r B x k).2 = W at *
      obtain ⟨hT0, hT1, _⟩ := hst
      have hmn : (if T < W + xv then T else W + xv) = min (W + xv) T := by omega
      have kw : IntKind.i64.wrap (W + xv) = W + xv := IntWalk.i64_in _ (by omega)
      go_wp2_with ((at_builtin; refine wpList_append_own _ rfl _ _ 22 rfl _ 3 i0 (.int .i64 0) 1 8 Try.underlying22 hi hz0 hz1 hz2 rfl (by decide) _ _ _ rfl (hown.alloc _) _ _ _ [.int .i64 _] rfl rfl (cell_one _ _ _) (oneCell_int _ _) (by simp only [maxLen]; omega) (by omega) (by simp; omega) ?_; intro v' w1 hown' hgrow hnil; clear hnil); have hbe' := below_append hbe hsz hown hgrow; have e2 : w1.cell? ⟨w.heap.size, 0, none⟩ = some (.int .i64 r) := (hbe'.cell (p := ⟨w.heap.size, 0, none⟩) hg).trans hc0; have e3 : w1.cell? ⟨w.heap.size, 1, none⟩ = some (.int .i64 B) := (hbe'.cell (p := ⟨w.heap.size, 1, none⟩) hg).trans hc1)
      all_goals
        go_roundw
        case rel => exact ⟨k + 1, by go_num, by omega, by rw [H2.out], by rw [H1.out]; congr 1; omega, by rw [cellsOf_succ, H3.out]; exact hown', below_append hbe hsz hown hgrow⟩
        case measure => simp [intOf]; omega
    · obtain rfl : k = n := by omega
      obtain ⟨a', c', hv, hc'⟩ := own_slice hown
      subst hv
      go_wp2
      go_ret
      exact ⟨a', c', rfl, hc', Row.of_own hown, hm.below.trans (hbe.mono hs0)⟩

theorem bpass_none (r B : Int) (a : Option Addr) (n c : Nat) (x : Nat → Int) (w : World) (hx : Row w a n x) (hn : n ≤ 1152921504606846976) (h : bRight r B n x = false) :
    Calls Try.prog 39 #[.agg #[.int .i64 r, .int .i64 B], .slice a n c] w fun e w' => e = .returned (.slice none 0 0) ∧ More w w' := by
  have E := Lib.hid h
  go_enter Try.func39, Try.ntmps39
  go_wp2_with fail
  refine (bright_any r B a n c x _ (by repeat (first | (with_reducible assumption) | (with_reducible exact Row.nil) | (with_reducible apply Row.drewN) | (with_reducible apply Row.drew) | (with_reducible apply Row.more) | (with_reducible apply Row.alloc))) hn).mono ?_
  rintro e w1 ⟨rfl, os, d, rfl⟩
  rw [E.out]
  go_wp2_with fail
  go_ret
  exact ⟨rfl, (by repeat (first | (with_reducible exact More.refl _) | (with_reducible refine More.alloc ?_ _) | (with_reducible refine More.more ?_ _ _) | (with_reducible refine More.drewN ?_ _) | (with_reducible refine More.drew ?_)))⟩

theorem bline_none (r B : Int) (n : Int) (w : World) (h : bRight r B 0 (fun _ => 0) = false) :
    Calls Try.prog 50 #[.agg #[.int .i64 r, .int .i64 B], .int .i64 n] w fun e w' => e = .returned (.slice none 0 0) ∧ More w w' := by
  have E := Lib.hid h
  go_enter Try.func50, Try.ntmps50
  go_wp2_with fail
  refine (bright_any r B none 0 0 (fun _ => 0) _ Row.nil (by omega)).mono ?_
  rintro e w1 ⟨rfl, os, d, rfl⟩
  rw [E.out]
  go_wp2_with fail
  go_ret
  exact ⟨rfl, (by repeat (first | (with_reducible exact More.refl _) | (with_reducible refine More.alloc ?_ _) | (with_reducible refine More.more ?_ _ _) | (with_reducible refine More.drewN ?_ _) | (with_reducible refine More.drew ?_)))⟩
end Go.Proofs.Ytdilmnpoicdkhaa
