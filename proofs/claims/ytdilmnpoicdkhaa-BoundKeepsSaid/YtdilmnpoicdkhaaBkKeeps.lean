/- What bucket.Keeps answers, for every input. Conditions: lengths within the form's reach. -/
import Derived.Test.YtdilmnpoicdkhaaBucket
set_option linter.unusedVariables false
set_option linter.unusedSimpArgs false
namespace Go.Proofs.Ytdilmnpoicdkhaa
open Go.RowKit Go.Tide
set_option linter.unusedVariables false
set_option linter.unusedSimpArgs false

theorem bkeeps_none (r B : Int) (a : Option Addr) (n c : Nat) (x : Nat → Int) (w : World) (hx : Row w a n x) (hn : n ≤ 1152921504606846976) (h : bRight r B n x = false) :
    Calls Try.prog 40 #[.agg #[.int .i64 r, .int .i64 B], .slice a n c] w fun e w' => e = .returned (.bool false) ∧ More w w' := by
  have E := Lib.hid h
  go_enter Try.func40, Try.ntmps40
  go_wp2_with fail
  refine (bright_any r B a n c x _ (by repeat (first | (with_reducible assumption) | (with_reducible exact Row.nil) | (with_reducible apply Row.drewN) | (with_reducible apply Row.drew) | (with_reducible apply Row.more) | (with_reducible apply Row.alloc))) hn).mono ?_
  rintro e w1 ⟨rfl, os, d, rfl⟩
  rw [E.out]
  go_wp2_with fail
  go_ret
  exact ⟨rfl, (by repeat (first | (with_reducible exact More.refl _) | (with_reducible refine More.alloc ?_ _) | (with_reducible refine More.more ?_ _ _) | (with_reducible refine More.drewN ?_ _) | (with_reducible refine More.drew ?_)))⟩

set_option maxHeartbeats 1000000 in
theorem bkeeps_any (r B : Int) (a : Option Addr) (n c : Nat) (x : Nat → Int) (w : World) (hx : Row w a n x) (h : BRight r B n x) :
    Calls Try.prog 40 #[.agg #[.int .i64 r, .int .i64 B], .slice a n c] w fun e w' => e = .returned (.bool (bKept r B n x)) ∧ More w w' := by
  have E := Lib.hid (bRight_iff.2 h)
  obtain ⟨hr, hB, hn, hall⟩ := h
  go_enter Try.func40, Try.ntmps40
  go_wp2_with fail
  refine (bright_any r B a n c x _ (by repeat (first | (with_reducible assumption) | (with_reducible exact Row.nil) | (with_reducible apply Row.drewN) | (with_reducible apply Row.drew) | (with_reducible apply Row.more) | (with_reducible apply Row.alloc))) (by omega)).mono ?_
  rintro e w1 ⟨rfl, os, d, rfl⟩
  rw [E.out]
  go_wp2_with fail
  have hb : Blk ((w.alloc (.cells #[.int .i64 r, .int .i64 B] 35)).more os d) w.heap.size 35 #[.int .i64 r, .int .i64 B] := (by repeat (first | ((with_reducible refine Blk.new' ?_); (simp [Nat.add_assoc]; done)) | (with_reducible refine Blk.alloc ?_ _) | (with_reducible refine Blk.more ?_ _ _) | (with_reducible refine Blk.drew ?_) | (with_reducible refine Blk.drewN ?_ _)))
  have hm : More w ((w.alloc (.cells #[.int .i64 r, .int .i64 B] 35)).more os d) := (by repeat (first | (with_reducible exact More.refl _) | (with_reducible refine More.alloc ?_ _) | (with_reducible refine More.more ?_ _ _) | (with_reducible refine More.drewN ?_ _) | (with_reducible refine More.drew ?_)))
  have hg := hb.lt
  have hc0 := hb.cell 0
  have hc1 := hb.cell 1
  have hx1 : Row ((w.alloc (.cells #[.int .i64 r, .int .i64 B] 35)).more os d) a n x := (by repeat (first | (with_reducible assumption) | (with_reducible exact Row.nil) | (with_reducible apply Row.drewN) | (with_reducible apply Row.drew) | (with_reducible apply Row.more) | (with_reducible apply Row.alloc)))
  generalize ((w.alloc (.cells #[.int .i64 r, .int .i64 B] 35)).more os d) = wb at *
  have kw : IntKind.i64.wrap ((n : Int) + 1) = (n : Int) + 1 := IntWalk.i64_in _ (by omega)
  go_region_held (fun w' => w'.cell? ⟨w.heap.size, 0, none⟩ = some (.int .i64 r) ∧ w'.cell? ⟨w.heap.size, 1, none⟩ = some (.int .i64 B) ∧ More wb w') (exact More.two hg hc0 hc1 (by repeat (first | (with_reducible assumption) | (with_reducible exact More.refl _) | (with_reducible refine More.alloc ?_ _) | (with_reducible refine More.more ?_ _ _) | (with_reducible refine More.drewN ?_ _) | (with_reducible refine More.drew ?_)))) (first
    | (go_at_call 27; refine (cof_any a n c x _ (by repeat (first | (with_reducible assumption) | (with_reducible exact Row.nil) | (with_reducible apply Row.drewN) | (with_reducible apply Row.drew) | (with_reducible apply Row.more) | (with_reducible apply Row.alloc))) (by omega)).mono ?_; rintro e w' ⟨a5, c5, rfl, hc5, hr5, hb5⟩; obtain ⟨os5, d5, rfl⟩ := More.of_below hb5)
    | (go_at_call 50; refine (bline_succ r B n _ hr hB (by omega)).mono ?_; rintro e w' ⟨a6, c6, rfl, hc6, hr6, hb6⟩; obtain ⟨os6, d6, rfl⟩ := More.of_below hb6))
  have hr5' : Row (wb.more os5 d5) a5 (n + 1) (ofRow x) := hr5
  have hrs : Row ((wb.more os5 d5).more os6 d6) a5 (n + 1) (isum x) := Row.congr (by repeat (first | (with_reducible assumption) | (with_reducible exact Row.nil) | (with_reducible apply Row.drewN) | (with_reducible apply Row.drew) | (with_reducible apply Row.more) | (with_reducible apply Row.alloc))) (fun k hk => Small.of ⟨hn, hall⟩ k (by omega))
  have hmz : More w ((wb.more os5 d5).more os6 d6) := hm.trans (by repeat (first | (with_reducible exact More.refl _) | (with_reducible refine More.alloc ?_ _) | (with_reducible refine More.more ?_ _ _) | (with_reducible refine More.drewN ?_ _) | (with_reducible refine More.drew ?_)))
  have hsum := Small.sum (n := n) (x := x) ⟨hn, hall⟩
  have hlin := line_bounds hr.1 hB.1 hB.2
  have HS := Lib.hid hsum
  have HL := Lib.hid hlin
  clear hr5 hr5' hb5 hb6 hall hb hc0 hc1 hx1 hm hsum hlin
  generalize ((wb.more os5 d5).more os6 d6) = wz at *
  go_wp2_with fail
  go_loopw [24] (fun i wr => ∃ k dr : Nat, i = .int .i64 k ∧ k ≤ n + 1 ∧ (∀ s d, s + d < k → isum x (s + d) ≤ isum x s + lineOf r B d) ∧ wr = wz.drewN dr) (fun i _ => n + 1 - (intOf i).toNat)
  case atStart => exact ⟨0, 0, rfl, Nat.zero_le _, fun s d h => by omega, rfl⟩
  case round =>
    obtain ⟨k, dr, rfl, hk, hall, rfl⟩ := hrel
    have HA := Lib.hid hall
    clear hall
    by_cases hlt : k < n + 1
    · obtain ⟨b1, o1, xv, rfl, hb1, hcx, hxv⟩ := hrs.at_ hlt
      have q1 : (k : Int) ≤ (c5 : Int) := by omega
      have q2 : (k : Int) < (n : Int) + 1 := by omega
      go_wp2_with fail
      go_loopw [33] (fun i wi => ∃ j dj : Nat, i = .int .i64 j ∧ j ≤ k ∧ (∀ s, s < j → isum x k ≤ isum x s + lineOf r B (k - s)) ∧ wi = wz.drewN dj) (fun i _ => k - (intOf i).toNat)
      case atStart => exact ⟨0, dr, rfl, Nat.zero_le _, fun s h => by omega, rfl⟩
      case round =>
        obtain ⟨j, dj, rfl, hj, hall, rfl⟩ := hrel
        have HI := Lib.hid hall
        clear hall
        by_cases hlj : j < k
        · obtain ⟨q, hq⟩ : ∃ q, Hid (k - j = q) := ⟨_, rfl⟩
          have hqi : (k : Int) - (j : Int) = (q : Nat) := by have := hq.out; omega
          have hqn : q < n + 1 := by have := hq.out; omega
          obtain ⟨b2, o2, yv, he, hb2, hcy, hyv⟩ := hrs.at_ (show j < n + 1 by omega)
          injection he with he
          injection he with he1 he2
          subst he1 he2
          obtain ⟨b3, o3, zv, rfl, hb3, hcz, hzv⟩ := hr6.at_ hqn
          have x0 := HS.out k (by omega)
          have y0 := HS.out j (by omega)
          rw [← hxv.out] at x0
          rw [← hyv.out] at y0
          have kw2 : IntKind.i64.wrap ((k : Int) - (j : Int)) = (q : Nat) := by rw [IntWalk.i64_in _ (by omega)]; omega
          have kw3 : IntKind.i64.wrap (xv - yv) = xv - yv := IntWalk.i64_in _ (by omega)
          have q3 : (j : Int) < (k : Int) := by omega
          have q4 : (0 : Int) ≤ (q : Int) := by omega
          have q5 : (q : Int) < (n : Int) + 1 := by omega
          by_cases hv : xv - yv ≤ zv
          · have hd : decide (zv < xv - yv) = false := by simpa using hv
            go_wp2_with fail
            go_roundw
            case rel =>
              refine ⟨j + 1, _, by go_num, by omega, fun s h => ?_, rfl⟩
              rcases Nat.lt_succ_iff_lt_or_eq.1 h with h | h
              · exact HI.out s h
              · subst h; rw [hq.out, ← hxv.out, ← hyv.out, ← hzv.out]; omega
            case measure => simp [intOf]; omega
          · have hd : decide (zv < xv - yv) = true := by simp; omega
            go_wp2_with fail
            go_ret
            have hf : bKept r B n x = false := bKept_false fun h => by
              have := h j q (by have := hq.out; omega)
              rw [show j + q = k by have := hq.out; omega, ← hxv.out, ← hyv.out, ← hzv.out] at this
              omega
            exact ⟨ret_bool hf.symm, hmz.drewN _⟩
        · obtain rfl : j = k := by omega
          go_wp2
          go_roundw
          case rel =>
            refine ⟨j + 1, dj, by go_num, by omega, fun s d h => ?_, rfl⟩
            rcases Nat.lt_succ_iff_lt_or_eq.1 h with h | h
            · exact HA.out s d h
            · cases d with
              | zero => simp [lineOf]
              | succ d =>
                have := HI.out s (by omega)
                rw [show j - s = d + 1 by omega] at this
                rw [h]
                exact this
          case measure => simp [intOf]; omega
    · obtain rfl : k = n + 1 := by omega
      go_wp2
      go_ret
      exact ⟨ret_bool (bKept_true fun s d h => HA.out s d (by omega)).symm, hmz.drewN _⟩

theorem bkeeps_full (r B : Int) (a : Option Addr) (n c : Nat) (x : Nat → Int) (w : World) (hx : Row w a n x) (hn : n ≤ 1152921504606846976) :
    Calls Try.prog 40 #[.agg #[.int .i64 r, .int .i64 B], .slice a n c] w fun e w' => e = .returned (.bool (bRight r B n x && bKept r B n x)) ∧ More w w' := by
  by_cases h : bRight r B n x = true
  · rw [h, Bool.true_and]
    exact bkeeps_any r B a n c x w hx (bRight_iff.1 h)
  · have h' : bRight r B n x = false := by simpa using h
    rw [h', Bool.false_and]
    exact bkeeps_none r B a n c x w hx hn h'
end Go.Proofs.Ytdilmnpoicdkhaa
