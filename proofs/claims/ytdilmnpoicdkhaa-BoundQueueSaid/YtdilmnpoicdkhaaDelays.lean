/- What queue.Delays answers, for every input. Conditions: lengths within the form's reach. -/
import Derived.Test.YtdilmnpoicdkhaaPlay
set_option linter.unusedVariables false
set_option linter.unusedSimpArgs false
namespace Go.Tide
theorem went_small {R M : Int} {n : Nat} {x : Nat → Int} (h : BRight R M n x) : Small n (quWent R M x) := ⟨h.2.2.1, fun k hk => by
  have := qu_bounds h.1.1 h.2.1.1 (fun k hk => (h.2.2.2 k hk).1) k hk
  have := h.1
  omega⟩
theorem lost_small {R M : Int} {n : Nat} {x : Nat → Int} (h : BRight R M n x) : Small n (quLost R M x) := ⟨h.2.2.1, fun k hk => by
  have := qu_bounds h.1.1 h.2.1.1 (fun k hk => (h.2.2.2 k hk).1) k hk
  have := h.2.2.2 k hk
  omega⟩
end Go.Tide
namespace Go.Proofs.Ytdilmnpoicdkhaa
open Go.RowKit Go.Tide
set_option linter.unusedVariables false
set_option linter.unusedSimpArgs false

theorem delays_none (R : Int) (a : Option Addr) (n c : Nat) (x : Nat → Int) (w : World) (hx : Row w a n x) (hn : n ≤ 17592186044400) (h : bRight R 1099511627776 n x = false) :
    Calls Try.prog 48 #[.int .i64 R, .slice a n c] w fun e w' => e = .returned (.slice none 0 0) ∧ More w w' := by
  have E := Lib.hid h
  go_enter Try.func48, Try.ntmps48
  go_wp2_with fail
  refine (play_none R _ a n c x _ (by repeat (first | (with_reducible assumption) | (with_reducible exact Row.nil) | (with_reducible apply Row.drewN) | (with_reducible apply Row.drew) | (with_reducible apply Row.more) | (with_reducible apply Row.alloc))) (by omega) E.out).mono ?_
  rintro e w1 ⟨rfl, os, d, rfl⟩
  go_wp2_with fail
  refine (cof_any _ n _ x _ (by repeat (first | (with_reducible assumption) | (with_reducible exact Row.nil) | (with_reducible apply Row.drewN) | (with_reducible apply Row.drew) | (with_reducible apply Row.more) | (with_reducible apply Row.alloc))) (by omega)).mono ?_
  rintro e w1 ⟨a1, c1, rfl, hc1, hr1, hb1⟩
  obtain ⟨os1, d1, rfl⟩ := More.of_below hb1
  go_wp2_with fail
  refine (cof_any _ 0 _ (fun _ => 0) _ Row.nil (by omega)).mono ?_
  rintro e w1 ⟨a2, c2, rfl, hc2, hr2, hb2⟩
  obtain ⟨os2, d2, rfl⟩ := More.of_below hb2
  have hm : More w (((w.more os d).more os1 d1).more os2 d2) := (by repeat (first | (with_reducible assumption) | (with_reducible exact More.refl _) | (with_reducible refine More.alloc ?_ _) | (with_reducible refine More.more ?_ _ _) | (with_reducible refine More.drewN ?_ _) | (with_reducible refine More.drew ?_)))
  generalize ((w.more os d).more os1 d1).more os2 d2 = wz at *
  go_wp2_with fail
  go_loopw [11, 10, 26] (fun d l i wr => i = .int .i64 0 ∧ l = .slice none 0 0 ∧ wr = wz) (fun _ _ _ _ => 0)
  case atStart => exact ⟨rfl, rfl, rfl⟩
  case round =>
    obtain ⟨rfl, rfl, rfl⟩ := hrel
    go_wp2
    go_ret
    exact ⟨rfl, hm⟩

set_option maxHeartbeats 1000000 in
theorem delays_any (R : Int) (a : Option Addr) (n c : Nat) (x : Nat → Int) (w : World) (hx : Row w a n x) (h : BRight R 1099511627776 n x) :
    Calls Try.prog 48 #[.int .i64 R, .slice a n c] w fun e w' => ∃ a' c', e = .returned (.slice a' n c') ∧ n ≤ c' ∧ Row w' a' n (delayOf n (isum x) (isum (quWent R 1099511627776 x))) ∧ Below w.heap.size w w' := by
  have hs1 := h.2.2
  have hs2 := went_small h
  have hn := hs1.1
  have HR := Lib.hid h
  clear h
  obtain ⟨i0, hi, hz0, hz1, hz2⟩ := info_parts intInfo
  go_enter Try.func48, Try.ntmps48
  go_wp2_with fail
  refine (play_any R _ a n c x _ (by repeat (first | (with_reducible assumption) | (with_reducible exact Row.nil) | (with_reducible apply Row.drewN) | (with_reducible apply Row.drew) | (with_reducible apply Row.more) | (with_reducible apply Row.alloc))) HR.out).mono ?_
  rintro e w1 ⟨a1, c1, a2, c2, a3, c3, rfl, ⟨hc1, hc2, hc3⟩, ⟨hr1, hr2, hr3⟩, hb1⟩
  obtain ⟨os1, d1, rfl⟩ := More.of_below hb1
  go_wp2_with fail
  refine (cof_any _ n _ x _ (by repeat (first | (with_reducible assumption) | (with_reducible exact Row.nil) | (with_reducible apply Row.drewN) | (with_reducible apply Row.drew) | (with_reducible apply Row.more) | (with_reducible apply Row.alloc))) (by omega)).mono ?_
  rintro e w1 ⟨a4, c4, rfl, hc4, hr4, hb4⟩
  obtain ⟨os4, d4, rfl⟩ := More.of_below hb4
  go_wp2_with fail
  refine (cof_any _ n _ (quWent R 1099511627776 x) _ (by repeat (first | (with_reducible assumption) | (with_reducible exact Row.nil) | (with_reducible apply Row.drewN) | (with_reducible apply Row.drew) | (with_reducible apply Row.more) | (with_reducible apply Row.alloc))) (by omega)).mono ?_
  rintro e w1 ⟨a5, c5, rfl, hc5, hr5, hb5⟩
  obtain ⟨os5, d5, rfl⟩ := More.of_below hb5
  have hm : More w (((w.more os1 d1).more os4 d4).more os5 d5) := (by repeat (first | (with_reducible assumption) | (with_reducible exact More.refl _) | (with_reducible refine More.alloc ?_ _) | (with_reducible refine More.more ?_ _ _) | (with_reducible refine More.drewN ?_ _) | (with_reducible refine More.drew ?_)))
  have hri : Row (((w.more os1 d1).more os4 d4).more os5 d5) a4 (n + 1) (isum x) := Row.congr (by repeat (first | (with_reducible assumption) | (with_reducible exact Row.nil) | (with_reducible apply Row.drewN) | (with_reducible apply Row.drew) | (with_reducible apply Row.more) | (with_reducible apply Row.alloc))) (fun k hk => hs1.of k (by omega))
  have hro : Row (((w.more os1 d1).more os4 d4).more os5 d5) a5 (n + 1) (isum (quWent R 1099511627776 x)) := Row.congr (by repeat (first | (with_reducible assumption) | (with_reducible exact Row.nil) | (with_reducible apply Row.drewN) | (with_reducible apply Row.drew) | (with_reducible apply Row.more) | (with_reducible apply Row.alloc))) (fun k hk => hs2.of k (by omega))
  have HI : Hid (∀ t, t < n → isum x t ≤ isum x (t + 1)) := fun t ht => by have := hs1.2 t ht; simp only [isum]; omega
  clear hr1 hr2 hr3 hr4 hr5 hb1 hb4 hb5 hx hs1 hs2 HR
  obtain ⟨fi, hfi⟩ : ∃ fi, Hid (isum x = fi) := ⟨_, rfl⟩
  obtain ⟨fo, hfo⟩ : ∃ fo, Hid (isum (quWent R 1099511627776 x) = fo) := ⟨_, rfl⟩
  rw [hfi.out] at hri HI
  rw [hfo.out] at hro
  generalize ((w.more os1 d1).more os4 d4).more os5 d5 = wz at *
  have hmb := hm.below
  have hms := hmb.size
  go_wp2_with fail
  go_loopw [11, 10, 26] (fun d l i wr => ∃ k D : Nat, i = .int .i64 k ∧ k ≤ n ∧ d = .int .i64 D ∧ D ≤ n + 1 ∧ (∀ j, k ≤ j → j < D → fo j < fi k) ∧ wr.ownsRow wz.heap.size 3 1 l k (cellsOf k (delayOf n fi fo)) ∧ Below wz.heap.size wz wr) (fun _ _ i _ => n - (intOf i).toNat)
  case atStart => exact ⟨0, 0, rfl, Nat.zero_le _, rfl, Nat.zero_le _, fun j _ h => by omega, World.ownsRow_nil _ _ _ _, Below.refl _ _⟩
  case round =>
    obtain ⟨k, D, rfl, hk, rfl, hD, hall, hown, hbe⟩ := hrel
    have HA := Lib.hid hall
    clear hall
    have hsz := hbe.size
    by_cases hlt : k < n
    · have hri1 := hri.below hbe (Nat.le_refl _)
      have hro1 := hro.below hbe (Nat.le_refl _)
      obtain ⟨E, hE⟩ : ∃ E, Hid (max D (k + 1) = E) := ⟨_, rfl⟩
      have hmx : (if (D : Int) < (k : Int) + 1 then (k : Int) + 1 else (D : Int)) = (E : Nat) := by have := hE.out; omega
      have q2 : (k : Int) < (n : Int) := by omega
      go_wp2_with fail
      go_loopw [11] (fun d wi => ∃ F dr : Nat, d = .int .i64 F ∧ k + 1 ≤ F ∧ F ≤ n + 1 ∧ (∀ j, k + 1 ≤ j → j < F → fo j < fi (k + 1)) ∧ wi = wr.drewN dr) (fun d _ => n + 1 - (intOf d).toNat)
      case atStart => exact ⟨E, 0, rfl, by have := hE.out; omega, by have := hE.out; omega, fun j h1 h2 => by
        have h3 := HA.out j (by omega) (by have := hE.out; omega)
        have h4 := HI.out k hlt
        omega, rfl⟩
      case round =>
        obtain ⟨F, dr, rfl, hF1, hF2, hin, rfl⟩ := hrel
        have HN := Lib.hid hin
        clear hin
        obtain ⟨b2, o2, yv, rfl, hb2, hcy, hyv⟩ := hri1.at_ (show k + 1 < n + 1 by omega)
        have kw : IntKind.i64.wrap ((k : Int) + 1) = (k : Int) + 1 := IntWalk.i64_in _ (by omega)
        have q5 : (k : Int) + 1 < (n : Int) + 1 := by omega
        have q6 : (0 : Int) ≤ (k : Int) + 1 := by omega
        have q7 : ((k : Int) + 1).toNat = k + 1 := by omega
        have q8 : (k : Int) < (n : Int) := by omega
        by_cases hlj : F < n + 1
        · obtain ⟨b1, o1, xv, rfl, hb1, hcx, hxv⟩ := hro1.at_ hlj
          have q3 : (F : Int) < (n : Int) + 1 := by omega
          have q4 : (0 : Int) ≤ (F : Int) := by omega
          by_cases hv : xv < yv
          · have hd : decide (xv < yv) = true := by simpa using hv
            go_wp2_with fail
            go_quiet (fail)
            go_wp2
            go_roundw
            case rel =>
              refine ⟨F + 1, _, by go_num, by omega, by omega, fun j h1 h2 => ?_, rfl⟩
              rcases Nat.lt_succ_iff_lt_or_eq.1 h2 with h | h
              · exact HN.out j h1 h
              · subst h; rw [← hxv.out, ← hyv.out]; exact hv
            case measure => simp [intOf]; omega
          · have hd : decide (xv < yv) = false := by simpa using hv
            have hg : GoneAt n fi fo k F := ⟨hF1, by omega, by rw [← hxv.out, ← hyv.out]; omega, HN.out⟩
            have HD := Lib.hid (delay_at hg)
            clear hg hv
            have hne : ((F : Int) == (n : Int) + 1) = false := by simp; omega
            go_wp2_with fail
            go_quiet (fail)
            go_wp2_with (at_builtin; refine wpList_append_own _ rfl _ _ 22 rfl _ 3 i0 (.int .i64 0) 1 8 Try.underlying22 hi hz0 hz1 hz2 rfl (by decide) _ _ _ rfl (own_drewN (hown.alloc _) _) _ _ _ [.int .i64 _] rfl rfl (cell_oneq _ _ _ _) (oneCell_int _ _) (by simp only [maxLen]; omega) (by omega) (by simp; omega) ?_; intro v' w1 hown' hgrow hnil; clear hnil)
            go_roundw
            case rel => exact ⟨k + 1, F, by go_num, by omega, rfl, hF2, fun j h1 h2 => HN.out j h1 h2, by rw [cellsOf_succ, HD.out]; exact hown', below_appendq hbe hsz hown hgrow⟩
            case measure => simp [intOf]; omega
        · obtain rfl : F = n + 1 := by omega
          have HD := Lib.hid (delay_none (n := n) (i := fi) (o := fo) (t := k) (fun d h1 h2 => HN.out d h1 (by omega)))
          go_wp2_with fail
          go_quiet (fail)
          go_wp2_with (at_builtin; refine wpList_append_own _ rfl _ _ 22 rfl _ 3 i0 (.int .i64 0) 1 8 Try.underlying22 hi hz0 hz1 hz2 rfl (by decide) _ _ _ rfl (own_drewN (hown.alloc _) _) _ _ _ [.int .i64 _] rfl rfl (cell_oneq _ _ _ _) (oneCell_int _ _) (by simp only [maxLen]; omega) (by omega) (by simp; omega) ?_; intro v' w1 hown' hgrow hnil; clear hnil)
          go_roundw
          case rel => exact ⟨k + 1, n + 1, by go_num, by omega, by go_num, by omega, fun j h1 h2 => HN.out j h1 h2, by rw [cellsOf_succ, HD.out]; exact hown', below_appendq hbe hsz hown hgrow⟩
          case measure => simp [intOf]; omega
    · obtain rfl : k = n := by omega
      obtain ⟨a', c', hv, hc'⟩ := own_slice hown
      subst hv
      go_wp2
      go_ret
      refine ⟨a', c', rfl, hc', ?_, hmb.trans (hbe.mono hms)⟩
      rw [hfi.out, hfo.out]
      exact Row.of_own hown
end Go.Proofs.Ytdilmnpoicdkhaa
