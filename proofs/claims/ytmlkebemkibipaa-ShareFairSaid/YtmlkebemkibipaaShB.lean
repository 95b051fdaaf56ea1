/- ShareFair: for every input the law returns true. Conditions: none. -/
import Derived.Test.YtmlkebemkibipaaShA
set_option linter.unusedVariables false
set_option linter.unusedSimpArgs false
namespace Go.Proofs.Ytmlkebemkibipaa
open Go.RowKit Go.Tide
set_option linter.unusedVariables false
set_option linter.unusedSimpArgs false

theorem share_none (all : Int) (a : Option Addr) (n c : Nat) (x : Nat → Int) (w : World) (hx : Row w a n x) (hn : n ≤ 1152921504606846976) (h : sRight n x = false) :
    Calls Try.prog 24 #[.int .i64 all, .slice a n c] w fun e w' => e = .returned (.slice none 0 0) ∧ w = w' := by
  have E := Lib.hid h
  go_enter Try.func24, Try.ntmps24
  go_wp2_with fail
  refine (sright_any a n c x _ (by repeat (first | (with_reducible assumption) | (with_reducible exact Row.nil) | (with_reducible apply Row.drewN) | (with_reducible apply Row.drew) | (with_reducible apply Row.more) | (with_reducible apply Row.alloc))) hn).mono ?_
  rintro e w1 ⟨rfl, rfl⟩
  rw [E.out]
  go_wp2_with fail
  go_ret
  exact ⟨rfl, rfl⟩

set_option maxHeartbeats 2000000 in
theorem shareFair_walk (a0 : Int) (a1 : Option Addr) (len1 cap1 : Nat) (z1 : List Int) (w : World) (b0 : InI64 a0) (f1 : IsFlat w a1 len1 cap1 1 z1) (r1 : cap1 * 8 ≤ 140737488351232) :
    Calls Try.prog 9 #[.int .i64 a0, .slice a1 len1 cap1] w fun e w' => e = .returned (.bool true) ∧ Below w.heap.size w w' := by
  have hle := f1.le
  have hs := f1.row
  generalize (fun k => z1.getD k 0) = x at hs
  clear f1
  by_cases hr : sRight len1 x = true
  · have RR := sRight_iff.1 hr
    have hn := RR.1
    have E0 := Lib.hid hr
    have hfa : 0 ≤ fit a0 := by unfold fit; omega
    have hsum := share_sum RR hfa
    have hfair := share_fair RR hfa
    have HF := Lib.hid hfair
    have hb1 : ∀ k, k < len1 → 0 ≤ shareOf (fit a0) len1 x k ∧ shareOf (fit a0) len1 x k ≤ 1048577 := fun k hk => by
      have h1 := (hfair k hk).1
      have h2 := RR.2 k hk
      omega
    have HB1 := Lib.hid hb1
    have HB2 : Hid (∀ k, k < len1 → 0 ≤ x k ∧ x k ≤ 1048577) := fun k hk => by have := RR.2 k hk; omega
    obtain ⟨T, hT⟩ : ∃ T, Hid (isum x len1 = T) := ⟨_, rfl⟩
    obtain ⟨U, hU⟩ : ∃ U, Hid (isum (shareOf (fit a0) len1 x) len1 = U) := ⟨_, rfl⟩
    rw [hT.out, hU.out] at hsum
    have hmn : (if T < fit a0 then T else fit a0) = U := by omega
    have HR := Lib.hid RR
    clear hr hsum hfair hb1 RR
    go_enter Try.func9, Try.ntmps9
    go_wp2_with (go_at_call 23; refine (share_alive _).mono ?_; rintro e w' ⟨rfl, os, n_, rfl⟩)
    refine (share_any a0 _ len1 _ x _ (by repeat (first | (with_reducible assumption) | (with_reducible exact Row.nil) | (with_reducible apply Row.drewN) | (with_reducible apply Row.drew) | (with_reducible apply Row.more) | (with_reducible apply Row.alloc))) HR.out).mono ?_
    rintro e w1 ⟨a3, c3, rfl, hc3, hr3, hb3⟩
    obtain ⟨os3, d3, rfl⟩ := More.of_below hb3
    have hmz : More w ((w.more os n_).more os3 d3) := (by repeat (first | (with_reducible assumption) | (with_reducible exact More.refl _) | (with_reducible refine More.alloc ?_ _) | (with_reducible refine More.more ?_ _ _) | (with_reducible refine More.drewN ?_ _) | (with_reducible refine More.drew ?_)))
    have hss : Row ((w.more os n_).more os3 d3) a3 len1 (shareOf (fit a0) len1 x) := (by repeat (first | (with_reducible assumption) | (with_reducible exact Row.nil) | (with_reducible apply Row.drewN) | (with_reducible apply Row.drew) | (with_reducible apply Row.more) | (with_reducible apply Row.alloc)))
    have hxx : Row ((w.more os n_).more os3 d3) a1 len1 x := (by repeat (first | (with_reducible assumption) | (with_reducible exact Row.nil) | (with_reducible apply Row.drewN) | (with_reducible apply Row.drew) | (with_reducible apply Row.more) | (with_reducible apply Row.alloc)))
    clear hb3 hr3
    generalize (w.more os n_).more os3 d3 = wz at *
    go_wp2_with fail
    refine (sright_any _ len1 _ x _ (by repeat (first | (with_reducible assumption) | (with_reducible exact Row.nil) | (with_reducible apply Row.drewN) | (with_reducible apply Row.drew) | (with_reducible apply Row.more) | (with_reducible apply Row.alloc))) (by omega)).mono ?_
    rintro e w1 ⟨rfl, rfl⟩
    rw [E0.out]
    go_wp2_with fail
    refine (ssum_any _ len1 _ (shareOf (fit a0) len1 x) _ (by repeat (first | (with_reducible assumption) | (with_reducible exact Row.nil) | (with_reducible apply Row.drewN) | (with_reducible apply Row.drew) | (with_reducible apply Row.more) | (with_reducible apply Row.alloc))) HB1.out (by omega)).mono ?_
    rintro e w1 ⟨rfl, rfl⟩
    rw [hU.out]
    go_wp2_with (go_at_call 27; refine (fit_any _ _).mono ?_; rintro e w' ⟨rfl, rfl⟩)
    refine (ssum_any _ len1 _ x _ (by repeat (first | (with_reducible assumption) | (with_reducible exact Row.nil) | (with_reducible apply Row.drewN) | (with_reducible apply Row.drew) | (with_reducible apply Row.more) | (with_reducible apply Row.alloc))) HB2.out (by omega)).mono ?_
    rintro e w1 ⟨rfl, rfl⟩
    rw [hT.out]
    go_wp2_with fail
    clear hmn hT hU
    go_loopw [36] (fun i wr => ∃ k dr : Nat, i = .int .i64 k ∧ k ≤ len1 ∧ wr = wz.drewN dr) (fun i _ => len1 - (intOf i).toNat)
    case atStart => exact ⟨0, 0, rfl, Nat.zero_le _, rfl⟩
    case round =>
      obtain ⟨k, dr, rfl, hk, rfl⟩ := hrel
      by_cases hlt : k < len1
      · obtain ⟨p1, o1, A, rfl, g1, k1, hA⟩ := hss.at_ hlt
        obtain ⟨p2, o2, V, rfl, g2, k2, hV⟩ := hxx.at_ hlt
        have f1 := (HF.out k hlt).1
        rw [← hA.out, ← hV.out] at f1
        have HFJ : Hid (∀ j, j < len1 → A < V → shareOf (fit a0) len1 x j ≤ A + 1 ∧ (k < j → shareOf (fit a0) len1 x j ≤ A)) := fun j hj => by
          rw [hA.out, hV.out]
          exact (HF.out k hlt).2 j hj
        have hAb := (HB1.out k hlt).2
        rw [← hA.out] at hAb
        have d1 : decide (A < 0) = false := by simp; omega
        have d2 : decide (V < A) = false := by simp; omega
        have q1 : (k : Int) < (len1 : Int) := by omega
        have kw : IntKind.i64.wrap (A + 1) = A + 1 := IntWalk.i64_in _ (by omega)
        go_wp2_with fail
        go_quiet (fail)
        go_wp2_with fail
        go_loopw [57] (fun i wi => ∃ j dj : Nat, i = .int .i64 j ∧ j ≤ len1 ∧ wi = wz.drewN dj) (fun i _ => len1 - (intOf i).toNat)
        case atStart => exact ⟨0, _, rfl, Nat.zero_le _, rfl⟩
        case round =>
          obtain ⟨j, dj, rfl, hj, rfl⟩ := hrel
          by_cases hlj : j < len1
          · obtain ⟨p3, o3, B, he, g3, k3, hB⟩ := hss.at_ hlj
            injection he with he
            injection he with he1 he2
            subst he1 he2
            have fj := HFJ.out j hlj
            rw [← hB.out] at fj
            have q2 : (j : Int) < (len1 : Int) := by omega
            by_cases hAV : A < V
            · have d3 : decide (A < V) = true := by simpa using hAV
              have f2 := fj hAV
              have d4 : decide (A + 1 < B) = false := by simp; omega
              by_cases hkj : k < j
              · have d5 : decide ((k : Int) < (j : Int)) = true := by simp; omega
                have d7 : decide (k < j) = true := by simp; omega
                have d6 : decide (A < B) = false := by have := f2.2 hkj; simp; omega
                clear fj f2 hAV
                go_wp2_with fail
                go_quiet (fail)
                go_wp2
                go_roundw
                case rel => exact ⟨j + 1, _, by go_num, by omega, rfl⟩
                case measure => simp [intOf]; omega
              · have d5 : decide ((k : Int) < (j : Int)) = false := by simp; omega
                have d7 : decide (k < j) = false := by simp; omega
                clear fj f2 hAV hkj
                go_wp2_with fail
                go_quiet (fail)
                go_wp2
                go_roundw
                case rel => exact ⟨j + 1, _, by go_num, by omega, rfl⟩
                case measure => simp [intOf]; omega
            · have d3 : decide (A < V) = false := by simpa using hAV
              clear fj hAV
              go_wp2_with fail
              go_quiet (fail)
              go_wp2
              go_roundw
              case rel => exact ⟨j + 1, _, by go_num, by omega, rfl⟩
              case measure => simp [intOf]; omega
          · obtain rfl : j = len1 := by omega
            go_wp2
            go_roundw
            case rel => exact ⟨k + 1, _, by go_num, by omega, rfl⟩
            case measure => simp [intOf]; omega
      · obtain rfl : k = len1 := by omega
        go_wp2
        go_ret
        exact ⟨rfl, (hmz.drewN _).below⟩
  · have hr' : sRight len1 x = false := by simpa using hr
    have E0 := Lib.hid hr'
    clear hr hr'
    go_enter Try.func9, Try.ntmps9
    go_wp2_with (go_at_call 23; refine (share_alive _).mono ?_; rintro e w' ⟨rfl, os, n_, rfl⟩)
    refine (share_none a0 _ len1 _ x _ (by repeat (first | (with_reducible assumption) | (with_reducible exact Row.nil) | (with_reducible apply Row.drewN) | (with_reducible apply Row.drew) | (with_reducible apply Row.more) | (with_reducible apply Row.alloc))) (by omega) E0.out).mono ?_
    rintro e w1 ⟨rfl, rfl⟩
    go_wp2_with fail
    refine (sright_any _ len1 _ x _ (by repeat (first | (with_reducible assumption) | (with_reducible exact Row.nil) | (with_reducible apply Row.drewN) | (with_reducible apply Row.drew) | (with_reducible apply Row.more) | (with_reducible apply Row.alloc))) (by omega)).mono ?_
    rintro e w1 ⟨rfl, rfl⟩
    rw [E0.out]
    go_wp2_with fail
    go_ret
    exact ⟨rfl, More.below (by repeat (first | (with_reducible assumption) | (with_reducible exact More.refl _) | (with_reducible refine More.alloc ?_ _) | (with_reducible refine More.more ?_ _ _) | (with_reducible refine More.drewN ?_ _) | (with_reducible refine More.drew ?_)))⟩
end Go.Proofs.Ytmlkebemkibipaa
