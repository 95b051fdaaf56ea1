/- ShareMore: for every input the law returns true. Conditions: none. -/
import Derived.Test.YtmlkebemkibipaaShMore
import Derived.Test.YtmlkebemkibipaaClone
import Derived.Test.YtmlkebemkibipaaBase
set_option linter.unusedVariables false
set_option linter.unusedSimpArgs false
namespace Go.Tide
theorem shares_law {n K : Nat} {x : Nat → Int} {a b less : Int} (h : SRight n x) (hK : K < n) (h0 : 0 ≤ less) (h1 : less ≤ x K) :
    SRight n (setAt x K (x K - less)) ∧ ∀ i, i < n → shareOf (fit a) n x i ≤ shareOf (fit (plus a b)) n x i ∧ (i ≠ K → shareOf (fit a) n x i ≤ shareOf (fit a) n (setAt x K (x K - less)) i) := by
  have hf : 0 ≤ fit a := by unfold fit; omega
  have hs : SRight n (setAt x K (x K - less)) := by
    refine ⟨h.1, fun k hk => ?_⟩
    have := h.2 k hk
    unfold setAt
    by_cases e : k = K
    · subst e; rw [if_pos rfl]; omega
    · rw [if_neg e]; exact this
  refine ⟨hs, fun i hi => ⟨share_more h h hf ?_ (fun _ _ => Int.le_refl _) i hi rfl, fun hne => share_more h hs hf (Int.le_refl _) (fun j hj => ?_) i hi (by unfold setAt; rw [if_neg hne])⟩⟩
  · unfold plus fit; omega
  · unfold setAt
    by_cases e : j = K
    · subst e; rw [if_pos rfl]; omega
    · rw [if_neg e]; exact Int.le_refl _
end Go.Tide
namespace Go.Proofs.Ytmlkebemkibipaa
open Go.RowKit Go.Tide
set_option linter.unusedVariables false
set_option linter.unusedSimpArgs false

set_option maxHeartbeats 2000000 in
theorem shareMore_walk (a0 : Int) (a1 : Int) (a2 : Option Addr) (len2 cap2 : Nat) (z2 : List Int) (a3 : Int) (a4 : Int) (w : World) (b0 : InI64 a0) (b1 : InI64 a1) (f2 : IsFlat w a2 len2 cap2 1 z2) (r2 : cap2 * 8 ≤ 140737488351232) (b3 : InI64 a3) (b4 : InI64 a4) :
    Calls Try.prog 11 #[.int .i64 a0, .int .i64 a1, .slice a2 len2 cap2, .int .i64 a3, .int .i64 a4] w fun e w' => e = .returned (.bool true) ∧ Below w.heap.size w w' := by
  have hle := f2.le
  have hs := f2.row
  generalize (fun k => z2.getD k 0) = x at hs
  clear f2
  by_cases hr : sRight len2 x = true
  · have E0 := Lib.hid hr
    have HS := Lib.hid (sRight_iff.1 hr)
    have hn := (sRight_iff.1 hr).1
    clear hr
    by_cases c1 : a3 < 0
    · have d1 : decide (a3 < 0) = true := by simpa using c1
      go_enter Try.func11, Try.ntmps11
      go_wp2_with (go_at_call 23; refine (share_alive _).mono ?_; rintro e w' ⟨rfl, os, n_, rfl⟩)
      refine (sright_any _ len2 _ x _ (by repeat (first | (with_reducible assumption) | (with_reducible exact Row.nil) | (with_reducible apply Row.drewN) | (with_reducible apply Row.drew) | (with_reducible apply Row.more) | (with_reducible apply Row.alloc))) (by omega)).mono ?_
      rintro e w1 ⟨rfl, rfl⟩
      rw [E0.out]
      go_wp2
      go_ret
      exact ⟨rfl, More.below (by repeat (first | (with_reducible assumption) | (with_reducible exact More.refl _) | (with_reducible refine More.alloc ?_ _) | (with_reducible refine More.more ?_ _ _) | (with_reducible refine More.drewN ?_ _) | (with_reducible refine More.drew ?_)))⟩
    · have d1 : decide (a3 < 0) = false := by simpa using c1
      by_cases c2 : (len2 : Int) ≤ a3
      · have d2 : decide ((len2 : Int) ≤ a3) = true := by simpa using c2
        go_enter Try.func11, Try.ntmps11
        go_wp2_with (go_at_call 23; refine (share_alive _).mono ?_; rintro e w' ⟨rfl, os, n_, rfl⟩)
        refine (sright_any _ len2 _ x _ (by repeat (first | (with_reducible assumption) | (with_reducible exact Row.nil) | (with_reducible apply Row.drewN) | (with_reducible apply Row.drew) | (with_reducible apply Row.more) | (with_reducible apply Row.alloc))) (by omega)).mono ?_
        rintro e w1 ⟨rfl, rfl⟩
        rw [E0.out]
        go_wp2
        go_ret
        exact ⟨rfl, More.below (by repeat (first | (with_reducible assumption) | (with_reducible exact More.refl _) | (with_reducible refine More.alloc ?_ _) | (with_reducible refine More.more ?_ _ _) | (with_reducible refine More.drewN ?_ _) | (with_reducible refine More.drew ?_)))⟩
      · obtain ⟨K, rfl⟩ : ∃ K : Nat, a3 = K := ⟨a3.toNat, by omega⟩
        have hK : K < len2 := by omega
        have d2 : decide ((len2 : Int) ≤ (K : Int)) = false := by simp; omega
        have d2' : decide (len2 ≤ K) = false := by simp; omega
        clear c1 c2 d1
        obtain ⟨b, off, V, rfl, hb, hc, hV⟩ := hs.at_ hK
        have hVb := HS.out.2 K hK
        rw [← hV.out] at hVb
        obtain ⟨v1, v2⟩ := hVb
        have k0 : (0 : Int) ≤ (K : Int) := by omega
        have k1 : (K : Int) < (len2 : Int) := by omega
        by_cases c3 : a4 < 0
        · have d3 : decide (a4 < 0) = true := by simpa using c3
          go_enter Try.func11, Try.ntmps11
          go_wp2_with (go_at_call 23; refine (share_alive _).mono ?_; rintro e w' ⟨rfl, os, n_, rfl⟩)
          refine (sright_any _ len2 _ x _ (by repeat (first | (with_reducible assumption) | (with_reducible exact Row.nil) | (with_reducible apply Row.drewN) | (with_reducible apply Row.drew) | (with_reducible apply Row.more) | (with_reducible apply Row.alloc))) (by omega)).mono ?_
          rintro e w1 ⟨rfl, rfl⟩
          rw [E0.out]
          go_wp2
          go_ret
          exact ⟨rfl, More.below (by repeat (first | (with_reducible assumption) | (with_reducible exact More.refl _) | (with_reducible refine More.alloc ?_ _) | (with_reducible refine More.more ?_ _ _) | (with_reducible refine More.drewN ?_ _) | (with_reducible refine More.drew ?_)))⟩
        · have d3 : decide (a4 < 0) = false := by simpa using c3
          by_cases c4 : V < a4
          · have d4 : decide (V < a4) = true := by simpa using c4
            go_enter Try.func11, Try.ntmps11
            go_wp2_with (go_at_call 23; refine (share_alive _).mono ?_; rintro e w' ⟨rfl, os, n_, rfl⟩)
            refine (sright_any _ len2 _ x _ (by repeat (first | (with_reducible assumption) | (with_reducible exact Row.nil) | (with_reducible apply Row.drewN) | (with_reducible apply Row.drew) | (with_reducible apply Row.more) | (with_reducible apply Row.alloc))) (by omega)).mono ?_
            rintro e w1 ⟨rfl, rfl⟩
            rw [E0.out]
            go_wp2
            go_ret
            exact ⟨rfl, More.below (by repeat (first | (with_reducible assumption) | (with_reducible exact More.refl _) | (with_reducible refine More.alloc ?_ _) | (with_reducible refine More.more ?_ _ _) | (with_reducible refine More.drewN ?_ _) | (with_reducible refine More.drew ?_)))⟩
          · have d4 : decide (V < a4) = false := by simpa using c4
            have HL := Lib.hid (shares_law (a := a0) (b := a1) (less := a4) HS.out hK (by omega) (by rw [← hV.out]; omega))
            go_enter Try.func11, Try.ntmps11
            go_wp2_with (go_at_call 23; refine (share_alive _).mono ?_; rintro e w' ⟨rfl, os, n_, rfl⟩)
            refine (sright_any _ len2 _ x _ (by repeat (first | (with_reducible assumption) | (with_reducible exact Row.nil) | (with_reducible apply Row.drewN) | (with_reducible apply Row.drew) | (with_reducible apply Row.more) | (with_reducible apply Row.alloc))) (by omega)).mono ?_
            rintro e w1 ⟨rfl, rfl⟩
            rw [E0.out]
            go_wp2_with fail
            refine (share_any a0 _ len2 _ x _ (by repeat (first | (with_reducible assumption) | (with_reducible exact Row.nil) | (with_reducible apply Row.drewN) | (with_reducible apply Row.drew) | (with_reducible apply Row.more) | (with_reducible apply Row.alloc))) HS.out).mono ?_
            rintro e w1 ⟨a_1, c_1, rfl, hc_1, hr_1, hb_1⟩
            obtain ⟨os_1, d_1, rfl⟩ := More.of_below hb_1
            clear hb_1
            go_wp2_with (go_at_call 29; refine (plus_any _ _ _).mono ?_; rintro e w' ⟨rfl, rfl⟩)
            refine (share_any (plus a0 a1) _ len2 _ x _ (by repeat (first | (with_reducible assumption) | (with_reducible exact Row.nil) | (with_reducible apply Row.drewN) | (with_reducible apply Row.drew) | (with_reducible apply Row.more) | (with_reducible apply Row.alloc))) HS.out).mono ?_
            rintro e w1 ⟨a_2, c_2, rfl, hc_2, hr_2, hb_2⟩
            obtain ⟨os_2, d_2, rfl⟩ := More.of_below hb_2
            clear hb_2
            go_wp2_with fail
            refine (clone_any b off len2 cap2 x _ (by repeat (first | (with_reducible assumption) | (with_reducible exact Row.nil) | (with_reducible apply Row.drewN) | (with_reducible apply Row.drew) | (with_reducible apply Row.more) | (with_reducible apply Row.alloc))) (by omega) (by omega)).mono ?_
            rintro e w1 ⟨g, cg, rfl, hcg, hown, hbc⟩
            have hmz : More w (((w.more os n_).more os_1 d_1).more os_2 d_2) := (by repeat (first | (with_reducible assumption) | (with_reducible exact More.refl _) | (with_reducible refine More.alloc ?_ _) | (with_reducible refine More.more ?_ _ _) | (with_reducible refine More.drewN ?_ _) | (with_reducible refine More.drew ?_)))
            have hAz : Row (((w.more os n_).more os_1 d_1).more os_2 d_2) a_1 len2 (shareOf (fit a0) len2 x) := (by repeat (first | (with_reducible assumption) | (with_reducible exact Row.nil) | (with_reducible apply Row.drewN) | (with_reducible apply Row.drew) | (with_reducible apply Row.more) | (with_reducible apply Row.alloc)))
            have hBz : Row (((w.more os n_).more os_1 d_1).more os_2 d_2) a_2 len2 (shareOf (fit (plus a0 a1)) len2 x) := (by repeat (first | (with_reducible assumption) | (with_reducible exact Row.nil) | (with_reducible apply Row.drewN) | (with_reducible apply Row.drew) | (with_reducible apply Row.more) | (with_reducible apply Row.alloc)))
            clear hr_1 hr_2
            generalize ((w.more os n_).more os_1 d_1).more os_2 d_2 = wz at *
            have hgb : wz.heap.size ≤ g := (hown.lt g rfl).1
            have hcell : w1.cell? ⟨g, K, none⟩ = some (.int .i64 V) := by
              rw [hown.cellAt K (by omega), cellsOf_get x hK, hV.out]
            have hfro := hown.frozenAt K
            have hst := (hown.stored K (.int .i64 (V - a4))).1
            rw [cells_set _ _ x (V - a4) hK] at hst
            have hC0 := Row.of_own hst
            have hbW : Below wz.heap.size wz (w1.setCell ⟨g, K, none⟩ (.int .i64 (V - a4))) := hbc.setCell (p := ⟨g, K, none⟩) hgb _
            go_wp2_with fail
            rw [hV.out] at hC0 hbW ⊢
            clear hst hown hcell hfro hbc hgb hc
            generalize w1.setCell ⟨g, K, none⟩ (.int .i64 (x K - a4)) = w2 at *
            have hA2 : Row w2 a_1 len2 (shareOf (fit a0) len2 x) := hAz.below hbW (Nat.le_refl _)
            have hB2 : Row w2 a_2 len2 (shareOf (fit (plus a0 a1)) len2 x) := hBz.below hbW (Nat.le_refl _)
            refine (share_any a0 _ len2 _ _ _ hC0 HL.out.1).mono ?_
            rintro e w3 ⟨a_3, c_3, rfl, hc_3, hr_3, hb_3⟩
            obtain ⟨os_3, d_3, rfl⟩ := More.of_below hb_3
            have hA4 : Row (w2.more os_3 d_3) a_1 len2 (shareOf (fit a0) len2 x) := (by repeat (first | (with_reducible assumption) | (with_reducible exact Row.nil) | (with_reducible apply Row.drewN) | (with_reducible apply Row.drew) | (with_reducible apply Row.more) | (with_reducible apply Row.alloc)))
            have hB4 : Row (w2.more os_3 d_3) a_2 len2 (shareOf (fit (plus a0 a1)) len2 x) := (by repeat (first | (with_reducible assumption) | (with_reducible exact Row.nil) | (with_reducible apply Row.drewN) | (with_reducible apply Row.drew) | (with_reducible apply Row.more) | (with_reducible apply Row.alloc)))
            have hbF : Below w.heap.size w (w2.more os_3 d_3) := below_then (hmz.below.trans (hbW.mono hmz.below.size)) (by have := hmz.below.size; have := hbW.size; omega) (by repeat (first | (with_reducible assumption) | (with_reducible exact More.refl _) | (with_reducible refine More.alloc ?_ _) | (with_reducible refine More.more ?_ _ _) | (with_reducible refine More.drewN ?_ _) | (with_reducible refine More.drew ?_)))
            clear hb_3 hA2 hB2 hAz hBz hC0 hbW hmz
            generalize w2.more os_3 d_3 = wq at *
            go_wp2_with fail
            go_loopw [84] (fun i wi => ∃ k dr : Nat, i = .int .i64 k ∧ k ≤ len2 ∧ wi = wq.drewN dr) (fun i _ => len2 - (intOf i).toNat)
            case atStart => exact ⟨0, 0, rfl, Nat.zero_le _, rfl⟩
            case round =>
              obtain ⟨k, dr, rfl, hk, rfl⟩ := hrel
              by_cases hlt : k < len2
              · obtain ⟨pA, oA, A, rfl, gA, kA, hA⟩ := hA4.at_ hlt
                obtain ⟨pB, oB, B, rfl, gB, kB, hB⟩ := hB4.at_ hlt
                obtain ⟨pC, oC, C, rfl, gC, kC, hC⟩ := hr_3.at_ hlt
                have hl := HL.out.2 k hlt
                rw [← hA.out, ← hB.out, ← hC.out] at hl
                obtain ⟨l1, l2⟩ := hl
                have e1 : decide (B < A) = false := by simp; omega
                have t1 : (k : Int) < (len2 : Int) := by omega
                by_cases hkK : k = K
                · have e2 : ((k : Int) != (K : Int)) = false := by simp; omega
                  have e2' : (k != K) = false := by simp; omega
                  clear l1 l2 hkK
                  go_wp2_with fail
                  go_quiet (fail)
                  go_wp2
                  go_roundw
                  case rel => exact ⟨k + 1, _, by go_num, by omega, rfl⟩
                  case measure => simp [intOf]; omega
                · have e2 : ((k : Int) != (K : Int)) = true := by simp; omega
                  have e2' : (k != K) = true := by simp; omega
                  have e3 : decide (C < A) = false := by have := l2 hkK; simp; omega
                  clear l1 l2 hkK
                  go_wp2_with fail
                  go_quiet (fail)
                  go_wp2
                  go_roundw
                  case rel => exact ⟨k + 1, _, by go_num, by omega, rfl⟩
                  case measure => simp [intOf]; omega
              · obtain rfl : k = len2 := by omega
                go_wp2
                go_ret
                exact ⟨rfl, hbF.drewN _⟩
  · have hr' : sRight len2 x = false := by simpa using hr
    have E0 := Lib.hid hr'
    clear hr hr'
    go_enter Try.func11, Try.ntmps11
    go_wp2_with (go_at_call 23; refine (share_alive _).mono ?_; rintro e w' ⟨rfl, os, n_, rfl⟩)
    refine (sright_any _ len2 _ x _ (by repeat (first | (with_reducible assumption) | (with_reducible exact Row.nil) | (with_reducible apply Row.drewN) | (with_reducible apply Row.drew) | (with_reducible apply Row.more) | (with_reducible apply Row.alloc))) (by omega)).mono ?_
    rintro e w1 ⟨rfl, rfl⟩
    rw [E0.out]
    go_wp2
    go_ret
    exact ⟨rfl, More.below (by repeat (first | (with_reducible assumption) | (with_reducible exact More.refl _) | (with_reducible refine More.alloc ?_ _) | (with_reducible refine More.more ?_ _ _) | (with_reducible refine More.drewN ?_ _) | (with_reducible refine More.drew ?_)))⟩
end Go.Proofs.Ytmlkebemkibipaa
