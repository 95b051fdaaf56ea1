/- MinplusOver: for every input the law returns true. Conditions: none. -/
import Derived.Test.YtdilmnpoicdkhaaMpLaws
import Derived.Deep.RegionHeld3
set_option linter.unusedVariables false
set_option linter.unusedSimpArgs false
namespace Go.Tide
/-- One of three. -/
def pick3 {α : Type} (k : Nat) (x y z : α) : α := match k with
  | 0 => x
  | 1 => y
  | _ => z
theorem tame_or (x : Int) : Tame x ∨ (1099511627776 < fit x ∧ fit x < 1152921504606846976) := by
  have := fit_bounds x
  unfold Tame
  omega
end Go.Tide
namespace Go.Proofs.Ytdilmnpoicdkhaa
open Go.RowKit Go.Tide
set_option linter.unusedVariables false
set_option linter.unusedSimpArgs false

set_option maxHeartbeats 2000000 in
theorem minplusOver_walk (a0 : Option Addr) (len0 cap0 : Nat) (z0 : List Int) (a1 : Option Addr) (len1 cap1 : Nat) (z1 : List Int) (a2 : Option Addr) (len2 cap2 : Nat) (z2 : List Int) (w : World) (f0 : IsFlat w a0 len0 cap0 1 z0) (r0 : cap0 * 8 ≤ 140737488351232) (f1 : IsFlat w a1 len1 cap1 1 z1) (r1 : cap1 * 8 ≤ 140737488351232) (f2 : IsFlat w a2 len2 cap2 1 z2) (r2 : cap2 * 8 ≤ 140737488351232) :
    Calls Try.prog 9 #[.slice a0 len0 cap0, .slice a1 len1 cap1, .slice a2 len2 cap2] w fun e w' => e = .returned (.bool true) ∧ Below w.heap.size w w' := by
  have hle := f0.le
  have hle1 := f1.le
  have hle2 := f2.le
  have hf := f0.row
  have hg := f1.row
  have hh := f2.row
  generalize (fun k => z0.getD k 0) = f at hf
  generalize (fun k => z1.getD k 0) = g at hg
  generalize (fun k => z2.getD k 0) = h at hh
  clear f0 f1 f2
  by_cases hl : len0 = len1 ∧ len1 = len2
  · obtain ⟨rfl, rfl⟩ := hl
    go_enter Try.func9, Try.ntmps9
    go_wp2_with (go_at_call 42; refine (minplus_alive _).mono ?_; rintro e w' ⟨rfl, os, n, rfl⟩)
    have hm1 : More w ((w.more os n).alloc (.cells #[.slice a0 len0 cap0, .slice a1 len0 cap1, .slice a2 len0 cap2] 22)) := (by repeat (first | (with_reducible exact More.refl _) | (with_reducible refine More.alloc ?_ _) | (with_reducible refine More.more ?_ _ _) | (with_reducible refine More.drewN ?_ _) | (with_reducible refine More.drew ?_)))
    have hf1 : Row ((w.more os n).alloc (.cells #[.slice a0 len0 cap0, .slice a1 len0 cap1, .slice a2 len0 cap2] 22)) a0 len0 f := (by repeat (first | (with_reducible assumption) | (with_reducible exact Row.nil) | (with_reducible apply Row.drewN) | (with_reducible apply Row.drew) | (with_reducible apply Row.more) | (with_reducible apply Row.alloc)))
    have hg1 : Row ((w.more os n).alloc (.cells #[.slice a0 len0 cap0, .slice a1 len0 cap1, .slice a2 len0 cap2] 22)) a1 len0 g := (by repeat (first | (with_reducible assumption) | (with_reducible exact Row.nil) | (with_reducible apply Row.drewN) | (with_reducible apply Row.drew) | (with_reducible apply Row.more) | (with_reducible apply Row.alloc)))
    have hh1 : Row ((w.more os n).alloc (.cells #[.slice a0 len0 cap0, .slice a1 len0 cap1, .slice a2 len0 cap2] 22)) a2 len0 h := (by repeat (first | (with_reducible assumption) | (with_reducible exact Row.nil) | (with_reducible apply Row.drewN) | (with_reducible apply Row.drew) | (with_reducible apply Row.more) | (with_reducible apply Row.alloc)))
    have hbk : Blk ((w.more os n).alloc (.cells #[.slice a0 len0 cap0, .slice a1 len0 cap1, .slice a2 len0 cap2] 22)) (w.heap.size + os.size) 22 #[.slice a0 len0 cap0, .slice a1 len0 cap1, .slice a2 len0 cap2] := (by repeat (first | (with_reducible assumption) | ((with_reducible refine Blk.new' ?_); (simp [Nat.add_assoc]; done)) | (with_reducible refine Blk.alloc ?_ _) | (with_reducible refine Blk.more ?_ _ _) | (with_reducible refine Blk.drew ?_) | (with_reducible refine Blk.drewN ?_ _)))
    have hblt := hbk.lt
    have hp0 : ((w.more os n).alloc (.cells #[.slice a0 len0 cap0, .slice a1 len0 cap1, .slice a2 len0 cap2] 22)).cell? ⟨w.heap.size + os.size, 0, none⟩ = some (.slice a0 len0 cap0) := hbk.cell 0
    have hp1 : ((w.more os n).alloc (.cells #[.slice a0 len0 cap0, .slice a1 len0 cap1, .slice a2 len0 cap2] 22)).cell? ⟨w.heap.size + os.size, 1, none⟩ = some (.slice a1 len0 cap1) := hbk.cell 1
    have hp2 : ((w.more os n).alloc (.cells #[.slice a0 len0 cap0, .slice a1 len0 cap1, .slice a2 len0 cap2] 22)).cell? ⟨w.heap.size + os.size, 2, none⟩ = some (.slice a2 len0 cap2) := hbk.cell 2
    clear hf hg hh hbk
    generalize ((w.more os n).alloc (.cells #[.slice a0 len0 cap0, .slice a1 len0 cap1, .slice a2 len0 cap2] 22)) = w1 at *
    generalize w.heap.size + os.size = gb at *
    have hpick : ∀ k, k < 3 → ∃ a c x, w1.cell? ⟨gb, k, none⟩ = some (.slice a len0 c) ∧ Row w1 a len0 x ∧ x = pick3 k f g h := by
      intro k hk
      match k, hk with
      | 0, _ => exact ⟨a0, cap0, f, hp0, hf1, rfl⟩
      | 1, _ => exact ⟨a1, cap1, g, hp1, hg1, rfl⟩
      | 2, _ => exact ⟨a2, cap2, h, hp2, hh1, rfl⟩
    have HP := Lib.hid hpick
    clear hpick hp0 hp1 hp2
    go_loopw [30] (fun i wr => ∃ k dr : Nat, i = .int .i64 k ∧ k ≤ 3 ∧ (∀ q, q < k → ∀ t, t < len0 → Tame (pick3 q f g h t)) ∧ wr = w1.drewN dr) (fun i _ => 3 - (intOf i).toNat)
    case atStart => exact ⟨0, 0, rfl, Nat.zero_le _, fun q h => by omega, rfl⟩
    case round =>
      obtain ⟨k, dr, rfl, hk, hall, rfl⟩ := hrel
      have HA := Lib.hid hall
      clear hall
      by_cases hlt : k < 3
      · obtain ⟨a, c, x, hc, hx, he⟩ := HP.out k hlt
        have HE := Lib.hid he
        clear he
        have q2 : (k : Int) < 3 := by omega
        go_wp2_with fail
        go_loopw [36] (fun i wi => ∃ j dj : Nat, i = .int .i64 j ∧ j ≤ len0 ∧ (∀ t, t < j → Tame (x t)) ∧ wi = w1.drewN dj) (fun i _ => len0 - (intOf i).toNat)
        case atStart => exact ⟨0, dr, rfl, Nat.zero_le _, fun t h => by omega, rfl⟩
        case round =>
          obtain ⟨j, dj, rfl, hj, hin, rfl⟩ := hrel
          have HI := Lib.hid hin
          clear hin
          by_cases hlj : j < len0
          · obtain ⟨b1, o1, xv, rfl, hb1, hcx, hxv⟩ := hx.at_ hlj
            have q3 : (j : Int) < (len0 : Int) := by omega
            rcases tame_or xv with ht | ht
            · have hb : (decide (1099511627776 < fit xv) && decide (fit xv < 1152921504606846976)) = false := by
                unfold Tame at ht
                rcases ht with ht | ht <;> simp <;> omega
              rcases ht with ht | ht
              · have g1 : decide (1099511627776 < fit xv) = false := by simp; omega
                have HT := Lib.hid ht
                clear hb ht
                go_wp2_with (go_at_call 31; refine (fit_any _ _).mono ?_; rintro e w' ⟨rfl, rfl⟩)
                go_roundw
                case rel =>
                  refine ⟨j + 1, _, by go_num, by omega, fun t h => ?_, rfl⟩
                  rcases Nat.lt_succ_iff_lt_or_eq.1 h with h | h
                  · exact HI.out t h
                  · subst h; rw [← hxv.out]; exact .inl HT.out
                case measure => simp [intOf]; omega
              · have g1 : decide (1099511627776 < fit xv) = true := by simp; omega
                have g2 : decide (fit xv < 1152921504606846976) = false := by simp; omega
                have HT := Lib.hid ht
                clear hb ht
                go_wp2_with (go_at_call 31; refine (fit_any _ _).mono ?_; rintro e w' ⟨rfl, rfl⟩)
                go_roundw
                case rel =>
                  refine ⟨j + 1, _, by go_num, by omega, fun t h => ?_, rfl⟩
                  rcases Nat.lt_succ_iff_lt_or_eq.1 h with h | h
                  · exact HI.out t h
                  · subst h; rw [← hxv.out]; exact .inr HT.out
                case measure => simp [intOf]; omega
            · have g1 : decide (1099511627776 < fit xv) = true := by simp; omega
              have g2 : decide (fit xv < 1152921504606846976) = true := by simp; omega
              clear ht
              go_wp2_with (go_at_call 31; refine (fit_any _ _).mono ?_; rintro e w' ⟨rfl, rfl⟩)
              go_ret
              exact ⟨rfl, (hm1.drewN _).below⟩
          · obtain rfl : j = len0 := by omega
            go_wp2
            go_roundw
            case rel =>
              refine ⟨k + 1, _, by go_num, by omega, fun q h => ?_, rfl⟩
              rcases Nat.lt_succ_iff_lt_or_eq.1 h with h | h
              · exact HA.out q h
              · subst h; rw [← HE.out]; exact HI.out
            case measure => simp [intOf]; omega
      · obtain rfl : k = 3 := by omega
        have hadj := over_adj (n := len0) (HA.out 0 (by omega)) (HA.out 1 (by omega)) (HA.out 2 (by omega))
        obtain ⟨q, hq⟩ : ∃ q, Hid (cWithin len0 len0 (overOf len0 len0 f g) h = q) := ⟨_, rfl⟩
        have E2 : Hid (cWithin len0 len0 f (conv g h) = q) := by
          show _ = q
          rw [← hq.out, Bool.eq_iff_iff, cWithin_iff, cWithin_iff]
          exact hadj.symm
        clear hadj
        have hm2 : More w (w1.drewN dr) := hm1.drewN _
        have hf2 : Row (w1.drewN dr) a0 len0 f := hf1.drewN _
        have hg2 : Row (w1.drewN dr) a1 len0 g := hg1.drewN _
        have hh2 : Row (w1.drewN dr) a2 len0 h := hh1.drewN _
        clear hm1 hf1 hg1 hh1
        generalize w1.drewN dr = w2 at *
        go_wp2_with fail
        refine (over_any _ _ len0 len0 _ _ f g _ (by repeat (first | (with_reducible assumption) | (with_reducible exact Row.nil) | (with_reducible apply Row.drewN) | (with_reducible apply Row.drew) | (with_reducible apply Row.more) | (with_reducible apply Row.alloc))) (by repeat (first | (with_reducible assumption) | (with_reducible exact Row.nil) | (with_reducible apply Row.drewN) | (with_reducible apply Row.drew) | (with_reducible apply Row.more) | (with_reducible apply Row.alloc))) (by omega) (by omega)).mono ?_
        rintro e w1 ⟨a_1, c_1, rfl, hc_1, hr_1, hb_1⟩
        obtain ⟨os_1, d_1, rfl⟩ := More.of_below hb_1
        go_wp2_with fail
        refine (cwithin_any _ _ len0 len0 _ _ (overOf len0 len0 f g) h _ (by repeat (first | (with_reducible assumption) | (with_reducible exact Row.nil) | (with_reducible apply Row.drewN) | (with_reducible apply Row.drew) | (with_reducible apply Row.more) | (with_reducible apply Row.alloc))) (by repeat (first | (with_reducible assumption) | (with_reducible exact Row.nil) | (with_reducible apply Row.drewN) | (with_reducible apply Row.drew) | (with_reducible apply Row.more) | (with_reducible apply Row.alloc))) (by omega) (by omega)).mono ?_
        rintro e w1 ⟨rfl, os_2, d_2, rfl⟩
        rw [hq.out]
        go_wp2_with fail
        refine (conv_any _ _ len0 len0 _ _ g h _ (by repeat (first | (with_reducible assumption) | (with_reducible exact Row.nil) | (with_reducible apply Row.drewN) | (with_reducible apply Row.drew) | (with_reducible apply Row.more) | (with_reducible apply Row.alloc))) (by repeat (first | (with_reducible assumption) | (with_reducible exact Row.nil) | (with_reducible apply Row.drewN) | (with_reducible apply Row.drew) | (with_reducible apply Row.more) | (with_reducible apply Row.alloc))) (by omega) (by omega)).mono ?_
        rw [Nat.min_self]
        rintro e w1 ⟨a_3, c_3, rfl, hc_3, hr_3, hb_3⟩
        obtain ⟨os_3, d_3, rfl⟩ := More.of_below hb_3
        go_wp2_with fail
        refine (cwithin_any _ _ len0 len0 _ _ f (conv g h) _ (by repeat (first | (with_reducible assumption) | (with_reducible exact Row.nil) | (with_reducible apply Row.drewN) | (with_reducible apply Row.drew) | (with_reducible apply Row.more) | (with_reducible apply Row.alloc))) (by repeat (first | (with_reducible assumption) | (with_reducible exact Row.nil) | (with_reducible apply Row.drewN) | (with_reducible apply Row.drew) | (with_reducible apply Row.more) | (with_reducible apply Row.alloc))) (by omega) (by omega)).mono ?_
        rintro e w1 ⟨rfl, os_4, d_4, rfl⟩
        rw [E2.out]
        go_wp2
        go_ret
        exact ⟨rfl, More.below (by repeat (first | (with_reducible assumption) | (with_reducible exact More.refl _) | (with_reducible refine More.alloc ?_ _) | (with_reducible refine More.more ?_ _ _) | (with_reducible refine More.drewN ?_ _) | (with_reducible refine More.drew ?_)))⟩
  · go_enter Try.func9, Try.ntmps9
    go_wp2_with (go_at_call 42; refine (minplus_alive _).mono ?_; rintro e w' ⟨rfl, os, n, rfl⟩)
    all_goals
      go_ret
      exact ⟨rfl, More.below (by repeat (first | (with_reducible exact More.refl _) | (with_reducible refine More.alloc ?_ _) | (with_reducible refine More.more ?_ _ _) | (with_reducible refine More.drewN ?_ _) | (with_reducible refine More.drew ?_)))⟩
end Go.Proofs.Ytdilmnpoicdkhaa
