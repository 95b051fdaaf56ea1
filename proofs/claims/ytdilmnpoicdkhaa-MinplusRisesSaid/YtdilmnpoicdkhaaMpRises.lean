/- MinplusRises: for every input the law returns true. Conditions: none. -/
import Derived.Test.YtdilmnpoicdkhaaMpLaws
import Derived.Deep.RegionHeld3
set_option linter.unusedVariables false
set_option linter.unusedSimpArgs false
namespace Go
/-- The first ones. -/
theorem Row.take {w : World} {a : Option Addr} {n m : Nat} {f : Nat → Int} (h : Row w a n f) (hm : m ≤ n) : Row w a m f := by
  intro h0
  obtain ⟨b, off, e, hb, hc⟩ := h (by omega)
  exact ⟨b, off, e, hb, fun k hk => hc k (by omega)⟩
end Go
namespace Go.Proofs.Ytdilmnpoicdkhaa
open Go.RowKit Go.Tide
set_option linter.unusedVariables false
set_option linter.unusedSimpArgs false

set_option maxHeartbeats 2000000 in
theorem minplusRises_walk (a0 : Option Addr) (len0 cap0 : Nat) (z0 : List Int) (a1 : Option Addr) (len1 cap1 : Nat) (z1 : List Int) (a2 : Option Addr) (len2 cap2 : Nat) (z2 : List Int) (w : World) (f0 : IsFlat w a0 len0 cap0 1 z0) (r0 : cap0 * 8 ≤ 140737488351232) (f1 : IsFlat w a1 len1 cap1 1 z1) (r1 : cap1 * 8 ≤ 140737488351232) (f2 : IsFlat w a2 len2 cap2 1 z2) (r2 : cap2 * 8 ≤ 140737488351232) :
    Calls Try.prog 18 #[.slice a0 len0 cap0, .slice a1 len1 cap1, .slice a2 len2 cap2] w fun e w' => e = .returned (.bool true) ∧ Below w.heap.size w w' := by
  have hle := f0.le
  have hle1 := f1.le
  have hle2 := f2.le
  have hf := f0.row
  have hg := f1.row
  have hh := f2.row
  generalize (fun k => z0.getD k 0) = f at hf
  generalize (fun k => z1.getD k 0) = g at hg
  generalize (fun k => z2.getD k 0) = h at hh
  clear f0 f1 f2
  obtain ⟨q, hq⟩ : ∃ q, Hid (min len0 len1 = q) := ⟨_, rfl⟩
  have hq0 : q ≤ len0 := by have := hq.out; omega
  have hq1 : q ≤ len1 := by have := hq.out; omega
  have k1 : (q : Int) ≤ (cap1 : Int) := by omega
  have E1 := Lib.hid (cWithin_true (n := min q len2) (m := min q len2) (f := conv (lowerOf f g) h) (g := conv g h) (fun t _ _ => by
    rw [fit_conv, fit_conv]
    refine conv_mono (fun s _ => ?_) (fun s _ => Int.le_refl _)
    rw [fit_lower]
    unfold lowerOf
    omega))
  go_enter Try.func18, Try.ntmps18
  go_wp2_with (go_at_call 42; refine (minplus_alive _).mono ?_; rintro e w' ⟨rfl, os, n, rfl⟩)
  refine (clower_any _ _ len0 len1 _ _ f g _ (by repeat (first | (with_reducible assumption) | (with_reducible exact Row.nil) | (with_reducible apply Row.drewN) | (with_reducible apply Row.drew) | (with_reducible apply Row.more) | (with_reducible apply Row.alloc))) (by repeat (first | (with_reducible assumption) | (with_reducible exact Row.nil) | (with_reducible apply Row.drewN) | (with_reducible apply Row.drew) | (with_reducible apply Row.more) | (with_reducible apply Row.alloc))) (by omega) (by omega)).mono ?_
  rw [hq.out]
  rintro e w1 ⟨al, cl, rfl, hcl, hrl, hb1⟩
  obtain ⟨os1, d1, rfl⟩ := More.of_below hb1
  have hm2 : More w ((w.more os n).more os1 d1) := (by repeat (first | (with_reducible exact More.refl _) | (with_reducible refine More.alloc ?_ _) | (with_reducible refine More.more ?_ _ _) | (with_reducible refine More.drewN ?_ _) | (with_reducible refine More.drew ?_)))
  have hf2 : Row ((w.more os n).more os1 d1) a0 len0 f := (by repeat (first | (with_reducible assumption) | (with_reducible exact Row.nil) | (with_reducible apply Row.drewN) | (with_reducible apply Row.drew) | (with_reducible apply Row.more) | (with_reducible apply Row.alloc)))
  have hg2 : Row ((w.more os n).more os1 d1) a1 len1 g := (by repeat (first | (with_reducible assumption) | (with_reducible exact Row.nil) | (with_reducible apply Row.drewN) | (with_reducible apply Row.drew) | (with_reducible apply Row.more) | (with_reducible apply Row.alloc)))
  have hh2 : Row ((w.more os n).more os1 d1) a2 len2 h := (by repeat (first | (with_reducible assumption) | (with_reducible exact Row.nil) | (with_reducible apply Row.drewN) | (with_reducible apply Row.drew) | (with_reducible apply Row.more) | (with_reducible apply Row.alloc)))
  clear hf hg hh hb1
  generalize (w.more os n).more os1 d1 = w1 at *
  have hgq : Row w1 a1 q g := hg2.take hq1
  go_wp2_with fail
  first | (go_region_held (fun w' => More w1 w') (exact (by repeat (first | (with_reducible assumption) | (with_reducible exact More.refl _) | (with_reducible refine More.alloc ?_ _) | (with_reducible refine More.more ?_ _ _) | (with_reducible refine More.drewN ?_ _) | (with_reducible refine More.drew ?_)))) (first
    | (go_at_call_of 44 al; refine (conv_any _ _ q len2 _ _ (lowerOf f g) (h) _ (by repeat (first | (with_reducible assumption) | (with_reducible exact Row.nil) | (with_reducible apply Row.drewN) | (with_reducible apply Row.drew) | (with_reducible apply Row.more) | (with_reducible apply Row.alloc))) (by repeat (first | (with_reducible assumption) | (with_reducible exact Row.nil) | (with_reducible apply Row.drewN) | (with_reducible apply Row.drew) | (with_reducible apply Row.more) | (with_reducible apply Row.alloc))) (by omega) (by omega)).mono ?_; rintro e w' ⟨a_x, c_x, rfl, hc_x, hr_x, hb_x⟩; obtain ⟨os_x, d_x, rfl⟩ := More.of_below hb_x; clear hb_x; replace hr_x : Row (w1.more os_x d_x) a_x (min q len2) (conv (lowerOf f g) h) := hr_x)
    | (go_at_call_of 44 a1; refine (conv_any _ _ q len2 _ _ (g) (h) _ (by repeat (first | (with_reducible assumption) | (with_reducible exact Row.nil) | (with_reducible apply Row.drewN) | (with_reducible apply Row.drew) | (with_reducible apply Row.more) | (with_reducible apply Row.alloc))) (by repeat (first | (with_reducible assumption) | (with_reducible exact Row.nil) | (with_reducible apply Row.drewN) | (with_reducible apply Row.drew) | (with_reducible apply Row.more) | (with_reducible apply Row.alloc))) (by omega) (by omega)).mono ?_; rintro e w' ⟨a_y, c_y, rfl, hc_y, hr_y, hb_y⟩; obtain ⟨os_y, d_y, rfl⟩ := More.of_below hb_y; clear hb_y)
    | (go_at_call_of 34 a_y; refine (cwithin_any _ _ (min q len2) (min q len2) _ _ (conv (lowerOf f g) h) (conv g h) _ (by repeat (first | (with_reducible assumption) | (with_reducible exact Row.nil) | (with_reducible apply Row.drewN) | (with_reducible apply Row.drew) | (with_reducible apply Row.more) | (with_reducible apply Row.alloc))) (by repeat (first | (with_reducible assumption) | (with_reducible exact Row.nil) | (with_reducible apply Row.drewN) | (with_reducible apply Row.drew) | (with_reducible apply Row.more) | (with_reducible apply Row.alloc))) (by omega) (by omega)).mono ?_; rintro e w' ⟨rfl, os_z, d_z, rfl⟩; rw [E1.out]))) | fail
  by_cases c1 : cRight len0 f = true
  · by_cases c2 : cRight len1 g = true
    · have C1 := cRight_iff.1 c1
      have C2 := cRight_iff.1 c2
      have hcr := conv_right C1 C2
      have hlow := conv_low C1 C2 q q
      rw [hq.out] at hcr
      have E2 := Lib.hid c1
      have E3 := Lib.hid c2
      have E4 := Lib.hid (cRight_iff.2 hcr)
      have E5 := Lib.hid (cWithin_true hlow)
      clear c1 c2 C1 C2 hcr hlow
      go_wp2_with fail
      refine (cright_any _ len0 _ (f) _ (by repeat (first | (with_reducible assumption) | (with_reducible exact Row.nil) | (with_reducible apply Row.drewN) | (with_reducible apply Row.drew) | (with_reducible apply Row.more) | (with_reducible apply Row.alloc))) (by omega)).mono ?_
      rintro e w1 ⟨rfl, os_1, d_1, rfl⟩
      rw [E2.out]
      go_wp2_with fail
      refine (cright_any _ len1 _ (g) _ (by repeat (first | (with_reducible assumption) | (with_reducible exact Row.nil) | (with_reducible apply Row.drewN) | (with_reducible apply Row.drew) | (with_reducible apply Row.more) | (with_reducible apply Row.alloc))) (by omega)).mono ?_
      rintro e w1 ⟨rfl, os_2, d_2, rfl⟩
      rw [E3.out]
      go_wp2_with fail
      refine (conv_any _ _ len0 len1 _ _ (f) (g) _ (by repeat (first | (with_reducible assumption) | (with_reducible exact Row.nil) | (with_reducible apply Row.drewN) | (with_reducible apply Row.drew) | (with_reducible apply Row.more) | (with_reducible apply Row.alloc))) (by repeat (first | (with_reducible assumption) | (with_reducible exact Row.nil) | (with_reducible apply Row.drewN) | (with_reducible apply Row.drew) | (with_reducible apply Row.more) | (with_reducible apply Row.alloc))) (by omega) (by omega)).mono ?_
      rw [hq.out]
      rintro e w1 ⟨a_3, c_3, rfl, hc_3, hr_3, hb_3⟩
      obtain ⟨os_3, d_3, rfl⟩ := More.of_below hb_3
      go_wp2_with fail
      refine (cright_any _ q _ (conv f g) _ (by repeat (first | (with_reducible assumption) | (with_reducible exact Row.nil) | (with_reducible apply Row.drewN) | (with_reducible apply Row.drew) | (with_reducible apply Row.more) | (with_reducible apply Row.alloc))) (by omega)).mono ?_
      rintro e w1 ⟨rfl, os_4, d_4, rfl⟩
      rw [E4.out]
      go_wp2_with fail
      refine (conv_any _ _ len0 len1 _ _ (f) (g) _ (by repeat (first | (with_reducible assumption) | (with_reducible exact Row.nil) | (with_reducible apply Row.drewN) | (with_reducible apply Row.drew) | (with_reducible apply Row.more) | (with_reducible apply Row.alloc))) (by repeat (first | (with_reducible assumption) | (with_reducible exact Row.nil) | (with_reducible apply Row.drewN) | (with_reducible apply Row.drew) | (with_reducible apply Row.more) | (with_reducible apply Row.alloc))) (by omega) (by omega)).mono ?_
      rw [hq.out]
      rintro e w1 ⟨a_5, c_5, rfl, hc_5, hr_5, hb_5⟩
      obtain ⟨os_5, d_5, rfl⟩ := More.of_below hb_5
      go_wp2_with fail
      refine (cwithin_any _ _ q q _ _ (conv f g) (lowerOf f g) _ (by repeat (first | (with_reducible assumption) | (with_reducible exact Row.nil) | (with_reducible apply Row.drewN) | (with_reducible apply Row.drew) | (with_reducible apply Row.more) | (with_reducible apply Row.alloc))) (by repeat (first | (with_reducible assumption) | (with_reducible exact Row.nil) | (with_reducible apply Row.drewN) | (with_reducible apply Row.drew) | (with_reducible apply Row.more) | (with_reducible apply Row.alloc))) (by omega) (by omega)).mono ?_
      rintro e w1 ⟨rfl, os_6, d_6, rfl⟩
      rw [E5.out]
      go_wp2
      go_ret
      exact ⟨rfl, More.below (by repeat (first | (with_reducible assumption) | (with_reducible exact More.refl _) | (with_reducible refine More.alloc ?_ _) | (with_reducible refine More.more ?_ _ _) | (with_reducible refine More.drewN ?_ _) | (with_reducible refine More.drew ?_)))⟩
    · have c2' : cRight len1 g = false := by simpa using c2
      have E2 := Lib.hid c1
      have E3 := Lib.hid c2'
      clear c1 c2 c2'
      go_wp2_with fail
      refine (cright_any _ len0 _ (f) _ (by repeat (first | (with_reducible assumption) | (with_reducible exact Row.nil) | (with_reducible apply Row.drewN) | (with_reducible apply Row.drew) | (with_reducible apply Row.more) | (with_reducible apply Row.alloc))) (by omega)).mono ?_
      rintro e w1 ⟨rfl, os_1, d_1, rfl⟩
      rw [E2.out]
      go_wp2_with fail
      refine (cright_any _ len1 _ (g) _ (by repeat (first | (with_reducible assumption) | (with_reducible exact Row.nil) | (with_reducible apply Row.drewN) | (with_reducible apply Row.drew) | (with_reducible apply Row.more) | (with_reducible apply Row.alloc))) (by omega)).mono ?_
      rintro e w1 ⟨rfl, os_2, d_2, rfl⟩
      rw [E3.out]
      go_wp2
      go_ret
      exact ⟨rfl, More.below (by repeat (first | (with_reducible assumption) | (with_reducible exact More.refl _) | (with_reducible refine More.alloc ?_ _) | (with_reducible refine More.more ?_ _ _) | (with_reducible refine More.drewN ?_ _) | (with_reducible refine More.drew ?_)))⟩
  · have c1' : cRight len0 f = false := by simpa using c1
    have E2 := Lib.hid c1'
    clear c1 c1'
    go_wp2_with fail
    refine (cright_any _ len0 _ (f) _ (by repeat (first | (with_reducible assumption) | (with_reducible exact Row.nil) | (with_reducible apply Row.drewN) | (with_reducible apply Row.drew) | (with_reducible apply Row.more) | (with_reducible apply Row.alloc))) (by omega)).mono ?_
    rintro e w1 ⟨rfl, os_1, d_1, rfl⟩
    rw [E2.out]
    go_wp2
    go_ret
    exact ⟨rfl, More.below (by repeat (first | (with_reducible assumption) | (with_reducible exact More.refl _) | (with_reducible refine More.alloc ?_ _) | (with_reducible refine More.more ?_ _ _) | (with_reducible refine More.drewN ?_ _) | (with_reducible refine More.drew ?_)))⟩
end Go.Proofs.Ytdilmnpoicdkhaa
