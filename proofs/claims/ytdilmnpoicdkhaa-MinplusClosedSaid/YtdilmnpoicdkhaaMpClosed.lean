/- MinplusClosed: for every input the law returns true. Conditions: none. -/
import Derived.Test.YtdilmnpoicdkhaaMpLaws
import Derived.Deep.RegionHeld3
set_option linter.unusedVariables false
set_option linter.unusedSimpArgs false
namespace Go
/-- All but the first. -/
theorem Row.tail {w : World} {b off m : Nat} {f : Nat → Int} (h : Row w (some ⟨b, off, none⟩) (m + 1) f) : Row w (some ⟨b, off + 1, none⟩) m (fun k => f (k + 1)) := by
  intro _
  obtain ⟨b', off', e, hb, hc⟩ := h (by omega)
  injection e with e
  injection e with e1 e2
  subst e1 e2
  exact ⟨_, _, rfl, hb, fun k hk => by rw [Nat.add_assoc, Nat.add_comm 1 k]; exact hc (k + 1) (by omega)⟩
/-- The same as Go makes it: where no room is left behind, the pointer stays. -/
theorem Row.tailIf {w : World} {b off m c : Nat} {f : Nat → Int} (h : Row w (some ⟨b, off, none⟩) (m + 1) f) (hc : m + 1 ≤ c) : Row w (if c = 1 then some ⟨b, off, none⟩ else some ⟨b, off + 1, none⟩) m (fun k => f (k + 1)) := by
  split
  · obtain rfl : m = 0 := by omega
    exact Row.nil
  · exact h.tail
end Go
namespace Go.Proofs.Ytdilmnpoicdkhaa
open Go.RowKit Go.Tide

set_option maxHeartbeats 20000000 in
theorem minplusClosed_walk (a0 : Option Addr) (len0 cap0 : Nat) (z0 : List Int) (a1 : Option Addr) (len1 cap1 : Nat) (z1 : List Int) (w : World) (f0 : IsFlat w a0 len0 cap0 1 z0) (r0 : cap0 * 8 ≤ 140737488351232) (f1 : IsFlat w a1 len1 cap1 1 z1) (r1 : cap1 * 8 ≤ 140737488351232) :
    Calls Try.prog 10 #[.slice a0 len0 cap0, .slice a1 len1 cap1] w fun e w' => e = .returned (.bool true) ∧ Below w.heap.size w w' := by
  have hle := f0.le
  have hle1 := f1.le
  have hf := f0.row
  have hg := f1.row
  generalize (fun k => z0.getD k 0) = f at hf
  generalize (fun k => z1.getD k 0) = g at hg
  clear f0 f1
  have E1 := Lib.hid (parts_iff.2 (cl_Parts f len0))
  have E2 := Lib.hid (eqLit (n := len0) (m := len0) rfl (fun k _ => cl_cl f k))
  have E3 := Lib.hid (eqLit (n := len0) (m := len0) rfl (fun k _ => conv_cl f k))
  go_enter Try.func10, Try.ntmps10
  go_wp2_with (go_at_call 42; refine (minplus_alive _).mono ?_; rintro e w' ⟨rfl, os, n, rfl⟩)
  refine (close_any _ len0 _ f _ (by repeat (first | (with_reducible assumption) | (with_reducible exact Row.nil) | (with_reducible apply Row.drewN) | (with_reducible apply Row.drew) | (with_reducible apply Row.more) | (with_reducible apply Row.alloc))) (by omega)).mono ?_
  rintro e w1 ⟨ac, cc, rfl, hcc, hrc, hb1⟩
  obtain ⟨os1, d1, rfl⟩ := More.of_below hb1
  have hm1 : More w ((w.more os n).more os1 d1) := (by repeat (first | (with_reducible exact More.refl _) | (with_reducible refine More.alloc ?_ _) | (with_reducible refine More.more ?_ _ _) | (with_reducible refine More.drewN ?_ _) | (with_reducible refine More.drew ?_)))
  have hf1 : Row ((w.more os n).more os1 d1) a0 len0 f := (by repeat (first | (with_reducible assumption) | (with_reducible exact Row.nil) | (with_reducible apply Row.drewN) | (with_reducible apply Row.drew) | (with_reducible apply Row.more) | (with_reducible apply Row.alloc)))
  have hg1 : Row ((w.more os n).more os1 d1) a1 len1 g := (by repeat (first | (with_reducible assumption) | (with_reducible exact Row.nil) | (with_reducible apply Row.drewN) | (with_reducible apply Row.drew) | (with_reducible apply Row.more) | (with_reducible apply Row.alloc)))
  clear hf hg hb1
  generalize (w.more os n).more os1 d1 = w1 at *
  rcases Nat.eq_zero_or_pos len0 with h0 | h0
  · subst h0
    go_wp2_with fail
    first | (go_region_held (fun w' => More w w') (exact (by repeat (first | (with_reducible assumption) | (with_reducible exact More.refl _) | (with_reducible refine More.alloc ?_ _) | (with_reducible refine More.more ?_ _ _) | (with_reducible refine More.drewN ?_ _) | (with_reducible refine More.drew ?_)))) (first | (go_at_call 46; refine (mparts_any _ 0 _ (clOf f) _ Row.nil (by omega)).mono ?_; rintro e w' ⟨rfl, os2, d2, rfl⟩; rw [E1.out]) )) | fail
    all_goals
      by_cases hl : len1 = 0
      · have kb : ((len1 : Int) == 0) = true := by simp; omega
        subst hl
        go_wp2_with fail
        go_quiet (fail)
        go_wp2_with fail
        refine (close_any _ 0 _ (clOf f) _ (by repeat (first | (with_reducible assumption) | (with_reducible exact Row.nil) | (with_reducible apply Row.drewN) | (with_reducible apply Row.drew) | (with_reducible apply Row.more) | (with_reducible apply Row.alloc))) (by omega)).mono ?_
        rintro e w5 ⟨a5, c5, rfl, hc5, hr5, hb5⟩
        obtain ⟨os5, d5, rfl⟩ := More.of_below hb5
        go_wp2_with fail
        refine (equal_any _ _ 0 0 _ _ _ _ _ (by repeat (first | (with_reducible assumption) | (with_reducible exact Row.nil) | (with_reducible apply Row.drewN) | (with_reducible apply Row.drew) | (with_reducible apply Row.more) | (with_reducible apply Row.alloc))) (by repeat (first | (with_reducible assumption) | (with_reducible exact Row.nil) | (with_reducible apply Row.drewN) | (with_reducible apply Row.drew) | (with_reducible apply Row.more) | (with_reducible apply Row.alloc))) (by omega) (by omega)).mono ?_
        rintro e w6 ⟨rfl, os6, d6, rfl⟩
        rw [E2.out]
        go_wp2_with fail
        refine (conv_any _ _ 0 0 _ _ (clOf f) (clOf f) _ (by repeat (first | (with_reducible assumption) | (with_reducible exact Row.nil) | (with_reducible apply Row.drewN) | (with_reducible apply Row.drew) | (with_reducible apply Row.more) | (with_reducible apply Row.alloc))) (by repeat (first | (with_reducible assumption) | (with_reducible exact Row.nil) | (with_reducible apply Row.drewN) | (with_reducible apply Row.drew) | (with_reducible apply Row.more) | (with_reducible apply Row.alloc))) (by omega) (by omega)).mono ?_
        rw [Nat.min_self]
        rintro e w7 ⟨a7, c7, rfl, hc7, hr7, hb7⟩
        obtain ⟨os7, d7, rfl⟩ := More.of_below hb7
        go_wp2_with fail
        refine (equal_any _ _ 0 0 _ _ _ _ _ (by repeat (first | (with_reducible assumption) | (with_reducible exact Row.nil) | (with_reducible apply Row.drewN) | (with_reducible apply Row.drew) | (with_reducible apply Row.more) | (with_reducible apply Row.alloc))) (by repeat (first | (with_reducible assumption) | (with_reducible exact Row.nil) | (with_reducible apply Row.drewN) | (with_reducible apply Row.drew) | (with_reducible apply Row.more) | (with_reducible apply Row.alloc))) (by omega) (by omega)).mono ?_
        rintro e w8 ⟨rfl, os8, d8, rfl⟩
        rw [E3.out]
        go_wp2
        go_ret
        exact ⟨rfl, More.below (by repeat (first | (with_reducible assumption) | (with_reducible exact More.refl _) | (with_reducible refine More.alloc ?_ _) | (with_reducible refine More.more ?_ _ _) | (with_reducible refine More.drewN ?_ _) | (with_reducible refine More.drew ?_)))⟩
      · have kb : ((len1 : Int) == 0) = false := by simp; omega
        go_wp2_with fail
        go_quiet (fail)
        go_wp2_with fail
        refine (close_any _ 0 _ (clOf f) _ (by repeat (first | (with_reducible assumption) | (with_reducible exact Row.nil) | (with_reducible apply Row.drewN) | (with_reducible apply Row.drew) | (with_reducible apply Row.more) | (with_reducible apply Row.alloc))) (by omega)).mono ?_
        rintro e w5 ⟨a5, c5, rfl, hc5, hr5, hb5⟩
        obtain ⟨os5, d5, rfl⟩ := More.of_below hb5
        go_wp2_with fail
        refine (equal_any _ _ 0 0 _ _ _ _ _ (by repeat (first | (with_reducible assumption) | (with_reducible exact Row.nil) | (with_reducible apply Row.drewN) | (with_reducible apply Row.drew) | (with_reducible apply Row.more) | (with_reducible apply Row.alloc))) (by repeat (first | (with_reducible assumption) | (with_reducible exact Row.nil) | (with_reducible apply Row.drewN) | (with_reducible apply Row.drew) | (with_reducible apply Row.more) | (with_reducible apply Row.alloc))) (by omega) (by omega)).mono ?_
        rintro e w6 ⟨rfl, os6, d6, rfl⟩
        rw [E2.out]
        go_wp2_with fail
        refine (conv_any _ _ 0 0 _ _ (clOf f) (clOf f) _ (by repeat (first | (with_reducible assumption) | (with_reducible exact Row.nil) | (with_reducible apply Row.drewN) | (with_reducible apply Row.drew) | (with_reducible apply Row.more) | (with_reducible apply Row.alloc))) (by repeat (first | (with_reducible assumption) | (with_reducible exact Row.nil) | (with_reducible apply Row.drewN) | (with_reducible apply Row.drew) | (with_reducible apply Row.more) | (with_reducible apply Row.alloc))) (by omega) (by omega)).mono ?_
        rw [Nat.min_self]
        rintro e w7 ⟨a7, c7, rfl, hc7, hr7, hb7⟩
        obtain ⟨os7, d7, rfl⟩ := More.of_below hb7
        go_wp2_with fail
        refine (equal_any _ _ 0 0 _ _ _ _ _ (by repeat (first | (with_reducible assumption) | (with_reducible exact Row.nil) | (with_reducible apply Row.drewN) | (with_reducible apply Row.drew) | (with_reducible apply Row.more) | (with_reducible apply Row.alloc))) (by repeat (first | (with_reducible assumption) | (with_reducible exact Row.nil) | (with_reducible apply Row.drewN) | (with_reducible apply Row.drew) | (with_reducible apply Row.more) | (with_reducible apply Row.alloc))) (by omega) (by omega)).mono ?_
        rintro e w8 ⟨rfl, os8, d8, rfl⟩
        rw [E3.out]
        go_wp2
        go_ret
        exact ⟨rfl, More.below (by repeat (first | (with_reducible assumption) | (with_reducible exact More.refl _) | (with_reducible refine More.alloc ?_ _) | (with_reducible refine More.more ?_ _ _) | (with_reducible refine More.drewN ?_ _) | (with_reducible refine More.drew ?_)))⟩
  · obtain ⟨m, rfl⟩ : ∃ m, len0 = m + 1 := ⟨len0 - 1, by omega⟩
    obtain ⟨bf, of, rfl, hbf, _⟩ := hf1 h0
    obtain ⟨bc, oc, rfl, hbc, _⟩ := hrc h0
    have E4 := Lib.hid (cWithin_true (n := m) (m := m) (f := fun k => clOf f (k + 1)) (g := fun k => f (k + 1)) (fun t _ _ => by rw [fit_cl]; exact cl_le f (by omega)))
    have k1 : (1 : Int) ≤ (m : Int) + 1 := by omega
    have k2 : (m : Int) + 1 ≤ (cc : Int) := by omega
    have k3 : (m : Int) + 1 ≤ (cap0 : Int) := by omega
    obtain ⟨pc, hpc⟩ : ∃ pc, (if cc = 1 then some (⟨bc, oc, none⟩ : Addr) else some ⟨bc, oc + 1, none⟩) = pc := ⟨_, rfl⟩
    obtain ⟨pf, hpf⟩ : ∃ pf, (if cap0 = 1 then some (⟨bf, of, none⟩ : Addr) else some ⟨bf, of + 1, none⟩) = pf := ⟨_, rfl⟩
    have hrt : Row w1 pc m (fun k => clOf f (k + 1)) := by rw [← hpc]; exact Row.tailIf hrc (by omega)
    have hft : Row w1 pf m (fun k => f (k + 1)) := by rw [← hpf]; exact Row.tailIf hf1 (by omega)
    go_wp2_with fail
    first | (go_region_held (fun w' => More w w') (exact (by repeat (first | (with_reducible assumption) | (with_reducible exact More.refl _) | (with_reducible refine More.alloc ?_ _) | (with_reducible refine More.more ?_ _ _) | (with_reducible refine More.drewN ?_ _) | (with_reducible refine More.drew ?_)))) (first | (go_at_call 46; refine (mparts_any _ (m + 1) _ (clOf f) _ (by repeat (first | (with_reducible assumption) | (with_reducible exact Row.nil) | (with_reducible apply Row.drewN) | (with_reducible apply Row.drew) | (with_reducible apply Row.more) | (with_reducible apply Row.alloc))) (by omega)).mono ?_; rintro e w' ⟨rfl, os2, d2, rfl⟩; rw [E1.out]) | (go_at_call 34; refine (cwithin_any _ _ m m _ _ (fun k => clOf f (k + 1)) (fun k => f (k + 1)) _ (by repeat (first | (with_reducible assumption) | (with_reducible exact Row.nil) | (with_reducible apply Row.drewN) | (with_reducible apply Row.drew) | (with_reducible apply Row.more) | (with_reducible apply Row.alloc))) (by repeat (first | (with_reducible assumption) | (with_reducible exact Row.nil) | (with_reducible apply Row.drewN) | (with_reducible apply Row.drew) | (with_reducible apply Row.more) | (with_reducible apply Row.alloc))) (by omega) (by omega)).mono ?_; rintro e w' ⟨rfl, os2, d2, rfl⟩; rw [E4.out]) )) | fail
    by_cases hl : len1 = m + 1
    · subst hl
      obtain ⟨bg, og, rfl, hbg, _⟩ := hg1 h0
      have k4 : (m : Int) + 1 ≤ (cap1 : Int) := by omega
      obtain ⟨pg, hpg⟩ : ∃ pg, (if cap1 = 1 then some (⟨bg, og, none⟩ : Addr) else some ⟨bg, og + 1, none⟩) = pg := ⟨_, rfl⟩
      have hgt : Row w1 pg m (fun k => g (k + 1)) := by rw [← hpg]; exact Row.tailIf hg1 (by omega)
      by_cases hp : mparts (m + 1) g = true
      · have E5 := Lib.hid hp
        by_cases hw : cWithin m m (fun k => g (k + 1)) (fun k => f (k + 1)) = true
        · have E6 := Lib.hid hw
          have E7 := Lib.hid (cWithin_true (n := m + 1) (m := m + 1) (f := g) (g := clOf f) (fun t h1 _ => by
            rw [fit_cl]
            refine cl_greatest (parts_iff.1 hp) (fun t h2 h3 => ?_) t h1
            obtain ⟨t, rfl⟩ : ∃ s, t = s + 1 := ⟨t - 1, by omega⟩
            exact cWithin_iff.1 hw t (by omega) (by omega)))
          clear hp hw
          go_wp2_with fail
          first | (go_region_held (fun w' => More w w') (exact (by repeat (first | (with_reducible assumption) | (with_reducible exact More.refl _) | (with_reducible refine More.alloc ?_ _) | (with_reducible refine More.more ?_ _ _) | (with_reducible refine More.drewN ?_ _) | (with_reducible refine More.drew ?_)))) (first | (go_at_call 46; refine (mparts_any _ (m + 1) _ g _ (by repeat (first | (with_reducible assumption) | (with_reducible exact Row.nil) | (with_reducible apply Row.drewN) | (with_reducible apply Row.drew) | (with_reducible apply Row.more) | (with_reducible apply Row.alloc))) (by omega)).mono ?_; rintro e w' ⟨rfl, os3, d3, rfl⟩; rw [E5.out]) | (go_at_call_of 34 pg; refine (cwithin_any _ _ m m _ _ (fun k => g (k + 1)) (fun k => f (k + 1)) _ (by repeat (first | (with_reducible assumption) | (with_reducible exact Row.nil) | (with_reducible apply Row.drewN) | (with_reducible apply Row.drew) | (with_reducible apply Row.more) | (with_reducible apply Row.alloc))) (by repeat (first | (with_reducible assumption) | (with_reducible exact Row.nil) | (with_reducible apply Row.drewN) | (with_reducible apply Row.drew) | (with_reducible apply Row.more) | (with_reducible apply Row.alloc))) (by omega) (by omega)).mono ?_; rintro e w' ⟨rfl, os4, d4, rfl⟩; rw [E6.out]) | (go_at_call 34; refine (cwithin_any _ _ (m + 1) (m + 1) _ _ g (clOf f) _ (by repeat (first | (with_reducible assumption) | (with_reducible exact Row.nil) | (with_reducible apply Row.drewN) | (with_reducible apply Row.drew) | (with_reducible apply Row.more) | (with_reducible apply Row.alloc))) (by repeat (first | (with_reducible assumption) | (with_reducible exact Row.nil) | (with_reducible apply Row.drewN) | (with_reducible apply Row.drew) | (with_reducible apply Row.more) | (with_reducible apply Row.alloc))) (by omega) (by omega)).mono ?_; rintro e w' ⟨rfl, os4, d4, rfl⟩; rw [E7.out]) )) | fail
          go_wp2_with fail
          refine (close_any _ (m + 1) _ (clOf f) _ (by repeat (first | (with_reducible assumption) | (with_reducible exact Row.nil) | (with_reducible apply Row.drewN) | (with_reducible apply Row.drew) | (with_reducible apply Row.more) | (with_reducible apply Row.alloc))) (by omega)).mono ?_
          rintro e w5 ⟨a5, c5, rfl, hc5, hr5, hb5⟩
          obtain ⟨os5, d5, rfl⟩ := More.of_below hb5
          go_wp2_with fail
          refine (equal_any _ _ (m + 1) (m + 1) _ _ _ _ _ (by repeat (first | (with_reducible assumption) | (with_reducible exact Row.nil) | (with_reducible apply Row.drewN) | (with_reducible apply Row.drew) | (with_reducible apply Row.more) | (with_reducible apply Row.alloc))) (by repeat (first | (with_reducible assumption) | (with_reducible exact Row.nil) | (with_reducible apply Row.drewN) | (with_reducible apply Row.drew) | (with_reducible apply Row.more) | (with_reducible apply Row.alloc))) (by omega) (by omega)).mono ?_
          rintro e w6 ⟨rfl, os6, d6, rfl⟩
          rw [E2.out]
          go_wp2_with fail
          refine (conv_any _ _ (m + 1) (m + 1) _ _ (clOf f) (clOf f) _ (by repeat (first | (with_reducible assumption) | (with_reducible exact Row.nil) | (with_reducible apply Row.drewN) | (with_reducible apply Row.drew) | (with_reducible apply Row.more) | (with_reducible apply Row.alloc))) (by repeat (first | (with_reducible assumption) | (with_reducible exact Row.nil) | (with_reducible apply Row.drewN) | (with_reducible apply Row.drew) | (with_reducible apply Row.more) | (with_reducible apply Row.alloc))) (by omega) (by omega)).mono ?_
          rw [Nat.min_self]
          rintro e w7 ⟨a7, c7, rfl, hc7, hr7, hb7⟩
          obtain ⟨os7, d7, rfl⟩ := More.of_below hb7
          go_wp2_with fail
          refine (equal_any _ _ (m + 1) (m + 1) _ _ _ _ _ (by repeat (first | (with_reducible assumption) | (with_reducible exact Row.nil) | (with_reducible apply Row.drewN) | (with_reducible apply Row.drew) | (with_reducible apply Row.more) | (with_reducible apply Row.alloc))) (by repeat (first | (with_reducible assumption) | (with_reducible exact Row.nil) | (with_reducible apply Row.drewN) | (with_reducible apply Row.drew) | (with_reducible apply Row.more) | (with_reducible apply Row.alloc))) (by omega) (by omega)).mono ?_
          rintro e w8 ⟨rfl, os8, d8, rfl⟩
          rw [E3.out]
          go_wp2
          go_ret
          exact ⟨rfl, More.below (by repeat (first | (with_reducible assumption) | (with_reducible exact More.refl _) | (with_reducible refine More.alloc ?_ _) | (with_reducible refine More.more ?_ _ _) | (with_reducible refine More.drewN ?_ _) | (with_reducible refine More.drew ?_)))⟩
        · have hw' : cWithin m m (fun k => g (k + 1)) (fun k => f (k + 1)) = false := by simpa using hw
          have E6 := Lib.hid hw'
          clear hp hw hw'
          go_wp2_with fail
          first | (go_region_held (fun w' => More w w') (exact (by repeat (first | (with_reducible assumption) | (with_reducible exact More.refl _) | (with_reducible refine More.alloc ?_ _) | (with_reducible refine More.more ?_ _ _) | (with_reducible refine More.drewN ?_ _) | (with_reducible refine More.drew ?_)))) (first | (go_at_call 46; refine (mparts_any _ (m + 1) _ g _ (by repeat (first | (with_reducible assumption) | (with_reducible exact Row.nil) | (with_reducible apply Row.drewN) | (with_reducible apply Row.drew) | (with_reducible apply Row.more) | (with_reducible apply Row.alloc))) (by omega)).mono ?_; rintro e w' ⟨rfl, os3, d3, rfl⟩; rw [E5.out]) | (go_at_call_of 34 pg; refine (cwithin_any _ _ m m _ _ (fun k => g (k + 1)) (fun k => f (k + 1)) _ (by repeat (first | (with_reducible assumption) | (with_reducible exact Row.nil) | (with_reducible apply Row.drewN) | (with_reducible apply Row.drew) | (with_reducible apply Row.more) | (with_reducible apply Row.alloc))) (by repeat (first | (with_reducible assumption) | (with_reducible exact Row.nil) | (with_reducible apply Row.drewN) | (with_reducible apply Row.drew) | (with_reducible apply Row.more) | (with_reducible apply Row.alloc))) (by omega) (by omega)).mono ?_; rintro e w' ⟨rfl, os4, d4, rfl⟩; rw [E6.out]) )) | fail
          all_goals
            go_wp2_with fail
            refine (close_any _ (m + 1) _ (clOf f) _ (by repeat (first | (with_reducible assumption) | (with_reducible exact Row.nil) | (with_reducible apply Row.drewN) | (with_reducible apply Row.drew) | (with_reducible apply Row.more) | (with_reducible apply Row.alloc))) (by omega)).mono ?_
            rintro e w5 ⟨a5, c5, rfl, hc5, hr5, hb5⟩
            obtain ⟨os5, d5, rfl⟩ := More.of_below hb5
            go_wp2_with fail
            refine (equal_any _ _ (m + 1) (m + 1) _ _ _ _ _ (by repeat (first | (with_reducible assumption) | (with_reducible exact Row.nil) | (with_reducible apply Row.drewN) | (with_reducible apply Row.drew) | (with_reducible apply Row.more) | (with_reducible apply Row.alloc))) (by repeat (first | (with_reducible assumption) | (with_reducible exact Row.nil) | (with_reducible apply Row.drewN) | (with_reducible apply Row.drew) | (with_reducible apply Row.more) | (with_reducible apply Row.alloc))) (by omega) (by omega)).mono ?_
            rintro e w6 ⟨rfl, os6, d6, rfl⟩
            rw [E2.out]
            go_wp2_with fail
            refine (conv_any _ _ (m + 1) (m + 1) _ _ (clOf f) (clOf f) _ (by repeat (first | (with_reducible assumption) | (with_reducible exact Row.nil) | (with_reducible apply Row.drewN) | (with_reducible apply Row.drew) | (with_reducible apply Row.more) | (with_reducible apply Row.alloc))) (by repeat (first | (with_reducible assumption) | (with_reducible exact Row.nil) | (with_reducible apply Row.drewN) | (with_reducible apply Row.drew) | (with_reducible apply Row.more) | (with_reducible apply Row.alloc))) (by omega) (by omega)).mono ?_
            rw [Nat.min_self]
            rintro e w7 ⟨a7, c7, rfl, hc7, hr7, hb7⟩
            obtain ⟨os7, d7, rfl⟩ := More.of_below hb7
            go_wp2_with fail
            refine (equal_any _ _ (m + 1) (m + 1) _ _ _ _ _ (by repeat (first | (with_reducible assumption) | (with_reducible exact Row.nil) | (with_reducible apply Row.drewN) | (with_reducible apply Row.drew) | (with_reducible apply Row.more) | (with_reducible apply Row.alloc))) (by repeat (first | (with_reducible assumption) | (with_reducible exact Row.nil) | (with_reducible apply Row.drewN) | (with_reducible apply Row.drew) | (with_reducible apply Row.more) | (with_reducible apply Row.alloc))) (by omega) (by omega)).mono ?_
            rintro e w8 ⟨rfl, os8, d8, rfl⟩
            rw [E3.out]
            go_wp2
            go_ret
            exact ⟨rfl, More.below (by repeat (first | (with_reducible assumption) | (with_reducible exact More.refl _) | (with_reducible refine More.alloc ?_ _) | (with_reducible refine More.more ?_ _ _) | (with_reducible refine More.drewN ?_ _) | (with_reducible refine More.drew ?_)))⟩
      · have hp' : mparts (m + 1) g = false := by simpa using hp
        have E5 := Lib.hid hp'
        clear hp hp'
        go_wp2_with fail
        first | (go_region_held (fun w' => More w w') (exact (by repeat (first | (with_reducible assumption) | (with_reducible exact More.refl _) | (with_reducible refine More.alloc ?_ _) | (with_reducible refine More.more ?_ _ _) | (with_reducible refine More.drewN ?_ _) | (with_reducible refine More.drew ?_)))) (first | (go_at_call 46; refine (mparts_any _ (m + 1) _ g _ (by repeat (first | (with_reducible assumption) | (with_reducible exact Row.nil) | (with_reducible apply Row.drewN) | (with_reducible apply Row.drew) | (with_reducible apply Row.more) | (with_reducible apply Row.alloc))) (by omega)).mono ?_; rintro e w' ⟨rfl, os3, d3, rfl⟩; rw [E5.out]) )) | fail
        all_goals
          go_wp2_with fail
          refine (close_any _ (m + 1) _ (clOf f) _ (by repeat (first | (with_reducible assumption) | (with_reducible exact Row.nil) | (with_reducible apply Row.drewN) | (with_reducible apply Row.drew) | (with_reducible apply Row.more) | (with_reducible apply Row.alloc))) (by omega)).mono ?_
          rintro e w5 ⟨a5, c5, rfl, hc5, hr5, hb5⟩
          obtain ⟨os5, d5, rfl⟩ := More.of_below hb5
          go_wp2_with fail
          refine (equal_any _ _ (m + 1) (m + 1) _ _ _ _ _ (by repeat (first | (with_reducible assumption) | (with_reducible exact Row.nil) | (with_reducible apply Row.drewN) | (with_reducible apply Row.drew) | (with_reducible apply Row.more) | (with_reducible apply Row.alloc))) (by repeat (first | (with_reducible assumption) | (with_reducible exact Row.nil) | (with_reducible apply Row.drewN) | (with_reducible apply Row.drew) | (with_reducible apply Row.more) | (with_reducible apply Row.alloc))) (by omega) (by omega)).mono ?_
          rintro e w6 ⟨rfl, os6, d6, rfl⟩
          rw [E2.out]
          go_wp2_with fail
          refine (conv_any _ _ (m + 1) (m + 1) _ _ (clOf f) (clOf f) _ (by repeat (first | (with_reducible assumption) | (with_reducible exact Row.nil) | (with_reducible apply Row.drewN) | (with_reducible apply Row.drew) | (with_reducible apply Row.more) | (with_reducible apply Row.alloc))) (by repeat (first | (with_reducible assumption) | (with_reducible exact Row.nil) | (with_reducible apply Row.drewN) | (with_reducible apply Row.drew) | (with_reducible apply Row.more) | (with_reducible apply Row.alloc))) (by omega) (by omega)).mono ?_
          rw [Nat.min_self]
          rintro e w7 ⟨a7, c7, rfl, hc7, hr7, hb7⟩
          obtain ⟨os7, d7, rfl⟩ := More.of_below hb7
          go_wp2_with fail
          refine (equal_any _ _ (m + 1) (m + 1) _ _ _ _ _ (by repeat (first | (with_reducible assumption) | (with_reducible exact Row.nil) | (with_reducible apply Row.drewN) | (with_reducible apply Row.drew) | (with_reducible apply Row.more) | (with_reducible apply Row.alloc))) (by repeat (first | (with_reducible assumption) | (with_reducible exact Row.nil) | (with_reducible apply Row.drewN) | (with_reducible apply Row.drew) | (with_reducible apply Row.more) | (with_reducible apply Row.alloc))) (by omega) (by omega)).mono ?_
          rintro e w8 ⟨rfl, os8, d8, rfl⟩
          rw [E3.out]
          go_wp2
          go_ret
          exact ⟨rfl, More.below (by repeat (first | (with_reducible assumption) | (with_reducible exact More.refl _) | (with_reducible refine More.alloc ?_ _) | (with_reducible refine More.more ?_ _ _) | (with_reducible refine More.drewN ?_ _) | (with_reducible refine More.drew ?_)))⟩
    · have kb : ((len1 : Int) == (m : Int) + 1) = false := by simp; omega
      go_wp2_with fail
      go_quiet (fail)
      go_wp2_with fail
      refine (close_any _ (m + 1) _ (clOf f) _ (by repeat (first | (with_reducible assumption) | (with_reducible exact Row.nil) | (with_reducible apply Row.drewN) | (with_reducible apply Row.drew) | (with_reducible apply Row.more) | (with_reducible apply Row.alloc))) (by omega)).mono ?_
      rintro e w5 ⟨a5, c5, rfl, hc5, hr5, hb5⟩
      obtain ⟨os5, d5, rfl⟩ := More.of_below hb5
      go_wp2_with fail
      refine (equal_any _ _ (m + 1) (m + 1) _ _ _ _ _ (by repeat (first | (with_reducible assumption) | (with_reducible exact Row.nil) | (with_reducible apply Row.drewN) | (with_reducible apply Row.drew) | (with_reducible apply Row.more) | (with_reducible apply Row.alloc))) (by repeat (first | (with_reducible assumption) | (with_reducible exact Row.nil) | (with_reducible apply Row.drewN) | (with_reducible apply Row.drew) | (with_reducible apply Row.more) | (with_reducible apply Row.alloc))) (by omega) (by omega)).mono ?_
      rintro e w6 ⟨rfl, os6, d6, rfl⟩
      rw [E2.out]
      go_wp2_with fail
      refine (conv_any _ _ (m + 1) (m + 1) _ _ (clOf f) (clOf f) _ (by repeat (first | (with_reducible assumption) | (with_reducible exact Row.nil) | (with_reducible apply Row.drewN) | (with_reducible apply Row.drew) | (with_reducible apply Row.more) | (with_reducible apply Row.alloc))) (by repeat (first | (with_reducible assumption) | (with_reducible exact Row.nil) | (with_reducible apply Row.drewN) | (with_reducible apply Row.drew) | (with_reducible apply Row.more) | (with_reducible apply Row.alloc))) (by omega) (by omega)).mono ?_
      rw [Nat.min_self]
      rintro e w7 ⟨a7, c7, rfl, hc7, hr7, hb7⟩
      obtain ⟨os7, d7, rfl⟩ := More.of_below hb7
      go_wp2_with fail
      refine (equal_any _ _ (m + 1) (m + 1) _ _ _ _ _ (by repeat (first | (with_reducible assumption) | (with_reducible exact Row.nil) | (with_reducible apply Row.drewN) | (with_reducible apply Row.drew) | (with_reducible apply Row.more) | (with_reducible apply Row.alloc))) (by repeat (first | (with_reducible assumption) | (with_reducible exact Row.nil) | (with_reducible apply Row.drewN) | (with_reducible apply Row.drew) | (with_reducible apply Row.more) | (with_reducible apply Row.alloc))) (by omega) (by omega)).mono ?_
      rintro e w8 ⟨rfl, os8, d8, rfl⟩
      rw [E3.out]
      go_wp2
      go_ret
      exact ⟨rfl, More.below (by repeat (first | (with_reducible assumption) | (with_reducible exact More.refl _) | (with_reducible refine More.alloc ?_ _) | (with_reducible refine More.more ?_ _ _) | (with_reducible refine More.drewN ?_ _) | (with_reducible refine More.drew ?_)))⟩
end Go.Proofs.Ytdilmnpoicdkhaa
