/- BoundKeeps: for every input the law returns true. Conditions: none. -/
import Derived.Test.YtdilmnpoicdkhaaBdA
import Derived.Test.YtdilmnpoicdkhaaBkKeeps
import Derived.Test.YtdilmnpoicdkhaaBkLaws
import Derived.Deep.RegionHeld
set_option linter.unusedVariables false
set_option linter.unusedSimpArgs false
namespace Go
theorem More.one {w w' : World} {b i : Nat} {u : Value} (hg : b < w.heap.size) (h0 : w.cell? ⟨b, i, none⟩ = some u) (h : More w w') : w'.cell? ⟨b, i, none⟩ = some u ∧ More w w' := ⟨(h.cell hg).trans h0, h⟩
end Go
namespace Go.Tide
theorem kept_sums {r B : Int} {n : Nat} {x : Nat → Int} (h : BRight r B n x) : kKept (n + 1) (n + 1) (ofRow x) (lineOf r B) = bKept r B n x := by
  rw [Bool.eq_iff_iff, kKept_iff, bKept_iff, ← bound_line h]
  constructor
  · intro H t ht s hs
    have := H t ht s hs
    rwa [h.of t (by omega), h.of s (by omega)] at this
  · intro H t ht s hs
    rw [h.of t (by omega), h.of s (by omega)]
    exact H t ht s hs
end Go.Tide
namespace Go.Proofs.Ytdilmnpoicdkhaa
open Go.RowKit Go.Tide
set_option linter.unusedVariables false
set_option linter.unusedSimpArgs false

theorem kbad_looks : Looks 58 (fun x => decide (x < 0) || decide (1099511627776 < x)) := by
  refine ⟨fun x w => ?_, fun _ _ => rfl⟩
  go_enter Try.func58, Try.ntmps58
  go_wp2
  all_goals
    go_ret
    refine ⟨ret_bool_iff ?_, rfl⟩
    simp only [Bool.or_eq_true, decide_eq_true_eq, true_iff, iff_true, Bool.true_eq, Bool.false_eq_true] <;> omega

set_option maxHeartbeats 20000000 in
theorem boundKeeps_walk (a0 : Option Addr) (len0 cap0 : Nat) (z0 : List Int) (a1 : Option Addr) (len1 cap1 : Nat) (z1 : List Int) (a2_0 a2_1 : Int) (a3 : Option Addr) (len3 cap3 : Nat) (z3 : List Int) (w : World) (f0 : IsFlat w a0 len0 cap0 1 z0) (r0 : cap0 * 8 ≤ 140737488351232) (f1 : IsFlat w a1 len1 cap1 1 z1) (r1 : cap1 * 8 ≤ 140737488351232) (b2_0 : InI64 a2_0) (b2_1 : InI64 a2_1) (f3 : IsFlat w a3 len3 cap3 1 z3) (r3 : cap3 * 8 ≤ 140737488351232) :
    Calls Try.prog 23 #[.slice a0 len0 cap0, .slice a1 len1 cap1, .agg #[.int .i64 a2_0, .int .i64 a2_1], .slice a3 len3 cap3] w fun e w' => e = .returned (.bool true) ∧ Below w.heap.size w w' := by
  have hle0 := f0.le
  have hle1 := f1.le
  have hle3 := f3.le
  have hf := f0.row
  have hg := f1.row
  have hs := f3.row
  generalize (fun k => z0.getD k 0) = f at hf
  generalize (fun k => z1.getD k 0) = g at hg
  generalize (fun k => z3.getD k 0) = x at hs
  clear f0 f1 f3
  by_cases c1 : bRight a2_0 a2_1 len3 x = true
  · have RB := bRight_iff.1 c1
    have hB0 := RB.1
    have hB1 := RB.2.1
    have hn := RB.2.2.1
    have E1 := Lib.hid c1
    have h3 := kept_sums RB
    obtain ⟨p, hp⟩ : ∃ p, Hid (bKept a2_0 a2_1 len3 x = p) := ⟨_, rfl⟩
    rw [hp.out] at h3
    have E3 := Lib.hid h3
    have HB := Lib.hid RB
    have kw : IntKind.i64.wrap ((len3 : Int) + 1) = (len3 : Int) + 1 := IntWalk.i64_in _ (by omega)
    clear c1 h3 RB
    go_enter Try.func23, Try.ntmps23
    go_wp2_with (go_at_call 51; refine (bound_alive _).mono ?_; rintro e w' ⟨rfl, os, n_, rfl⟩)
    have hbk : Blk ((w.alloc (.cells #[.int .i64 a2_0, .int .i64 a2_1] 35)).more os n_) w.heap.size 35 #[.int .i64 a2_0, .int .i64 a2_1] := (by repeat (first | (with_reducible assumption) | ((with_reducible refine Blk.new' ?_); (simp [Nat.add_assoc]; done)) | (with_reducible refine Blk.alloc ?_ _) | (with_reducible refine Blk.more ?_ _ _) | (with_reducible refine Blk.drew ?_) | (with_reducible refine Blk.drewN ?_ _)))
    have hmb : More w ((w.alloc (.cells #[.int .i64 a2_0, .int .i64 a2_1] 35)).more os n_) := (by repeat (first | (with_reducible assumption) | (with_reducible exact More.refl _) | (with_reducible refine More.alloc ?_ _) | (with_reducible refine More.more ?_ _ _) | (with_reducible refine More.drewN ?_ _) | (with_reducible refine More.drew ?_)))
    have hfb : Row ((w.alloc (.cells #[.int .i64 a2_0, .int .i64 a2_1] 35)).more os n_) a0 len0 f := (by repeat (first | (with_reducible assumption) | (with_reducible exact Row.nil) | (with_reducible apply Row.drewN) | (with_reducible apply Row.drew) | (with_reducible apply Row.more) | (with_reducible apply Row.alloc)))
    have hgb : Row ((w.alloc (.cells #[.int .i64 a2_0, .int .i64 a2_1] 35)).more os n_) a1 len1 g := (by repeat (first | (with_reducible assumption) | (with_reducible exact Row.nil) | (with_reducible apply Row.drewN) | (with_reducible apply Row.drew) | (with_reducible apply Row.more) | (with_reducible apply Row.alloc)))
    have hsb : Row ((w.alloc (.cells #[.int .i64 a2_0, .int .i64 a2_1] 35)).more os n_) a3 len3 x := (by repeat (first | (with_reducible assumption) | (with_reducible exact Row.nil) | (with_reducible apply Row.drewN) | (with_reducible apply Row.drew) | (with_reducible apply Row.more) | (with_reducible apply Row.alloc)))
    have hgl := hbk.lt
    have hp0 : ((w.alloc (.cells #[.int .i64 a2_0, .int .i64 a2_1] 35)).more os n_).cell? ⟨w.heap.size, 0, none⟩ = some (.int .i64 a2_0) := hbk.cell 0
    have hp1 : ((w.alloc (.cells #[.int .i64 a2_0, .int .i64 a2_1] 35)).more os n_).cell? ⟨w.heap.size, 1, none⟩ = some (.int .i64 a2_1) := hbk.cell 1
    clear hf hg hs hbk
    generalize ((w.alloc (.cells #[.int .i64 a2_0, .int .i64 a2_1] 35)).more os n_) = wb at *
    refine wp_region_held_drew (S := (fun w' => w'.cell? ⟨w.heap.size, 0, none⟩ = some (.int .i64 a2_0) ∧ w'.cell? ⟨w.heap.size, 1, none⟩ = some (.int .i64 a2_1) ∧ More wb w')) (by kernel_rfl) ?_ (fun hHeld => ?_)
    · exact More.two hgl hp0 hp1 (by repeat (first | (with_reducible assumption) | (with_reducible exact More.refl _) | (with_reducible refine More.alloc ?_ _) | (with_reducible refine More.more ?_ _ _) | (with_reducible refine More.drewN ?_ _) | (with_reducible refine More.drew ?_)))
    refine wpAnyH_take (i := 0) (v := ?_) rfl (by kernel_rfl) (by kernel_rfl) (by kernel_rfl) (fun _ _ _ h => h) (Or.inl ⟨by rfl, ?_⟩) (by assumption) ?_
    rotate_left 1
    · intro w' hSw
      (try dsimp only at hSw)
      go_simp
      try (with_reducible rfl)
    try simp only [List.getElem_toArray, List.getElem_cons_zero, List.getElem_cons_succ, Act.put, List.setIfInBounds_toArray, List.set_cons_zero, List.set_cons_succ]
    refine wpAnyH_take (i := 1) (v := ?_) rfl (by kernel_rfl) (by kernel_rfl) (by kernel_rfl) (fun _ _ _ h => h) (Or.inl ⟨by rfl, ?_⟩) (by assumption) ?_
    rotate_left 1
    · intro w' hSw
      (try dsimp only at hSw)
      go_simp
      try (with_reducible rfl)
    try simp only [List.getElem_toArray, List.getElem_cons_zero, List.getElem_cons_succ, Act.put, List.setIfInBounds_toArray, List.set_cons_zero, List.set_cons_succ]
    refine wpAnyH_ready (rs := [2]) (by kernel_rfl) (by simp) ?_
    refine AllReadyH.cons rfl (fun K hK => ?_) AllReadyH.nil
    go_simp
    go_wp2_with (refine (bright_any a2_0 a2_1 _ len3 _ x _ (by repeat (first | (with_reducible assumption) | (with_reducible exact Row.nil) | (with_reducible apply Row.drewN) | (with_reducible apply Row.drew) | (with_reducible apply Row.more) | (with_reducible apply Row.alloc))) (by omega)).mono ?_; rintro e w' ⟨rfl, os1, d1, rfl⟩; rw [E1.out])
    refine hK.out _ _ ?_ (fun hHeld => ?_)
    · exact More.two hgl hp0 hp1 (by repeat (first | (with_reducible assumption) | (with_reducible exact More.refl _) | (with_reducible refine More.alloc ?_ _) | (with_reducible refine More.more ?_ _ _) | (with_reducible refine More.drewN ?_ _) | (with_reducible refine More.drew ?_)))
    clear hK K
    refine wpAnyH_take (i := 3) (v := ?_) rfl (by kernel_rfl) (by kernel_rfl) (by kernel_rfl) (fun _ _ _ h => h) (Or.inl ⟨by rfl, ?_⟩) (by assumption) ?_
    rotate_left 1
    · intro w' hSw
      (try dsimp only at hSw)
      go_simp
      try (with_reducible rfl)
    try simp only [List.getElem_toArray, List.getElem_cons_zero, List.getElem_cons_succ, Act.put, List.setIfInBounds_toArray, List.set_cons_zero, List.set_cons_succ]
    refine wpAnyH_take (i := 4) (v := ?_) rfl (by kernel_rfl) (by kernel_rfl) (by kernel_rfl) (fun _ _ _ h => h) (Or.inl ⟨by rfl, ?_⟩) (by assumption) ?_
    rotate_left 1
    · intro w' hSw
      (try dsimp only at hSw)
      go_simp
      try (with_reducible rfl)
    try simp only [List.getElem_toArray, List.getElem_cons_zero, List.getElem_cons_succ, Act.put, List.setIfInBounds_toArray, List.set_cons_zero, List.set_cons_succ]
    refine wpAnyH_take (i := 6) (v := ?_) rfl (by kernel_rfl) (by kernel_rfl) (by kernel_rfl) (fun _ _ _ h => h) (Or.inl ⟨by rfl, ?_⟩) (by assumption) ?_
    rotate_left 1
    · intro w' hSw
      (try dsimp only at hSw)
      go_simp
      try (with_reducible rfl)
    try simp only [List.getElem_toArray, List.getElem_cons_zero, List.getElem_cons_succ, Act.put, List.setIfInBounds_toArray, List.set_cons_zero, List.set_cons_succ]
    refine wpAnyH_take (i := 7) (v := ?_) rfl (by kernel_rfl) (by kernel_rfl) (by kernel_rfl) (fun _ _ _ h => h) (Or.inl ⟨by rfl, ?_⟩) (by assumption) ?_
    rotate_left 1
    · intro w' hSw
      (try dsimp only at hSw)
      go_simp
      try (with_reducible rfl)
    try simp only [List.getElem_toArray, List.getElem_cons_zero, List.getElem_cons_succ, Act.put, List.setIfInBounds_toArray, List.set_cons_zero, List.set_cons_succ]
    refine wpAnyH_take (i := 8) (v := ?_) rfl (by kernel_rfl) (by kernel_rfl) (by kernel_rfl) (fun _ _ _ h => h) (Or.inl ⟨by rfl, ?_⟩) (by assumption) ?_
    rotate_left 1
    · intro w' hSw
      (try dsimp only at hSw)
      go_simp
      try (with_reducible rfl)
    try simp only [List.getElem_toArray, List.getElem_cons_zero, List.getElem_cons_succ, Act.put, List.setIfInBounds_toArray, List.set_cons_zero, List.set_cons_succ]
    refine wpAnyH_take (i := 9) (v := ?_) rfl (by kernel_rfl) (by kernel_rfl) (by kernel_rfl) (fun _ _ _ h => h) (Or.inl ⟨by rfl, ?_⟩) (by assumption) ?_
    rotate_left 1
    · intro w' hSw
      (try dsimp only at hSw)
      go_simp
      try (with_reducible rfl)
    try simp only [List.getElem_toArray, List.getElem_cons_zero, List.getElem_cons_succ, Act.put, List.setIfInBounds_toArray, List.set_cons_zero, List.set_cons_succ]
    refine wpAnyH_take (i := 12) (v := ?_) rfl (by kernel_rfl) (by kernel_rfl) (by kernel_rfl) (fun _ _ _ h => h) (Or.inl ⟨by rfl, ?_⟩) (by assumption) ?_
    rotate_left 1
    · intro w' hSw
      (try dsimp only at hSw)
      go_simp
      try (with_reducible rfl)
    try simp only [List.getElem_toArray, List.getElem_cons_zero, List.getElem_cons_succ, Act.put, List.setIfInBounds_toArray, List.set_cons_zero, List.set_cons_succ]
    refine wpAnyH_take (i := 13) (v := ?_) rfl (by kernel_rfl) (by kernel_rfl) (by kernel_rfl) (fun _ _ _ h => h) (Or.inl ⟨by rfl, ?_⟩) (by assumption) ?_
    rotate_left 1
    · intro w' hSw
      (try dsimp only at hSw)
      go_simp
      try (with_reducible rfl)
    try simp only [List.getElem_toArray, List.getElem_cons_zero, List.getElem_cons_succ, Act.put, List.setIfInBounds_toArray, List.set_cons_zero, List.set_cons_succ]
    refine wpAnyH_ready (rs := [5]) (by kernel_rfl) (by simp) ?_
    refine AllReadyH.cons rfl (fun K hK => ?_) AllReadyH.nil
    go_simp
    go_wp2_with (refine (cof_any _ len3 _ x _ (by repeat (first | (with_reducible assumption) | (with_reducible exact Row.nil) | (with_reducible apply Row.drewN) | (with_reducible apply Row.drew) | (with_reducible apply Row.more) | (with_reducible apply Row.alloc))) (by omega)).mono ?_; rintro e w' ⟨a2, c2, rfl, hc2, hr2, hb2⟩; obtain ⟨os2, d2, rfl⟩ := More.of_below hb2; clear hb2)
    refine hK.out _ _ ?_ (fun hHeld => ?_)
    · exact More.two hgl hp0 hp1 (by repeat (first | (with_reducible assumption) | (with_reducible exact More.refl _) | (with_reducible refine More.alloc ?_ _) | (with_reducible refine More.more ?_ _ _) | (with_reducible refine More.drewN ?_ _) | (with_reducible refine More.drew ?_)))
    clear hK K
    refine wpAnyH_ready (rs := [10]) (by kernel_rfl) (by simp) ?_
    refine AllReadyH.cons rfl (fun K hK => ?_) AllReadyH.nil
    go_simp
    go_wp2_with (refine (bline_succ a2_0 a2_1 len3 _ hB0 hB1 (by omega)).mono ?_; rintro e w' ⟨a4, c4, rfl, hc4, hr4, hb4⟩; obtain ⟨os4, d4, rfl⟩ := More.of_below hb4; clear hb4)
    refine hK.out _ _ ?_ (fun hHeld => ?_)
    · exact More.two hgl hp0 hp1 (by repeat (first | (with_reducible assumption) | (with_reducible exact More.refl _) | (with_reducible refine More.alloc ?_ _) | (with_reducible refine More.more ?_ _ _) | (with_reducible refine More.drewN ?_ _) | (with_reducible refine More.drew ?_)))
    clear hK K
    refine wpAnyH_ready (rs := [11]) (by kernel_rfl) (by simp) ?_
    refine AllReadyH.cons rfl (fun K hK => ?_) AllReadyH.nil
    go_simp
    go_wp2_with (refine (bkk_any _ _ (len3 + 1) (len3 + 1) _ _ (ofRow x) (lineOf a2_0 a2_1) _ (by repeat (first | (with_reducible assumption) | (with_reducible exact Row.nil) | (with_reducible apply Row.drewN) | (with_reducible apply Row.drew) | (with_reducible apply Row.more) | (with_reducible apply Row.alloc))) (by repeat (first | (with_reducible assumption) | (with_reducible exact Row.nil) | (with_reducible apply Row.drewN) | (with_reducible apply Row.drew) | (with_reducible apply Row.more) | (with_reducible apply Row.alloc))) (by omega) (by omega)).mono ?_; rintro e w' ⟨rfl, os5, d5, rfl⟩; rw [E3.out])
    refine hK.out _ _ ?_ (fun hHeld => ?_)
    · exact More.two hgl hp0 hp1 (by repeat (first | (with_reducible assumption) | (with_reducible exact More.refl _) | (with_reducible refine More.alloc ?_ _) | (with_reducible refine More.more ?_ _ _) | (with_reducible refine More.drewN ?_ _) | (with_reducible refine More.drew ?_)))
    clear hK K
    refine wpAnyH_ready (rs := [14]) (by kernel_rfl) (by simp) ?_
    refine AllReadyH.cons rfl (fun K hK => ?_) AllReadyH.nil
    go_simp
    go_wp2_with (refine (bkeeps_any a2_0 a2_1 _ len3 _ x _ (by repeat (first | (with_reducible assumption) | (with_reducible exact Row.nil) | (with_reducible apply Row.drewN) | (with_reducible apply Row.drew) | (with_reducible apply Row.more) | (with_reducible apply Row.alloc))) HB.out).mono ?_; rintro e w' ⟨rfl, os6, d6, rfl⟩; rw [hp.out])
    refine hK.out _ _ ?_ (fun hHeld => ?_)
    · exact More.two hgl hp0 hp1 (by repeat (first | (with_reducible assumption) | (with_reducible exact More.refl _) | (with_reducible refine More.alloc ?_ _) | (with_reducible refine More.more ?_ _ _) | (with_reducible refine More.drewN ?_ _) | (with_reducible refine More.drew ?_)))
    clear hK K
    refine wpAnyH_take (i := 15) (v := ?_) rfl (by kernel_rfl) (by kernel_rfl) (by kernel_rfl) (fun _ _ _ h => h) (Or.inl ⟨by rfl, ?_⟩) (by assumption) ?_
    rotate_left 1
    · intro w' hSw
      (try dsimp only at hSw)
      go_simp
      try (with_reducible rfl)
    try simp only [List.getElem_toArray, List.getElem_cons_zero, List.getElem_cons_succ, Act.put, List.setIfInBounds_toArray, List.set_cons_zero, List.set_cons_succ]
    refine wpAnyH_take (i := 16) (v := ?_) rfl (by kernel_rfl) (by kernel_rfl) (by kernel_rfl) (fun _ _ _ h => h) (Or.inl ⟨by rfl, ?_⟩) (by assumption) ?_
    rotate_left 1
    · intro w' hSw
      (try dsimp only at hSw)
      go_simp
      try (with_reducible rfl)
    try simp only [List.getElem_toArray, List.getElem_cons_zero, List.getElem_cons_succ, Act.put, List.setIfInBounds_toArray, List.set_cons_zero, List.set_cons_succ]
    refine wpAnyH_done (by kernel_rfl) ?_ _
    have hmz : More w (((((wb.more os1 d1).more os2 d2).more os4 d4).more os5 d5).more os6 d6) := hmb.trans (by repeat (first | (with_reducible assumption) | (with_reducible exact More.refl _) | (with_reducible refine More.alloc ?_ _) | (with_reducible refine More.more ?_ _ _) | (with_reducible refine More.drewN ?_ _) | (with_reducible refine More.drew ?_)))
    have hfz : Row (((((wb.more os1 d1).more os2 d2).more os4 d4).more os5 d5).more os6 d6) a0 len0 f := (by repeat (first | (with_reducible assumption) | (with_reducible exact Row.nil) | (with_reducible apply Row.drewN) | (with_reducible apply Row.drew) | (with_reducible apply Row.more) | (with_reducible apply Row.alloc)))
    have hgz : Row (((((wb.more os1 d1).more os2 d2).more os4 d4).more os5 d5).more os6 d6) a1 len1 g := (by repeat (first | (with_reducible assumption) | (with_reducible exact Row.nil) | (with_reducible apply Row.drewN) | (with_reducible apply Row.drew) | (with_reducible apply Row.more) | (with_reducible apply Row.alloc)))
    clear hmb hfb hgb hsb hgl hp0 hp1
    generalize (((((wb.more os1 d1).more os2 d2).more os4 d4).more os5 d5).more os6 d6) = wz at *
    go_wp2_with fail
    by_cases c2 : cRight len0 f = true
    · have C2 := cRight_iff.1 c2
      have E5 := Lib.hid c2
      obtain ⟨m, rfl⟩ : ∃ m, len0 = m + 1 := ⟨len0 - 1, by have := C2.1; omega⟩
      by_cases hl : len1 = m + 1
      · obtain rfl : len1 = m + 1 := hl
        obtain ⟨bf, of, y, rfl, hbf, hcf, hyf⟩ := hfz.at_ (show m < m + 1 by omega)
        have kw1 : IntKind.i64.wrap ((m : Int) + 1 - 1) = (m : Int) := by rw [IntWalk.i64_in _ (by omega)]; omega
        have k0 : (0 : Int) ≤ (m : Int) := by omega
        have k1 : (m : Int) < (m : Int) + 1 := by omega
        by_cases hy : 1099511627776 < y
        · have dy : decide (1099511627776 < y) = true := by simpa using hy
          clear hy C2 c2
          refine (cright_any _ (m + 1) _ f _ (by repeat (first | (with_reducible assumption) | (with_reducible exact Row.nil) | (with_reducible apply Row.drewN) | (with_reducible apply Row.drew) | (with_reducible apply Row.more) | (with_reducible apply Row.alloc))) (by omega)).mono ?_
          rintro e w' ⟨rfl, os7, d7, rfl⟩
          rw [E5.out]
          go_wp2_with fail
          go_ret
          exact ⟨rfl, More.below (by repeat (first | (with_reducible assumption) | (with_reducible exact More.refl _) | (with_reducible refine More.alloc ?_ _) | (with_reducible refine More.more ?_ _ _) | (with_reducible refine More.drewN ?_ _) | (with_reducible refine More.drew ?_)))⟩
        · have dy : decide (1099511627776 < y) = false := by simpa using hy
          by_cases hA : allIn (m + 1) g 0 1099511627776 = true
          · have hS : someIn (m + 1) g (fun x => decide (x < 0) || decide (1099511627776 < x)) = false := by
              rw [← not_someIn, Bool.not_eq_true'] at hA
              exact hA
            have HS := Lib.hid hS
            have hfa : AllIn (m + 1) f 0 1099511627776 := fun k hk => by
              have a1 := C2.bounds k hk
              have a2 := Sorted.le C2.2.2.1 k m (by omega) (by omega)
              rw [← hyf.out] at a2
              omega
            obtain ⟨q, hq⟩ : ∃ q, Hid (kKept (m + 1) (m + 1) f g = q) := ⟨_, rfl⟩
            have E6 : Hid (cWithin (m + 1) (m + 1) f (conv f g) = q) := by
              show _ = q
              rw [← hq.out, Bool.eq_iff_iff, cWithin_iff, kKept_iff]
              exact (bound_conv hfa (allIn_iff.1 hA)).symm
            clear hy C2 c2 hA hS hfa
            refine (cright_any _ (m + 1) _ f _ (by repeat (first | (with_reducible assumption) | (with_reducible exact Row.nil) | (with_reducible apply Row.drewN) | (with_reducible apply Row.drew) | (with_reducible apply Row.more) | (with_reducible apply Row.alloc))) (by omega)).mono ?_
            rintro e w' ⟨rfl, os7, d7, rfl⟩
            rw [E5.out]
            go_wp2_with fail
            refine (contains_any _ _ kbad_looks _ (m + 1) _ g _ (by repeat (first | (with_reducible assumption) | (with_reducible exact Row.nil) | (with_reducible apply Row.drewN) | (with_reducible apply Row.drew) | (with_reducible apply Row.more) | (with_reducible apply Row.alloc))) (by omega)).mono ?_
            rintro e w' ⟨rfl, rfl⟩
            rw [HS.out]
            go_wp2_with fail
            refine (bkk_any _ _ (m + 1) (m + 1) _ _ f g _ (by repeat (first | (with_reducible assumption) | (with_reducible exact Row.nil) | (with_reducible apply Row.drewN) | (with_reducible apply Row.drew) | (with_reducible apply Row.more) | (with_reducible apply Row.alloc))) (by repeat (first | (with_reducible assumption) | (with_reducible exact Row.nil) | (with_reducible apply Row.drewN) | (with_reducible apply Row.drew) | (with_reducible apply Row.more) | (with_reducible apply Row.alloc))) (by omega) (by omega)).mono ?_
            rintro e w1 ⟨rfl, os_1, d_1, rfl⟩
            rw [hq.out]
            go_wp2_with fail
            refine (conv_any _ _ (m + 1) (m + 1) _ _ f g _ (by repeat (first | (with_reducible assumption) | (with_reducible exact Row.nil) | (with_reducible apply Row.drewN) | (with_reducible apply Row.drew) | (with_reducible apply Row.more) | (with_reducible apply Row.alloc))) (by repeat (first | (with_reducible assumption) | (with_reducible exact Row.nil) | (with_reducible apply Row.drewN) | (with_reducible apply Row.drew) | (with_reducible apply Row.more) | (with_reducible apply Row.alloc))) (by omega) (by omega)).mono ?_
            rw [Nat.min_self]
            rintro e w1 ⟨a_2, c_2, rfl, hc_2, hr_2, hb_2⟩
            obtain ⟨os_2, d_2, rfl⟩ := More.of_below hb_2
            go_wp2_with fail
            refine (cwithin_any _ _ (m + 1) (m + 1) _ _ f (conv f g) _ (by repeat (first | (with_reducible assumption) | (with_reducible exact Row.nil) | (with_reducible apply Row.drewN) | (with_reducible apply Row.drew) | (with_reducible apply Row.more) | (with_reducible apply Row.alloc))) (by repeat (first | (with_reducible assumption) | (with_reducible exact Row.nil) | (with_reducible apply Row.drewN) | (with_reducible apply Row.drew) | (with_reducible apply Row.more) | (with_reducible apply Row.alloc))) (by omega) (by omega)).mono ?_
            rintro e w1 ⟨rfl, os_3, d_3, rfl⟩
            rw [E6.out]
            go_wp2
            go_ret
            exact ⟨rfl, More.below (by repeat (first | (with_reducible assumption) | (with_reducible exact More.refl _) | (with_reducible refine More.alloc ?_ _) | (with_reducible refine More.more ?_ _ _) | (with_reducible refine More.drewN ?_ _) | (with_reducible refine More.drew ?_)))⟩
          · have hS : someIn (m + 1) g (fun x => decide (x < 0) || decide (1099511627776 < x)) = true := by
              rw [← not_someIn, Bool.not_eq_true', Bool.not_eq_false] at hA
              exact hA
            have HS := Lib.hid hS
            clear hy C2 c2 hA hS
            refine (cright_any _ (m + 1) _ f _ (by repeat (first | (with_reducible assumption) | (with_reducible exact Row.nil) | (with_reducible apply Row.drewN) | (with_reducible apply Row.drew) | (with_reducible apply Row.more) | (with_reducible apply Row.alloc))) (by omega)).mono ?_
            rintro e w' ⟨rfl, os7, d7, rfl⟩
            rw [E5.out]
            go_wp2_with fail
            refine (contains_any _ _ kbad_looks _ (m + 1) _ g _ (by repeat (first | (with_reducible assumption) | (with_reducible exact Row.nil) | (with_reducible apply Row.drewN) | (with_reducible apply Row.drew) | (with_reducible apply Row.more) | (with_reducible apply Row.alloc))) (by omega)).mono ?_
            rintro e w' ⟨rfl, rfl⟩
            rw [HS.out]
            go_wp2_with fail
            go_ret
            exact ⟨rfl, More.below (by repeat (first | (with_reducible assumption) | (with_reducible exact More.refl _) | (with_reducible refine More.alloc ?_ _) | (with_reducible refine More.more ?_ _ _) | (with_reducible refine More.drewN ?_ _) | (with_reducible refine More.drew ?_)))⟩
      · have kb : ((len1 : Int) != (m : Int) + 1) = true := by simp; omega
        clear C2 c2 hl
        refine (cright_any _ (m + 1) _ f _ (by repeat (first | (with_reducible assumption) | (with_reducible exact Row.nil) | (with_reducible apply Row.drewN) | (with_reducible apply Row.drew) | (with_reducible apply Row.more) | (with_reducible apply Row.alloc))) (by omega)).mono ?_
        rintro e w' ⟨rfl, os7, d7, rfl⟩
        rw [E5.out]
        go_wp2_with fail
        go_ret
        exact ⟨rfl, More.below (by repeat (first | (with_reducible assumption) | (with_reducible exact More.refl _) | (with_reducible refine More.alloc ?_ _) | (with_reducible refine More.more ?_ _ _) | (with_reducible refine More.drewN ?_ _) | (with_reducible refine More.drew ?_)))⟩
    · have c2' : cRight len0 f = false := by simpa using c2
      have E5 := Lib.hid c2'
      clear c2 c2'
      refine (cright_any _ len0 _ f _ (by repeat (first | (with_reducible assumption) | (with_reducible exact Row.nil) | (with_reducible apply Row.drewN) | (with_reducible apply Row.drew) | (with_reducible apply Row.more) | (with_reducible apply Row.alloc))) (by omega)).mono ?_
      rintro e w' ⟨rfl, os7, d7, rfl⟩
      rw [E5.out]
      go_wp2_with fail
      go_ret
      exact ⟨rfl, More.below (by repeat (first | (with_reducible assumption) | (with_reducible exact More.refl _) | (with_reducible refine More.alloc ?_ _) | (with_reducible refine More.more ?_ _ _) | (with_reducible refine More.drewN ?_ _) | (with_reducible refine More.drew ?_)))⟩
  · have c1' : bRight a2_0 a2_1 len3 x = false := by simpa using c1
    have E1 := Lib.hid c1'
    clear c1 c1'
    go_enter Try.func23, Try.ntmps23
    go_wp2_with (go_at_call 51; refine (bound_alive _).mono ?_; rintro e w' ⟨rfl, os, n_, rfl⟩)
    have hbk : Blk ((w.alloc (.cells #[.int .i64 a2_0, .int .i64 a2_1] 35)).more os n_) w.heap.size 35 #[.int .i64 a2_0, .int .i64 a2_1] := (by repeat (first | (with_reducible assumption) | ((with_reducible refine Blk.new' ?_); (simp [Nat.add_assoc]; done)) | (with_reducible refine Blk.alloc ?_ _) | (with_reducible refine Blk.more ?_ _ _) | (with_reducible refine Blk.drew ?_) | (with_reducible refine Blk.drewN ?_ _)))
    have hmb : More w ((w.alloc (.cells #[.int .i64 a2_0, .int .i64 a2_1] 35)).more os n_) := (by repeat (first | (with_reducible assumption) | (with_reducible exact More.refl _) | (with_reducible refine More.alloc ?_ _) | (with_reducible refine More.more ?_ _ _) | (with_reducible refine More.drewN ?_ _) | (with_reducible refine More.drew ?_)))
    have hfb : Row ((w.alloc (.cells #[.int .i64 a2_0, .int .i64 a2_1] 35)).more os n_) a0 len0 f := (by repeat (first | (with_reducible assumption) | (with_reducible exact Row.nil) | (with_reducible apply Row.drewN) | (with_reducible apply Row.drew) | (with_reducible apply Row.more) | (with_reducible apply Row.alloc)))
    have hgb : Row ((w.alloc (.cells #[.int .i64 a2_0, .int .i64 a2_1] 35)).more os n_) a1 len1 g := (by repeat (first | (with_reducible assumption) | (with_reducible exact Row.nil) | (with_reducible apply Row.drewN) | (with_reducible apply Row.drew) | (with_reducible apply Row.more) | (with_reducible apply Row.alloc)))
    have hsb : Row ((w.alloc (.cells #[.int .i64 a2_0, .int .i64 a2_1] 35)).more os n_) a3 len3 x := (by repeat (first | (with_reducible assumption) | (with_reducible exact Row.nil) | (with_reducible apply Row.drewN) | (with_reducible apply Row.drew) | (with_reducible apply Row.more) | (with_reducible apply Row.alloc)))
    have hgl := hbk.lt
    have hp0 : ((w.alloc (.cells #[.int .i64 a2_0, .int .i64 a2_1] 35)).more os n_).cell? ⟨w.heap.size, 0, none⟩ = some (.int .i64 a2_0) := hbk.cell 0
    have hp1 : ((w.alloc (.cells #[.int .i64 a2_0, .int .i64 a2_1] 35)).more os n_).cell? ⟨w.heap.size, 1, none⟩ = some (.int .i64 a2_1) := hbk.cell 1
    clear hf hg hs hbk
    generalize ((w.alloc (.cells #[.int .i64 a2_0, .int .i64 a2_1] 35)).more os n_) = wb at *
    refine wp_region_held_drew (S := (fun w' => w'.cell? ⟨w.heap.size, 0, none⟩ = some (.int .i64 a2_0) ∧ w'.cell? ⟨w.heap.size, 1, none⟩ = some (.int .i64 a2_1) ∧ More wb w')) (by kernel_rfl) ?_ (fun hHeld => ?_)
    · exact More.two hgl hp0 hp1 (by repeat (first | (with_reducible assumption) | (with_reducible exact More.refl _) | (with_reducible refine More.alloc ?_ _) | (with_reducible refine More.more ?_ _ _) | (with_reducible refine More.drewN ?_ _) | (with_reducible refine More.drew ?_)))
    refine wpAnyH_take (i := 0) (v := ?_) rfl (by kernel_rfl) (by kernel_rfl) (by kernel_rfl) (fun _ _ _ h => h) (Or.inl ⟨by rfl, ?_⟩) (by assumption) ?_
    rotate_left 1
    · intro w' hSw
      (try dsimp only at hSw)
      go_simp
      try (with_reducible rfl)
    try simp only [List.getElem_toArray, List.getElem_cons_zero, List.getElem_cons_succ, Act.put, List.setIfInBounds_toArray, List.set_cons_zero, List.set_cons_succ]
    refine wpAnyH_take (i := 1) (v := ?_) rfl (by kernel_rfl) (by kernel_rfl) (by kernel_rfl) (fun _ _ _ h => h) (Or.inl ⟨by rfl, ?_⟩) (by assumption) ?_
    rotate_left 1
    · intro w' hSw
      (try dsimp only at hSw)
      go_simp
      try (with_reducible rfl)
    try simp only [List.getElem_toArray, List.getElem_cons_zero, List.getElem_cons_succ, Act.put, List.setIfInBounds_toArray, List.set_cons_zero, List.set_cons_succ]
    refine wpAnyH_ready (rs := [2]) (by kernel_rfl) (by simp) ?_
    refine AllReadyH.cons rfl (fun K hK => ?_) AllReadyH.nil
    go_simp
    go_wp2_with (refine (bright_any a2_0 a2_1 _ len3 _ x _ (by repeat (first | (with_reducible assumption) | (with_reducible exact Row.nil) | (with_reducible apply Row.drewN) | (with_reducible apply Row.drew) | (with_reducible apply Row.more) | (with_reducible apply Row.alloc))) (by omega)).mono ?_; rintro e w' ⟨rfl, os1, d1, rfl⟩; rw [E1.out])
    refine hK.out _ _ ?_ (fun hHeld => ?_)
    · exact More.two hgl hp0 hp1 (by repeat (first | (with_reducible assumption) | (with_reducible exact More.refl _) | (with_reducible refine More.alloc ?_ _) | (with_reducible refine More.more ?_ _ _) | (with_reducible refine More.drewN ?_ _) | (with_reducible refine More.drew ?_)))
    clear hK K
    refine wpAnyH_take (i := 3) (v := ?_) rfl (by kernel_rfl) (by kernel_rfl) (by kernel_rfl) (fun _ _ _ h => h) (Or.inl ⟨by rfl, ?_⟩) (by assumption) ?_
    rotate_left 1
    · intro w' hSw
      (try dsimp only at hSw)
      go_simp
      try (with_reducible rfl)
    try simp only [List.getElem_toArray, List.getElem_cons_zero, List.getElem_cons_succ, Act.put, List.setIfInBounds_toArray, List.set_cons_zero, List.set_cons_succ]
    refine wpAnyH_take (i := 4) (v := undef) rfl (by kernel_rfl) (by kernel_rfl) (by kernel_rfl) (fun _ _ _ h => h) (Or.inr ⟨by rfl, rfl⟩) (by assumption) ?_
    try simp only [List.getElem_toArray, List.getElem_cons_zero, List.getElem_cons_succ, Act.put, List.setIfInBounds_toArray, List.set_cons_zero, List.set_cons_succ]
    refine wpAnyH_take (i := 5) (v := undef) rfl (by kernel_rfl) (by kernel_rfl) (by kernel_rfl) (fun _ _ _ h => h) (Or.inr ⟨by rfl, rfl⟩) (by assumption) ?_
    try simp only [List.getElem_toArray, List.getElem_cons_zero, List.getElem_cons_succ, Act.put, List.setIfInBounds_toArray, List.set_cons_zero, List.set_cons_succ]
    refine wpAnyH_take (i := 6) (v := undef) rfl (by kernel_rfl) (by kernel_rfl) (by kernel_rfl) (fun _ _ _ h => h) (Or.inr ⟨by rfl, rfl⟩) (by assumption) ?_
    try simp only [List.getElem_toArray, List.getElem_cons_zero, List.getElem_cons_succ, Act.put, List.setIfInBounds_toArray, List.set_cons_zero, List.set_cons_succ]
    refine wpAnyH_take (i := 7) (v := undef) rfl (by kernel_rfl) (by kernel_rfl) (by kernel_rfl) (fun _ _ _ h => h) (Or.inr ⟨by rfl, rfl⟩) (by assumption) ?_
    try simp only [List.getElem_toArray, List.getElem_cons_zero, List.getElem_cons_succ, Act.put, List.setIfInBounds_toArray, List.set_cons_zero, List.set_cons_succ]
    refine wpAnyH_take (i := 8) (v := undef) rfl (by kernel_rfl) (by kernel_rfl) (by kernel_rfl) (fun _ _ _ h => h) (Or.inr ⟨by rfl, rfl⟩) (by assumption) ?_
    try simp only [List.getElem_toArray, List.getElem_cons_zero, List.getElem_cons_succ, Act.put, List.setIfInBounds_toArray, List.set_cons_zero, List.set_cons_succ]
    refine wpAnyH_take (i := 9) (v := undef) rfl (by kernel_rfl) (by kernel_rfl) (by kernel_rfl) (fun _ _ _ h => h) (Or.inr ⟨by rfl, rfl⟩) (by assumption) ?_
    try simp only [List.getElem_toArray, List.getElem_cons_zero, List.getElem_cons_succ, Act.put, List.setIfInBounds_toArray, List.set_cons_zero, List.set_cons_succ]
    refine wpAnyH_take (i := 10) (v := undef) rfl (by kernel_rfl) (by kernel_rfl) (by kernel_rfl) (fun _ _ _ h => h) (Or.inr ⟨by rfl, rfl⟩) (by assumption) ?_
    try simp only [List.getElem_toArray, List.getElem_cons_zero, List.getElem_cons_succ, Act.put, List.setIfInBounds_toArray, List.set_cons_zero, List.set_cons_succ]
    refine wpAnyH_take (i := 11) (v := undef) rfl (by kernel_rfl) (by kernel_rfl) (by kernel_rfl) (fun _ _ _ h => h) (Or.inr ⟨by rfl, rfl⟩) (by assumption) ?_
    try simp only [List.getElem_toArray, List.getElem_cons_zero, List.getElem_cons_succ, Act.put, List.setIfInBounds_toArray, List.set_cons_zero, List.set_cons_succ]
    refine wpAnyH_take (i := 12) (v := undef) rfl (by kernel_rfl) (by kernel_rfl) (by kernel_rfl) (fun _ _ _ h => h) (Or.inr ⟨by rfl, rfl⟩) (by assumption) ?_
    try simp only [List.getElem_toArray, List.getElem_cons_zero, List.getElem_cons_succ, Act.put, List.setIfInBounds_toArray, List.set_cons_zero, List.set_cons_succ]
    refine wpAnyH_take (i := 13) (v := undef) rfl (by kernel_rfl) (by kernel_rfl) (by kernel_rfl) (fun _ _ _ h => h) (Or.inr ⟨by rfl, rfl⟩) (by assumption) ?_
    try simp only [List.getElem_toArray, List.getElem_cons_zero, List.getElem_cons_succ, Act.put, List.setIfInBounds_toArray, List.set_cons_zero, List.set_cons_succ]
    refine wpAnyH_take (i := 14) (v := undef) rfl (by kernel_rfl) (by kernel_rfl) (by kernel_rfl) (fun _ _ _ h => h) (Or.inr ⟨by rfl, rfl⟩) (by assumption) ?_
    try simp only [List.getElem_toArray, List.getElem_cons_zero, List.getElem_cons_succ, Act.put, List.setIfInBounds_toArray, List.set_cons_zero, List.set_cons_succ]
    refine wpAnyH_take (i := 15) (v := undef) rfl (by kernel_rfl) (by kernel_rfl) (by kernel_rfl) (fun _ _ _ h => h) (Or.inr ⟨by rfl, rfl⟩) (by assumption) ?_
    try simp only [List.getElem_toArray, List.getElem_cons_zero, List.getElem_cons_succ, Act.put, List.setIfInBounds_toArray, List.set_cons_zero, List.set_cons_succ]
    refine wpAnyH_take (i := 16) (v := ?_) rfl (by kernel_rfl) (by kernel_rfl) (by kernel_rfl) (fun _ _ _ h => h) (Or.inl ⟨by rfl, ?_⟩) (by assumption) ?_
    rotate_left 1
    · intro w' hSw
      (try dsimp only at hSw)
      go_simp
      try (with_reducible rfl)
    try simp only [List.getElem_toArray, List.getElem_cons_zero, List.getElem_cons_succ, Act.put, List.setIfInBounds_toArray, List.set_cons_zero, List.set_cons_succ]
    refine wpAnyH_done (by kernel_rfl) ?_ _
    have hmz : More w (wb.more os1 d1) := hmb.trans (by repeat (first | (with_reducible assumption) | (with_reducible exact More.refl _) | (with_reducible refine More.alloc ?_ _) | (with_reducible refine More.more ?_ _ _) | (with_reducible refine More.drewN ?_ _) | (with_reducible refine More.drew ?_)))
    have hfz : Row (wb.more os1 d1) a0 len0 f := (by repeat (first | (with_reducible assumption) | (with_reducible exact Row.nil) | (with_reducible apply Row.drewN) | (with_reducible apply Row.drew) | (with_reducible apply Row.more) | (with_reducible apply Row.alloc)))
    have hgz : Row (wb.more os1 d1) a1 len1 g := (by repeat (first | (with_reducible assumption) | (with_reducible exact Row.nil) | (with_reducible apply Row.drewN) | (with_reducible apply Row.drew) | (with_reducible apply Row.more) | (with_reducible apply Row.alloc)))
    clear hmb hfb hgb hsb hgl hp0 hp1
    generalize (wb.more os1 d1) = wz at *
    go_wp2_with fail
    by_cases c2 : cRight len0 f = true
    · have C2 := cRight_iff.1 c2
      have E5 := Lib.hid c2
      obtain ⟨m, rfl⟩ : ∃ m, len0 = m + 1 := ⟨len0 - 1, by have := C2.1; omega⟩
      by_cases hl : len1 = m + 1
      · obtain rfl : len1 = m + 1 := hl
        obtain ⟨bf, of, y, rfl, hbf, hcf, hyf⟩ := hfz.at_ (show m < m + 1 by omega)
        have kw1 : IntKind.i64.wrap ((m : Int) + 1 - 1) = (m : Int) := by rw [IntWalk.i64_in _ (by omega)]; omega
        have k0 : (0 : Int) ≤ (m : Int) := by omega
        have k1 : (m : Int) < (m : Int) + 1 := by omega
        by_cases hy : 1099511627776 < y
        · have dy : decide (1099511627776 < y) = true := by simpa using hy
          clear hy C2 c2
          refine (cright_any _ (m + 1) _ f _ (by repeat (first | (with_reducible assumption) | (with_reducible exact Row.nil) | (with_reducible apply Row.drewN) | (with_reducible apply Row.drew) | (with_reducible apply Row.more) | (with_reducible apply Row.alloc))) (by omega)).mono ?_
          rintro e w' ⟨rfl, os7, d7, rfl⟩
          rw [E5.out]
          go_wp2_with fail
          go_ret
          exact ⟨rfl, More.below (by repeat (first | (with_reducible assumption) | (with_reducible exact More.refl _) | (with_reducible refine More.alloc ?_ _) | (with_reducible refine More.more ?_ _ _) | (with_reducible refine More.drewN ?_ _) | (with_reducible refine More.drew ?_)))⟩
        · have dy : decide (1099511627776 < y) = false := by simpa using hy
          by_cases hA : allIn (m + 1) g 0 1099511627776 = true
          · have hS : someIn (m + 1) g (fun x => decide (x < 0) || decide (1099511627776 < x)) = false := by
              rw [← not_someIn, Bool.not_eq_true'] at hA
              exact hA
            have HS := Lib.hid hS
            have hfa : AllIn (m + 1) f 0 1099511627776 := fun k hk => by
              have a1 := C2.bounds k hk
              have a2 := Sorted.le C2.2.2.1 k m (by omega) (by omega)
              rw [← hyf.out] at a2
              omega
            obtain ⟨q, hq⟩ : ∃ q, Hid (kKept (m + 1) (m + 1) f g = q) := ⟨_, rfl⟩
            have E6 : Hid (cWithin (m + 1) (m + 1) f (conv f g) = q) := by
              show _ = q
              rw [← hq.out, Bool.eq_iff_iff, cWithin_iff, kKept_iff]
              exact (bound_conv hfa (allIn_iff.1 hA)).symm
            clear hy C2 c2 hA hS hfa
            refine (cright_any _ (m + 1) _ f _ (by repeat (first | (with_reducible assumption) | (with_reducible exact Row.nil) | (with_reducible apply Row.drewN) | (with_reducible apply Row.drew) | (with_reducible apply Row.more) | (with_reducible apply Row.alloc))) (by omega)).mono ?_
            rintro e w' ⟨rfl, os7, d7, rfl⟩
            rw [E5.out]
            go_wp2_with fail
            refine (contains_any _ _ kbad_looks _ (m + 1) _ g _ (by repeat (first | (with_reducible assumption) | (with_reducible exact Row.nil) | (with_reducible apply Row.drewN) | (with_reducible apply Row.drew) | (with_reducible apply Row.more) | (with_reducible apply Row.alloc))) (by omega)).mono ?_
            rintro e w' ⟨rfl, rfl⟩
            rw [HS.out]
            go_wp2_with fail
            refine (bkk_any _ _ (m + 1) (m + 1) _ _ f g _ (by repeat (first | (with_reducible assumption) | (with_reducible exact Row.nil) | (with_reducible apply Row.drewN) | (with_reducible apply Row.drew) | (with_reducible apply Row.more) | (with_reducible apply Row.alloc))) (by repeat (first | (with_reducible assumption) | (with_reducible exact Row.nil) | (with_reducible apply Row.drewN) | (with_reducible apply Row.drew) | (with_reducible apply Row.more) | (with_reducible apply Row.alloc))) (by omega) (by omega)).mono ?_
            rintro e w1 ⟨rfl, os_1, d_1, rfl⟩
            rw [hq.out]
            go_wp2_with fail
            refine (conv_any _ _ (m + 1) (m + 1) _ _ f g _ (by repeat (first | (with_reducible assumption) | (with_reducible exact Row.nil) | (with_reducible apply Row.drewN) | (with_reducible apply Row.drew) | (with_reducible apply Row.more) | (with_reducible apply Row.alloc))) (by repeat (first | (with_reducible assumption) | (with_reducible exact Row.nil) | (with_reducible apply Row.drewN) | (with_reducible apply Row.drew) | (with_reducible apply Row.more) | (with_reducible apply Row.alloc))) (by omega) (by omega)).mono ?_
            rw [Nat.min_self]
            rintro e w1 ⟨a_2, c_2, rfl, hc_2, hr_2, hb_2⟩
            obtain ⟨os_2, d_2, rfl⟩ := More.of_below hb_2
            go_wp2_with fail
            refine (cwithin_any _ _ (m + 1) (m + 1) _ _ f (conv f g) _ (by repeat (first | (with_reducible assumption) | (with_reducible exact Row.nil) | (with_reducible apply Row.drewN) | (with_reducible apply Row.drew) | (with_reducible apply Row.more) | (with_reducible apply Row.alloc))) (by repeat (first | (with_reducible assumption) | (with_reducible exact Row.nil) | (with_reducible apply Row.drewN) | (with_reducible apply Row.drew) | (with_reducible apply Row.more) | (with_reducible apply Row.alloc))) (by omega) (by omega)).mono ?_
            rintro e w1 ⟨rfl, os_3, d_3, rfl⟩
            rw [E6.out]
            go_wp2
            go_ret
            exact ⟨rfl, More.below (by repeat (first | (with_reducible assumption) | (with_reducible exact More.refl _) | (with_reducible refine More.alloc ?_ _) | (with_reducible refine More.more ?_ _ _) | (with_reducible refine More.drewN ?_ _) | (with_reducible refine More.drew ?_)))⟩
          · have hS : someIn (m + 1) g (fun x => decide (x < 0) || decide (1099511627776 < x)) = true := by
              rw [← not_someIn, Bool.not_eq_true', Bool.not_eq_false] at hA
              exact hA
            have HS := Lib.hid hS
            clear hy C2 c2 hA hS
            refine (cright_any _ (m + 1) _ f _ (by repeat (first | (with_reducible assumption) | (with_reducible exact Row.nil) | (with_reducible apply Row.drewN) | (with_reducible apply Row.drew) | (with_reducible apply Row.more) | (with_reducible apply Row.alloc))) (by omega)).mono ?_
            rintro e w' ⟨rfl, os7, d7, rfl⟩
            rw [E5.out]
            go_wp2_with fail
            refine (contains_any _ _ kbad_looks _ (m + 1) _ g _ (by repeat (first | (with_reducible assumption) | (with_reducible exact Row.nil) | (with_reducible apply Row.drewN) | (with_reducible apply Row.drew) | (with_reducible apply Row.more) | (with_reducible apply Row.alloc))) (by omega)).mono ?_
            rintro e w' ⟨rfl, rfl⟩
            rw [HS.out]
            go_wp2_with fail
            go_ret
            exact ⟨rfl, More.below (by repeat (first | (with_reducible assumption) | (with_reducible exact More.refl _) | (with_reducible refine More.alloc ?_ _) | (with_reducible refine More.more ?_ _ _) | (with_reducible refine More.drewN ?_ _) | (with_reducible refine More.drew ?_)))⟩
      · have kb : ((len1 : Int) != (m : Int) + 1) = true := by simp; omega
        clear C2 c2 hl
        refine (cright_any _ (m + 1) _ f _ (by repeat (first | (with_reducible assumption) | (with_reducible exact Row.nil) | (with_reducible apply Row.drewN) | (with_reducible apply Row.drew) | (with_reducible apply Row.more) | (with_reducible apply Row.alloc))) (by omega)).mono ?_
        rintro e w' ⟨rfl, os7, d7, rfl⟩
        rw [E5.out]
        go_wp2_with fail
        go_ret
        exact ⟨rfl, More.below (by repeat (first | (with_reducible assumption) | (with_reducible exact More.refl _) | (with_reducible refine More.alloc ?_ _) | (with_reducible refine More.more ?_ _ _) | (with_reducible refine More.drewN ?_ _) | (with_reducible refine More.drew ?_)))⟩
    · have c2' : cRight len0 f = false := by simpa using c2
      have E5 := Lib.hid c2'
      clear c2 c2'
      refine (cright_any _ len0 _ f _ (by repeat (first | (with_reducible assumption) | (with_reducible exact Row.nil) | (with_reducible apply Row.drewN) | (with_reducible apply Row.drew) | (with_reducible apply Row.more) | (with_reducible apply Row.alloc))) (by omega)).mono ?_
      rintro e w' ⟨rfl, os7, d7, rfl⟩
      rw [E5.out]
      go_wp2_with fail
      go_ret
      exact ⟨rfl, More.below (by repeat (first | (with_reducible assumption) | (with_reducible exact More.refl _) | (with_reducible refine More.alloc ?_ _) | (with_reducible refine More.more ?_ _ _) | (with_reducible refine More.drewN ?_ _) | (with_reducible refine More.drew ?_)))⟩
end Go.Proofs.Ytdilmnpoicdkhaa
