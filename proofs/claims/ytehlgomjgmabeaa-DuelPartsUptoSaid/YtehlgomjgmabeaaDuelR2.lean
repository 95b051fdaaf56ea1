/- The duel's states that are not right, one by one. Conditions: none. -/
import Derived.Test.YtehlgomjgmabeaaSq
import Derived.Test.YtehlgomjgmabeaaDuelR1
set_option linter.unusedVariables false
set_option linter.unusedSimpArgs false
namespace Go.Proofs.Ytehlgomjgmabeaa
open Go.RowKit Go.Tide
set_option linter.unusedVariables false
set_option linter.unusedSimpArgs false
set_option maxRecDepth 20000 in
set_option maxHeartbeats 4000000 in
theorem right_b0 (k0 k1 rate buf jit : Int) (a0 a1 a2 a3 a4 a5 b0 b1 b2 b3 b4 b5 w0 w1 : Int) (w : World) (hk0 : Hid (dKind k0)) (hk1 : Hid (dKind k1)) (hn : dNums rate buf jit) (hc0 : Hid (CR k0 a0 a1 a2 a3 a4 a5 = false)) :
    Calls Try.prog 27 #[.agg #[.int .i64 k0, .int .i64 k1, .int .i64 rate, .int .i64 buf, .int .i64 jit], .agg #[.int .i64 a0, .int .i64 a1, .int .i64 a2, .int .i64 a3, .int .i64 a4, .int .i64 a5, .int .i64 b0, .int .i64 b1, .int .i64 b2, .int .i64 b3, .int .i64 b4, .int .i64 b5, .int .i64 w0, .int .i64 w1]] w fun e w' => e = .returned (.bool false) ∧ More w w' := by
  go_enter Try.func27, Try.ntmps27
  go_wp2_with fail
  refine (wrong_ok k0 k1 rate buf jit _ hk0 hk1 hn).mono ?_
  rintro e w1 ⟨rfl, os1, d1, rfl⟩
  go_wp2_with fail
  obtain ⟨wq, hG1_⟩ : ∃ W, W = (((w.alloc (.cells #[.int .i64 k0, .int .i64 k1, .int .i64 rate, .int .i64 buf, .int .i64 jit] 24)).alloc (.cells #[.int .i64 a0, .int .i64 a1, .int .i64 a2, .int .i64 a3, .int .i64 a4, .int .i64 a5, .int .i64 b0, .int .i64 b1, .int .i64 b2, .int .i64 b3, .int .i64 b4, .int .i64 b5, .int .i64 w0, .int .i64 w1] 32)).more os1 d1) := ⟨_, rfl⟩
  have hm : More w wq := (by rw [hG1_]; exact (by repeat (first | (with_reducible assumption) | (with_reducible exact More.refl _) | (with_reducible refine More.alloc ?_ _) | (with_reducible refine More.more ?_ _ _) | (with_reducible refine More.drewN ?_ _) | (with_reducible refine More.drew ?_))))
  have hB1 : Blk wq w.heap.size 24 #[.int .i64 k0, .int .i64 k1, .int .i64 rate, .int .i64 buf, .int .i64 jit] := (by rw [hG1_]; exact (by repeat (first | (with_reducible assumption) | ((with_reducible refine Blk.new' ?_); (simp [Nat.add_assoc]; done)) | (with_reducible refine Blk.alloc ?_ _) | (with_reducible refine Blk.more ?_ _ _) | (with_reducible refine Blk.drew ?_) | (with_reducible refine Blk.drewN ?_ _))))
  have hB2 : Blk wq (w.heap.size + 1) 32 #[.int .i64 a0, .int .i64 a1, .int .i64 a2, .int .i64 a3, .int .i64 a4, .int .i64 a5, .int .i64 b0, .int .i64 b1, .int .i64 b2, .int .i64 b3, .int .i64 b4, .int .i64 b5, .int .i64 w0, .int .i64 w1] := (by rw [hG1_]; exact (by repeat (first | (with_reducible assumption) | ((with_reducible refine Blk.new' ?_); (simp [Nat.add_assoc]; done)) | (with_reducible refine Blk.alloc ?_ _) | (with_reducible refine Blk.more ?_ _ _) | (with_reducible refine Blk.drew ?_) | (with_reducible refine Blk.drewN ?_ _))))
  have hl := hB2.lt
  have hlg := hB1.lt
  have r3 : wq.cell? ⟨w.heap.size, 3, none⟩ = some (.int .i64 buf) := hB1.cell 3
  have z0 : wq.cell? ⟨w.heap.size + 1, 12, none⟩ = some (.int .i64 w0) := hB2.cell 12
  have z1 : wq.cell? ⟨w.heap.size + 1, 13, none⟩ = some (.int .i64 w1) := hB2.cell 13
  rw [← hG1_]
  clear hG1_
  generalize w.heap.size = G at *
  go_loopw [14] (fun i wr => ∃ j : Nat, j ≤ 0 ∧ i = .int .i64 j ∧ More wq wr) (fun i _ => 0 - (intOf i).toNat)
  case atStart => exact ⟨0, by omega, rfl, More.refl _⟩
  case round =>
    obtain ⟨j, hj, hi, os, d, rfl⟩ := hrel
    obtain rfl : j = 0 := by omega
    · have hi : _ = Value.int .i64 0 := hi
      subst hi
      rcases hk0.out with rfl | rfl | rfl
      · have hr : vegasRight a0 a1 a2 a3 a4 a5 = false := by simpa [CR] using hc0.out
        go_wp2_with fail
        refine (of_1 _).mono ?_
        rintro e w1 ⟨rfl, os2, d2, rfl⟩
        go_wp2_with fail
        have hC := Blk.new ((wq.more os d).more os2 d2) 82 #[.func (.func 44) #[] #[], .func (.func 45) #[] #[], .func (.func 46) #[] #[]]
        obtain ⟨wx, hG2_⟩ : ∃ W, W = (((wq.more os d).more os2 d2).alloc (.cells #[.func (.func 44) #[] #[], .func (.func 45) #[] #[], .func (.func 46) #[] #[]] 82)) := ⟨_, rfl⟩
        have hS : Blk wx (G + 1) 32 #[.int .i64 a0, .int .i64 a1, .int .i64 a2, .int .i64 a3, .int .i64 a4, .int .i64 a5, .int .i64 b0, .int .i64 b1, .int .i64 b2, .int .i64 b3, .int .i64 b4, .int .i64 b5, .int .i64 w0, .int .i64 w1] := (by rw [hG2_]; exact ((hB2.more os d).more os2 d2).alloc _)
        have hmx : More wq wx := (by rw [hG2_]; exact (by repeat (first | (with_reducible assumption) | (with_reducible exact More.refl _) | (with_reducible refine More.alloc ?_ _) | (with_reducible refine More.more ?_ _ _) | (with_reducible refine More.drewN ?_ _) | (with_reducible refine More.drew ?_))))
        have c1 : wx.cell? ⟨((wq.more os d).more os2 d2).heap.size, 1, none⟩ = some (.func (.func 45) #[] #[]) := (by rw [hG2_]; exact hC.cell 1)
        have s0 : wx.cell? ⟨G + 1, 0, none⟩ = some (.int .i64 a0) := hS.cell 0
        have s1 : wx.cell? ⟨G + 1, 1, none⟩ = some (.int .i64 a1) := hS.cell 1
        have s2 : wx.cell? ⟨G + 1, 2, none⟩ = some (.int .i64 a2) := hS.cell 2
        have s3 : wx.cell? ⟨G + 1, 3, none⟩ = some (.int .i64 a3) := hS.cell 3
        have s4 : wx.cell? ⟨G + 1, 4, none⟩ = some (.int .i64 a4) := hS.cell 4
        have s5 : wx.cell? ⟨G + 1, 5, none⟩ = some (.int .i64 a5) := hS.cell 5
        have s6 : wx.cell? ⟨G + 1, 12, none⟩ = some (.int .i64 w0) := hS.cell 12
        have hE : wq.heap.size + (os.size + os2.size) = ((wq.more os d).more os2 d2).heap.size := by simp [Nat.add_assoc]
        rw [hE]
        clear hC hS
        rw [← hG2_]
        clear hG2_
        generalize ((wq.more os d).more os2 d2).heap.size = E at *
        refine wp_region_held_drew (S := (fun w' => w'.cell? ⟨E, 1, none⟩ = some (.func (.func 45) #[] #[]) ∧ w'.cell? ⟨G + 1, 0, none⟩ = some (.int .i64 a0) ∧ w'.cell? ⟨G + 1, 1, none⟩ = some (.int .i64 a1) ∧ w'.cell? ⟨G + 1, 2, none⟩ = some (.int .i64 a2) ∧ w'.cell? ⟨G + 1, 3, none⟩ = some (.int .i64 a3) ∧ w'.cell? ⟨G + 1, 4, none⟩ = some (.int .i64 a4) ∧ w'.cell? ⟨G + 1, 5, none⟩ = some (.int .i64 a5) ∧ w'.cell? ⟨G + 1, 12, none⟩ = some (.int .i64 w0))) (by kernel_rfl) ?_ (fun hHeld => ?_)
        · exact ⟨c1, s0, s1, s2, s3, s4, s5, s6⟩
        refine tk8 0 rfl ?_; try simp only [lay]
        refine tk8 1 rfl ?_; try simp only [lay]
        refine tk8 2 rfl ?_; try simp only [lay]
        refine tk8 3 rfl ?_; try simp only [lay]
        refine tk8 4 rfl ?_; try simp only [lay]
        refine tk8 5 rfl ?_; try simp only [lay]
        refine wpAnyH_ready (rs := [6]) (by kernel_rfl) (by simp) ?_
        refine AllReadyH.cons rfl (fun K hK => ?_) AllReadyH.nil
        go_simp
        refine (vegas_right _ _ _ _ _ _ _).mono ?_
        rintro e w' ⟨rfl, o, rfl⟩
        rw [hr]
        refine hK.out _ _ ?_ (fun hHeld => ?_)
        · exact by obtain ⟨h0, h1, h2, h3, h4, h5, h6, h7⟩ := hHeld; exact ⟨(World.cell?_alloc_some _ _ _ (Option.isSome_iff_exists.2 ⟨_, h0⟩)).trans h0, (World.cell?_alloc_some _ _ _ (Option.isSome_iff_exists.2 ⟨_, h1⟩)).trans h1, (World.cell?_alloc_some _ _ _ (Option.isSome_iff_exists.2 ⟨_, h2⟩)).trans h2, (World.cell?_alloc_some _ _ _ (Option.isSome_iff_exists.2 ⟨_, h3⟩)).trans h3, (World.cell?_alloc_some _ _ _ (Option.isSome_iff_exists.2 ⟨_, h4⟩)).trans h4, (World.cell?_alloc_some _ _ _ (Option.isSome_iff_exists.2 ⟨_, h5⟩)).trans h5, (World.cell?_alloc_some _ _ _ (Option.isSome_iff_exists.2 ⟨_, h6⟩)).trans h6, (World.cell?_alloc_some _ _ _ (Option.isSome_iff_exists.2 ⟨_, h7⟩)).trans h7⟩
        clear hK K
        try simp only [lay]
        refine tk8 7 rfl ?_; try simp only [lay]
        refine tk8 8 rfl ?_; try simp only [lay]
        refine sk 9 rfl (by rfl) ?_; try simp only [lay]
        refine sk 10 rfl (by rfl) ?_; try simp only [lay]
        refine sk 11 rfl (by rfl) ?_; try simp only [lay]
        refine sk 12 rfl (by rfl) ?_; try simp only [lay]
        refine sk 13 rfl (by rfl) ?_; try simp only [lay]
        refine tk8 14 rfl ?_; try simp only [lay]
        refine wpAnyH_done (by kernel_rfl) ?_ _
        go_wp2
        go_ret
        exact ⟨rfl, hm.trans (by repeat (first | (with_reducible assumption) | (with_reducible exact More.refl _) | (with_reducible refine More.alloc ?_ _) | (with_reducible refine More.more ?_ _ _) | (with_reducible refine More.drewN ?_ _) | (with_reducible refine More.drew ?_)))⟩
      · have hr : copaRight a0 a1 a2 a3 a4 a5 = false := by simpa [CR] using hc0.out
        go_wp2_with fail
        refine (of_2 _).mono ?_
        rintro e w1 ⟨rfl, os2, d2, rfl⟩
        go_wp2_with fail
        have hC := Blk.new ((wq.more os d).more os2 d2) 82 #[.func (.func 47) #[] #[], .func (.func 48) #[] #[], .func (.func 49) #[] #[]]
        obtain ⟨wx, hG3_⟩ : ∃ W, W = (((wq.more os d).more os2 d2).alloc (.cells #[.func (.func 47) #[] #[], .func (.func 48) #[] #[], .func (.func 49) #[] #[]] 82)) := ⟨_, rfl⟩
        have hS : Blk wx (G + 1) 32 #[.int .i64 a0, .int .i64 a1, .int .i64 a2, .int .i64 a3, .int .i64 a4, .int .i64 a5, .int .i64 b0, .int .i64 b1, .int .i64 b2, .int .i64 b3, .int .i64 b4, .int .i64 b5, .int .i64 w0, .int .i64 w1] := (by rw [hG3_]; exact ((hB2.more os d).more os2 d2).alloc _)
        have hmx : More wq wx := (by rw [hG3_]; exact (by repeat (first | (with_reducible assumption) | (with_reducible exact More.refl _) | (with_reducible refine More.alloc ?_ _) | (with_reducible refine More.more ?_ _ _) | (with_reducible refine More.drewN ?_ _) | (with_reducible refine More.drew ?_))))
        have c1 : wx.cell? ⟨((wq.more os d).more os2 d2).heap.size, 1, none⟩ = some (.func (.func 48) #[] #[]) := (by rw [hG3_]; exact hC.cell 1)
        have s0 : wx.cell? ⟨G + 1, 0, none⟩ = some (.int .i64 a0) := hS.cell 0
        have s1 : wx.cell? ⟨G + 1, 1, none⟩ = some (.int .i64 a1) := hS.cell 1
        have s2 : wx.cell? ⟨G + 1, 2, none⟩ = some (.int .i64 a2) := hS.cell 2
        have s3 : wx.cell? ⟨G + 1, 3, none⟩ = some (.int .i64 a3) := hS.cell 3
        have s4 : wx.cell? ⟨G + 1, 4, none⟩ = some (.int .i64 a4) := hS.cell 4
        have s5 : wx.cell? ⟨G + 1, 5, none⟩ = some (.int .i64 a5) := hS.cell 5
        have s6 : wx.cell? ⟨G + 1, 12, none⟩ = some (.int .i64 w0) := hS.cell 12
        have hE : wq.heap.size + (os.size + os2.size) = ((wq.more os d).more os2 d2).heap.size := by simp [Nat.add_assoc]
        rw [hE]
        clear hC hS
        rw [← hG3_]
        clear hG3_
        generalize ((wq.more os d).more os2 d2).heap.size = E at *
        refine wp_region_held_drew (S := (fun w' => w'.cell? ⟨E, 1, none⟩ = some (.func (.func 48) #[] #[]) ∧ w'.cell? ⟨G + 1, 0, none⟩ = some (.int .i64 a0) ∧ w'.cell? ⟨G + 1, 1, none⟩ = some (.int .i64 a1) ∧ w'.cell? ⟨G + 1, 2, none⟩ = some (.int .i64 a2) ∧ w'.cell? ⟨G + 1, 3, none⟩ = some (.int .i64 a3) ∧ w'.cell? ⟨G + 1, 4, none⟩ = some (.int .i64 a4) ∧ w'.cell? ⟨G + 1, 5, none⟩ = some (.int .i64 a5) ∧ w'.cell? ⟨G + 1, 12, none⟩ = some (.int .i64 w0))) (by kernel_rfl) ?_ (fun hHeld => ?_)
        · exact ⟨c1, s0, s1, s2, s3, s4, s5, s6⟩
        refine tk8 0 rfl ?_; try simp only [lay]
        refine tk8 1 rfl ?_; try simp only [lay]
        refine tk8 2 rfl ?_; try simp only [lay]
        refine tk8 3 rfl ?_; try simp only [lay]
        refine tk8 4 rfl ?_; try simp only [lay]
        refine tk8 5 rfl ?_; try simp only [lay]
        refine wpAnyH_ready (rs := [6]) (by kernel_rfl) (by simp) ?_
        refine AllReadyH.cons rfl (fun K hK => ?_) AllReadyH.nil
        go_simp
        refine (copa_right _ _ _ _ _ _ _).mono ?_
        rintro e w' ⟨rfl, o, rfl⟩
        rw [hr]
        refine hK.out _ _ ?_ (fun hHeld => ?_)
        · exact by obtain ⟨h0, h1, h2, h3, h4, h5, h6, h7⟩ := hHeld; exact ⟨(World.cell?_alloc_some _ _ _ (Option.isSome_iff_exists.2 ⟨_, h0⟩)).trans h0, (World.cell?_alloc_some _ _ _ (Option.isSome_iff_exists.2 ⟨_, h1⟩)).trans h1, (World.cell?_alloc_some _ _ _ (Option.isSome_iff_exists.2 ⟨_, h2⟩)).trans h2, (World.cell?_alloc_some _ _ _ (Option.isSome_iff_exists.2 ⟨_, h3⟩)).trans h3, (World.cell?_alloc_some _ _ _ (Option.isSome_iff_exists.2 ⟨_, h4⟩)).trans h4, (World.cell?_alloc_some _ _ _ (Option.isSome_iff_exists.2 ⟨_, h5⟩)).trans h5, (World.cell?_alloc_some _ _ _ (Option.isSome_iff_exists.2 ⟨_, h6⟩)).trans h6, (World.cell?_alloc_some _ _ _ (Option.isSome_iff_exists.2 ⟨_, h7⟩)).trans h7⟩
        clear hK K
        try simp only [lay]
        refine tk8 7 rfl ?_; try simp only [lay]
        refine tk8 8 rfl ?_; try simp only [lay]
        refine sk 9 rfl (by rfl) ?_; try simp only [lay]
        refine sk 10 rfl (by rfl) ?_; try simp only [lay]
        refine sk 11 rfl (by rfl) ?_; try simp only [lay]
        refine sk 12 rfl (by rfl) ?_; try simp only [lay]
        refine sk 13 rfl (by rfl) ?_; try simp only [lay]
        refine tk8 14 rfl ?_; try simp only [lay]
        refine wpAnyH_done (by kernel_rfl) ?_ _
        go_wp2
        go_ret
        exact ⟨rfl, hm.trans (by repeat (first | (with_reducible assumption) | (with_reducible exact More.refl _) | (with_reducible refine More.alloc ?_ _) | (with_reducible refine More.more ?_ _ _) | (with_reducible refine More.drewN ?_ _) | (with_reducible refine More.drew ?_)))⟩
      · have hr : ledbatRight a0 a1 a2 a3 a4 a5 = false := by simpa [CR] using hc0.out
        go_wp2_with fail
        refine (of_3 _).mono ?_
        rintro e w1 ⟨rfl, os2, d2, rfl⟩
        go_wp2_with fail
        have hC := Blk.new ((wq.more os d).more os2 d2) 82 #[.func (.func 50) #[] #[], .func (.func 51) #[] #[], .func (.func 52) #[] #[]]
        obtain ⟨wx, hG4_⟩ : ∃ W, W = (((wq.more os d).more os2 d2).alloc (.cells #[.func (.func 50) #[] #[], .func (.func 51) #[] #[], .func (.func 52) #[] #[]] 82)) := ⟨_, rfl⟩
        have hS : Blk wx (G + 1) 32 #[.int .i64 a0, .int .i64 a1, .int .i64 a2, .int .i64 a3, .int .i64 a4, .int .i64 a5, .int .i64 b0, .int .i64 b1, .int .i64 b2, .int .i64 b3, .int .i64 b4, .int .i64 b5, .int .i64 w0, .int .i64 w1] := (by rw [hG4_]; exact ((hB2.more os d).more os2 d2).alloc _)
        have hmx : More wq wx := (by rw [hG4_]; exact (by repeat (first | (with_reducible assumption) | (with_reducible exact More.refl _) | (with_reducible refine More.alloc ?_ _) | (with_reducible refine More.more ?_ _ _) | (with_reducible refine More.drewN ?_ _) | (with_reducible refine More.drew ?_))))
        have c1 : wx.cell? ⟨((wq.more os d).more os2 d2).heap.size, 1, none⟩ = some (.func (.func 51) #[] #[]) := (by rw [hG4_]; exact hC.cell 1)
        have s0 : wx.cell? ⟨G + 1, 0, none⟩ = some (.int .i64 a0) := hS.cell 0
        have s1 : wx.cell? ⟨G + 1, 1, none⟩ = some (.int .i64 a1) := hS.cell 1
        have s2 : wx.cell? ⟨G + 1, 2, none⟩ = some (.int .i64 a2) := hS.cell 2
        have s3 : wx.cell? ⟨G + 1, 3, none⟩ = some (.int .i64 a3) := hS.cell 3
        have s4 : wx.cell? ⟨G + 1, 4, none⟩ = some (.int .i64 a4) := hS.cell 4
        have s5 : wx.cell? ⟨G + 1, 5, none⟩ = some (.int .i64 a5) := hS.cell 5
        have s6 : wx.cell? ⟨G + 1, 12, none⟩ = some (.int .i64 w0) := hS.cell 12
        have hE : wq.heap.size + (os.size + os2.size) = ((wq.more os d).more os2 d2).heap.size := by simp [Nat.add_assoc]
        rw [hE]
        clear hC hS
        rw [← hG4_]
        clear hG4_
        generalize ((wq.more os d).more os2 d2).heap.size = E at *
        refine wp_region_held_drew (S := (fun w' => w'.cell? ⟨E, 1, none⟩ = some (.func (.func 51) #[] #[]) ∧ w'.cell? ⟨G + 1, 0, none⟩ = some (.int .i64 a0) ∧ w'.cell? ⟨G + 1, 1, none⟩ = some (.int .i64 a1) ∧ w'.cell? ⟨G + 1, 2, none⟩ = some (.int .i64 a2) ∧ w'.cell? ⟨G + 1, 3, none⟩ = some (.int .i64 a3) ∧ w'.cell? ⟨G + 1, 4, none⟩ = some (.int .i64 a4) ∧ w'.cell? ⟨G + 1, 5, none⟩ = some (.int .i64 a5) ∧ w'.cell? ⟨G + 1, 12, none⟩ = some (.int .i64 w0))) (by kernel_rfl) ?_ (fun hHeld => ?_)
        · exact ⟨c1, s0, s1, s2, s3, s4, s5, s6⟩
        refine tk8 0 rfl ?_; try simp only [lay]
        refine tk8 1 rfl ?_; try simp only [lay]
        refine tk8 2 rfl ?_; try simp only [lay]
        refine tk8 3 rfl ?_; try simp only [lay]
        refine tk8 4 rfl ?_; try simp only [lay]
        refine tk8 5 rfl ?_; try simp only [lay]
        refine wpAnyH_ready (rs := [6]) (by kernel_rfl) (by simp) ?_
        refine AllReadyH.cons rfl (fun K hK => ?_) AllReadyH.nil
        go_simp
        refine (ledbat_right _ _ _ _ _ _ _).mono ?_
        rintro e w' ⟨rfl, o, rfl⟩
        rw [hr]
        refine hK.out _ _ ?_ (fun hHeld => ?_)
        · exact by obtain ⟨h0, h1, h2, h3, h4, h5, h6, h7⟩ := hHeld; exact ⟨(World.cell?_alloc_some _ _ _ (Option.isSome_iff_exists.2 ⟨_, h0⟩)).trans h0, (World.cell?_alloc_some _ _ _ (Option.isSome_iff_exists.2 ⟨_, h1⟩)).trans h1, (World.cell?_alloc_some _ _ _ (Option.isSome_iff_exists.2 ⟨_, h2⟩)).trans h2, (World.cell?_alloc_some _ _ _ (Option.isSome_iff_exists.2 ⟨_, h3⟩)).trans h3, (World.cell?_alloc_some _ _ _ (Option.isSome_iff_exists.2 ⟨_, h4⟩)).trans h4, (World.cell?_alloc_some _ _ _ (Option.isSome_iff_exists.2 ⟨_, h5⟩)).trans h5, (World.cell?_alloc_some _ _ _ (Option.isSome_iff_exists.2 ⟨_, h6⟩)).trans h6, (World.cell?_alloc_some _ _ _ (Option.isSome_iff_exists.2 ⟨_, h7⟩)).trans h7⟩
        clear hK K
        try simp only [lay]
        refine tk8 7 rfl ?_; try simp only [lay]
        refine tk8 8 rfl ?_; try simp only [lay]
        refine sk 9 rfl (by rfl) ?_; try simp only [lay]
        refine sk 10 rfl (by rfl) ?_; try simp only [lay]
        refine sk 11 rfl (by rfl) ?_; try simp only [lay]
        refine sk 12 rfl (by rfl) ?_; try simp only [lay]
        refine sk 13 rfl (by rfl) ?_; try simp only [lay]
        refine tk8 14 rfl ?_; try simp only [lay]
        refine wpAnyH_done (by kernel_rfl) ?_ _
        go_wp2
        go_ret
        exact ⟨rfl, hm.trans (by repeat (first | (with_reducible assumption) | (with_reducible exact More.refl _) | (with_reducible refine More.alloc ?_ _) | (with_reducible refine More.more ?_ _ _) | (with_reducible refine More.drewN ?_ _) | (with_reducible refine More.drew ?_)))⟩
set_option maxRecDepth 20000 in
set_option maxHeartbeats 4000000 in
theorem right_b1 (k0 k1 rate buf jit : Int) (a0 a1 a2 a3 a4 a5 b0 b1 b2 b3 b4 b5 w0 w1 : Int) (w : World) (hk0 : Hid (dKind k0)) (hk1 : Hid (dKind k1)) (hn : dNums rate buf jit) (hc0 : Hid (CR k0 a0 a1 a2 a3 a4 a5 = true)) (hw0 : w0 < 0) :
    Calls Try.prog 27 #[.agg #[.int .i64 k0, .int .i64 k1, .int .i64 rate, .int .i64 buf, .int .i64 jit], .agg #[.int .i64 a0, .int .i64 a1, .int .i64 a2, .int .i64 a3, .int .i64 a4, .int .i64 a5, .int .i64 b0, .int .i64 b1, .int .i64 b2, .int .i64 b3, .int .i64 b4, .int .i64 b5, .int .i64 w0, .int .i64 w1]] w fun e w' => e = .returned (.bool false) ∧ More w w' := by
  go_enter Try.func27, Try.ntmps27
  go_wp2_with fail
  refine (wrong_ok k0 k1 rate buf jit _ hk0 hk1 hn).mono ?_
  rintro e w1 ⟨rfl, os1, d1, rfl⟩
  go_wp2_with fail
  obtain ⟨wq, hG5_⟩ : ∃ W, W = (((w.alloc (.cells #[.int .i64 k0, .int .i64 k1, .int .i64 rate, .int .i64 buf, .int .i64 jit] 24)).alloc (.cells #[.int .i64 a0, .int .i64 a1, .int .i64 a2, .int .i64 a3, .int .i64 a4, .int .i64 a5, .int .i64 b0, .int .i64 b1, .int .i64 b2, .int .i64 b3, .int .i64 b4, .int .i64 b5, .int .i64 w0, .int .i64 w1] 32)).more os1 d1) := ⟨_, rfl⟩
  have hm : More w wq := (by rw [hG5_]; exact (by repeat (first | (with_reducible assumption) | (with_reducible exact More.refl _) | (with_reducible refine More.alloc ?_ _) | (with_reducible refine More.more ?_ _ _) | (with_reducible refine More.drewN ?_ _) | (with_reducible refine More.drew ?_))))
  have hB1 : Blk wq w.heap.size 24 #[.int .i64 k0, .int .i64 k1, .int .i64 rate, .int .i64 buf, .int .i64 jit] := (by rw [hG5_]; exact (by repeat (first | (with_reducible assumption) | ((with_reducible refine Blk.new' ?_); (simp [Nat.add_assoc]; done)) | (with_reducible refine Blk.alloc ?_ _) | (with_reducible refine Blk.more ?_ _ _) | (with_reducible refine Blk.drew ?_) | (with_reducible refine Blk.drewN ?_ _))))
  have hB2 : Blk wq (w.heap.size + 1) 32 #[.int .i64 a0, .int .i64 a1, .int .i64 a2, .int .i64 a3, .int .i64 a4, .int .i64 a5, .int .i64 b0, .int .i64 b1, .int .i64 b2, .int .i64 b3, .int .i64 b4, .int .i64 b5, .int .i64 w0, .int .i64 w1] := (by rw [hG5_]; exact (by repeat (first | (with_reducible assumption) | ((with_reducible refine Blk.new' ?_); (simp [Nat.add_assoc]; done)) | (with_reducible refine Blk.alloc ?_ _) | (with_reducible refine Blk.more ?_ _ _) | (with_reducible refine Blk.drew ?_) | (with_reducible refine Blk.drewN ?_ _))))
  have hl := hB2.lt
  have hlg := hB1.lt
  have r3 : wq.cell? ⟨w.heap.size, 3, none⟩ = some (.int .i64 buf) := hB1.cell 3
  have z0 : wq.cell? ⟨w.heap.size + 1, 12, none⟩ = some (.int .i64 w0) := hB2.cell 12
  have z1 : wq.cell? ⟨w.heap.size + 1, 13, none⟩ = some (.int .i64 w1) := hB2.cell 13
  rw [← hG5_]
  clear hG5_
  generalize w.heap.size = G at *
  go_loopw [14] (fun i wr => ∃ j : Nat, j ≤ 0 ∧ i = .int .i64 j ∧ More wq wr) (fun i _ => 0 - (intOf i).toNat)
  case atStart => exact ⟨0, by omega, rfl, More.refl _⟩
  case round =>
    obtain ⟨j, hj, hi, os, d, rfl⟩ := hrel
    obtain rfl : j = 0 := by omega
    · have hi : _ = Value.int .i64 0 := hi
      subst hi
      rcases hk0.out with rfl | rfl | rfl
      · have hr : vegasRight a0 a1 a2 a3 a4 a5 = true := by simpa [CR] using hc0.out
        have gw : decide (w0 < 0) = true := by simp; omega
        go_wp2_with fail
        refine (of_1 _).mono ?_
        rintro e w1 ⟨rfl, os2, d2, rfl⟩
        go_wp2_with fail
        have hC := Blk.new ((wq.more os d).more os2 d2) 82 #[.func (.func 44) #[] #[], .func (.func 45) #[] #[], .func (.func 46) #[] #[]]
        obtain ⟨wx, hG6_⟩ : ∃ W, W = (((wq.more os d).more os2 d2).alloc (.cells #[.func (.func 44) #[] #[], .func (.func 45) #[] #[], .func (.func 46) #[] #[]] 82)) := ⟨_, rfl⟩
        have hS : Blk wx (G + 1) 32 #[.int .i64 a0, .int .i64 a1, .int .i64 a2, .int .i64 a3, .int .i64 a4, .int .i64 a5, .int .i64 b0, .int .i64 b1, .int .i64 b2, .int .i64 b3, .int .i64 b4, .int .i64 b5, .int .i64 w0, .int .i64 w1] := (by rw [hG6_]; exact ((hB2.more os d).more os2 d2).alloc _)
        have hmx : More wq wx := (by rw [hG6_]; exact (by repeat (first | (with_reducible assumption) | (with_reducible exact More.refl _) | (with_reducible refine More.alloc ?_ _) | (with_reducible refine More.more ?_ _ _) | (with_reducible refine More.drewN ?_ _) | (with_reducible refine More.drew ?_))))
        have c1 : wx.cell? ⟨((wq.more os d).more os2 d2).heap.size, 1, none⟩ = some (.func (.func 45) #[] #[]) := (by rw [hG6_]; exact hC.cell 1)
        have s0 : wx.cell? ⟨G + 1, 0, none⟩ = some (.int .i64 a0) := hS.cell 0
        have s1 : wx.cell? ⟨G + 1, 1, none⟩ = some (.int .i64 a1) := hS.cell 1
        have s2 : wx.cell? ⟨G + 1, 2, none⟩ = some (.int .i64 a2) := hS.cell 2
        have s3 : wx.cell? ⟨G + 1, 3, none⟩ = some (.int .i64 a3) := hS.cell 3
        have s4 : wx.cell? ⟨G + 1, 4, none⟩ = some (.int .i64 a4) := hS.cell 4
        have s5 : wx.cell? ⟨G + 1, 5, none⟩ = some (.int .i64 a5) := hS.cell 5
        have s6 : wx.cell? ⟨G + 1, 12, none⟩ = some (.int .i64 w0) := hS.cell 12
        have hE : wq.heap.size + (os.size + os2.size) = ((wq.more os d).more os2 d2).heap.size := by simp [Nat.add_assoc]
        rw [hE]
        clear hC hS
        rw [← hG6_]
        clear hG6_
        generalize ((wq.more os d).more os2 d2).heap.size = E at *
        refine wp_region_held_drew (S := (fun w' => w'.cell? ⟨E, 1, none⟩ = some (.func (.func 45) #[] #[]) ∧ w'.cell? ⟨G + 1, 0, none⟩ = some (.int .i64 a0) ∧ w'.cell? ⟨G + 1, 1, none⟩ = some (.int .i64 a1) ∧ w'.cell? ⟨G + 1, 2, none⟩ = some (.int .i64 a2) ∧ w'.cell? ⟨G + 1, 3, none⟩ = some (.int .i64 a3) ∧ w'.cell? ⟨G + 1, 4, none⟩ = some (.int .i64 a4) ∧ w'.cell? ⟨G + 1, 5, none⟩ = some (.int .i64 a5) ∧ w'.cell? ⟨G + 1, 12, none⟩ = some (.int .i64 w0))) (by kernel_rfl) ?_ (fun hHeld => ?_)
        · exact ⟨c1, s0, s1, s2, s3, s4, s5, s6⟩
        refine tk8 0 rfl ?_; try simp only [lay]
        refine tk8 1 rfl ?_; try simp only [lay]
        refine tk8 2 rfl ?_; try simp only [lay]
        refine tk8 3 rfl ?_; try simp only [lay]
        refine tk8 4 rfl ?_; try simp only [lay]
        refine tk8 5 rfl ?_; try simp only [lay]
        refine wpAnyH_ready (rs := [6]) (by kernel_rfl) (by simp) ?_
        refine AllReadyH.cons rfl (fun K hK => ?_) AllReadyH.nil
        go_simp
        refine (vegas_right _ _ _ _ _ _ _).mono ?_
        rintro e w' ⟨rfl, o, rfl⟩
        rw [hr]
        refine hK.out _ _ ?_ (fun hHeld => ?_)
        · exact by obtain ⟨h0, h1, h2, h3, h4, h5, h6, h7⟩ := hHeld; exact ⟨(World.cell?_alloc_some _ _ _ (Option.isSome_iff_exists.2 ⟨_, h0⟩)).trans h0, (World.cell?_alloc_some _ _ _ (Option.isSome_iff_exists.2 ⟨_, h1⟩)).trans h1, (World.cell?_alloc_some _ _ _ (Option.isSome_iff_exists.2 ⟨_, h2⟩)).trans h2, (World.cell?_alloc_some _ _ _ (Option.isSome_iff_exists.2 ⟨_, h3⟩)).trans h3, (World.cell?_alloc_some _ _ _ (Option.isSome_iff_exists.2 ⟨_, h4⟩)).trans h4, (World.cell?_alloc_some _ _ _ (Option.isSome_iff_exists.2 ⟨_, h5⟩)).trans h5, (World.cell?_alloc_some _ _ _ (Option.isSome_iff_exists.2 ⟨_, h6⟩)).trans h6, (World.cell?_alloc_some _ _ _ (Option.isSome_iff_exists.2 ⟨_, h7⟩)).trans h7⟩
        clear hK K
        try simp only [lay]
        refine tk8 7 rfl ?_; try simp only [lay]
        refine tk8 8 rfl ?_; try simp only [lay]
        refine tk8 9 rfl ?_; try simp only [lay]
        refine tk8 10 rfl ?_; try simp only [lay]
        refine tk8 11 rfl ?_; try simp only [lay]
        refine tk8 12 rfl ?_; try simp only [lay]
        refine tk8 13 rfl ?_; try simp only [lay]
        refine tk8 14 rfl ?_; try simp only [lay]
        refine wpAnyH_done (by kernel_rfl) ?_ _
        go_wp2
        go_ret
        exact ⟨rfl, hm.trans (by repeat (first | (with_reducible assumption) | (with_reducible exact More.refl _) | (with_reducible refine More.alloc ?_ _) | (with_reducible refine More.more ?_ _ _) | (with_reducible refine More.drewN ?_ _) | (with_reducible refine More.drew ?_)))⟩
      · have hr : copaRight a0 a1 a2 a3 a4 a5 = true := by simpa [CR] using hc0.out
        have gw : decide (w0 < 0) = true := by simp; omega
        go_wp2_with fail
        refine (of_2 _).mono ?_
        rintro e w1 ⟨rfl, os2, d2, rfl⟩
        go_wp2_with fail
        have hC := Blk.new ((wq.more os d).more os2 d2) 82 #[.func (.func 47) #[] #[], .func (.func 48) #[] #[], .func (.func 49) #[] #[]]
        obtain ⟨wx, hG7_⟩ : ∃ W, W = (((wq.more os d).more os2 d2).alloc (.cells #[.func (.func 47) #[] #[], .func (.func 48) #[] #[], .func (.func 49) #[] #[]] 82)) := ⟨_, rfl⟩
        have hS : Blk wx (G + 1) 32 #[.int .i64 a0, .int .i64 a1, .int .i64 a2, .int .i64 a3, .int .i64 a4, .int .i64 a5, .int .i64 b0, .int .i64 b1, .int .i64 b2, .int .i64 b3, .int .i64 b4, .int .i64 b5, .int .i64 w0, .int .i64 w1] := (by rw [hG7_]; exact ((hB2.more os d).more os2 d2).alloc _)
        have hmx : More wq wx := (by rw [hG7_]; exact (by repeat (first | (with_reducible assumption) | (with_reducible exact More.refl _) | (with_reducible refine More.alloc ?_ _) | (with_reducible refine More.more ?_ _ _) | (with_reducible refine More.drewN ?_ _) | (with_reducible refine More.drew ?_))))
        have c1 : wx.cell? ⟨((wq.more os d).more os2 d2).heap.size, 1, none⟩ = some (.func (.func 48) #[] #[]) := (by rw [hG7_]; exact hC.cell 1)
        have s0 : wx.cell? ⟨G + 1, 0, none⟩ = some (.int .i64 a0) := hS.cell 0
        have s1 : wx.cell? ⟨G + 1, 1, none⟩ = some (.int .i64 a1) := hS.cell 1
        have s2 : wx.cell? ⟨G + 1, 2, none⟩ = some (.int .i64 a2) := hS.cell 2
        have s3 : wx.cell? ⟨G + 1, 3, none⟩ = some (.int .i64 a3) := hS.cell 3
        have s4 : wx.cell? ⟨G + 1, 4, none⟩ = some (.int .i64 a4) := hS.cell 4
        have s5 : wx.cell? ⟨G + 1, 5, none⟩ = some (.int .i64 a5) := hS.cell 5
        have s6 : wx.cell? ⟨G + 1, 12, none⟩ = some (.int .i64 w0) := hS.cell 12
        have hE : wq.heap.size + (os.size + os2.size) = ((wq.more os d).more os2 d2).heap.size := by simp [Nat.add_assoc]
        rw [hE]
        clear hC hS
        rw [← hG7_]
        clear hG7_
        generalize ((wq.more os d).more os2 d2).heap.size = E at *
        refine wp_region_held_drew (S := (fun w' => w'.cell? ⟨E, 1, none⟩ = some (.func (.func 48) #[] #[]) ∧ w'.cell? ⟨G + 1, 0, none⟩ = some (.int .i64 a0) ∧ w'.cell? ⟨G + 1, 1, none⟩ = some (.int .i64 a1) ∧ w'.cell? ⟨G + 1, 2, none⟩ = some (.int .i64 a2) ∧ w'.cell? ⟨G + 1, 3, none⟩ = some (.int .i64 a3) ∧ w'.cell? ⟨G + 1, 4, none⟩ = some (.int .i64 a4) ∧ w'.cell? ⟨G + 1, 5, none⟩ = some (.int .i64 a5) ∧ w'.cell? ⟨G + 1, 12, none⟩ = some (.int .i64 w0))) (by kernel_rfl) ?_ (fun hHeld => ?_)
        · exact ⟨c1, s0, s1, s2, s3, s4, s5, s6⟩
        refine tk8 0 rfl ?_; try simp only [lay]
        refine tk8 1 rfl ?_; try simp only [lay]
        refine tk8 2 rfl ?_; try simp only [lay]
        refine tk8 3 rfl ?_; try simp only [lay]
        refine tk8 4 rfl ?_; try simp only [lay]
        refine tk8 5 rfl ?_; try simp only [lay]
        refine wpAnyH_ready (rs := [6]) (by kernel_rfl) (by simp) ?_
        refine AllReadyH.cons rfl (fun K hK => ?_) AllReadyH.nil
        go_simp
        refine (copa_right _ _ _ _ _ _ _).mono ?_
        rintro e w' ⟨rfl, o, rfl⟩
        rw [hr]
        refine hK.out _ _ ?_ (fun hHeld => ?_)
        · exact by obtain ⟨h0, h1, h2, h3, h4, h5, h6, h7⟩ := hHeld; exact ⟨(World.cell?_alloc_some _ _ _ (Option.isSome_iff_exists.2 ⟨_, h0⟩)).trans h0, (World.cell?_alloc_some _ _ _ (Option.isSome_iff_exists.2 ⟨_, h1⟩)).trans h1, (World.cell?_alloc_some _ _ _ (Option.isSome_iff_exists.2 ⟨_, h2⟩)).trans h2, (World.cell?_alloc_some _ _ _ (Option.isSome_iff_exists.2 ⟨_, h3⟩)).trans h3, (World.cell?_alloc_some _ _ _ (Option.isSome_iff_exists.2 ⟨_, h4⟩)).trans h4, (World.cell?_alloc_some _ _ _ (Option.isSome_iff_exists.2 ⟨_, h5⟩)).trans h5, (World.cell?_alloc_some _ _ _ (Option.isSome_iff_exists.2 ⟨_, h6⟩)).trans h6, (World.cell?_alloc_some _ _ _ (Option.isSome_iff_exists.2 ⟨_, h7⟩)).trans h7⟩
        clear hK K
        try simp only [lay]
        refine tk8 7 rfl ?_; try simp only [lay]
        refine tk8 8 rfl ?_; try simp only [lay]
        refine tk8 9 rfl ?_; try simp only [lay]
        refine tk8 10 rfl ?_; try simp only [lay]
        refine tk8 11 rfl ?_; try simp only [lay]
        refine tk8 12 rfl ?_; try simp only [lay]
        refine tk8 13 rfl ?_; try simp only [lay]
        refine tk8 14 rfl ?_; try simp only [lay]
        refine wpAnyH_done (by kernel_rfl) ?_ _
        go_wp2
        go_ret
        exact ⟨rfl, hm.trans (by repeat (first | (with_reducible assumption) | (with_reducible exact More.refl _) | (with_reducible refine More.alloc ?_ _) | (with_reducible refine More.more ?_ _ _) | (with_reducible refine More.drewN ?_ _) | (with_reducible refine More.drew ?_)))⟩
      · have hr : ledbatRight a0 a1 a2 a3 a4 a5 = true := by simpa [CR] using hc0.out
        have gw : decide (w0 < 0) = true := by simp; omega
        go_wp2_with fail
        refine (of_3 _).mono ?_
        rintro e w1 ⟨rfl, os2, d2, rfl⟩
        go_wp2_with fail
        have hC := Blk.new ((wq.more os d).more os2 d2) 82 #[.func (.func 50) #[] #[], .func (.func 51) #[] #[], .func (.func 52) #[] #[]]
        obtain ⟨wx, hG8_⟩ : ∃ W, W = (((wq.more os d).more os2 d2).alloc (.cells #[.func (.func 50) #[] #[], .func (.func 51) #[] #[], .func (.func 52) #[] #[]] 82)) := ⟨_, rfl⟩
        have hS : Blk wx (G + 1) 32 #[.int .i64 a0, .int .i64 a1, .int .i64 a2, .int .i64 a3, .int .i64 a4, .int .i64 a5, .int .i64 b0, .int .i64 b1, .int .i64 b2, .int .i64 b3, .int .i64 b4, .int .i64 b5, .int .i64 w0, .int .i64 w1] := (by rw [hG8_]; exact ((hB2.more os d).more os2 d2).alloc _)
        have hmx : More wq wx := (by rw [hG8_]; exact (by repeat (first | (with_reducible assumption) | (with_reducible exact More.refl _) | (with_reducible refine More.alloc ?_ _) | (with_reducible refine More.more ?_ _ _) | (with_reducible refine More.drewN ?_ _) | (with_reducible refine More.drew ?_))))
        have c1 : wx.cell? ⟨((wq.more os d).more os2 d2).heap.size, 1, none⟩ = some (.func (.func 51) #[] #[]) := (by rw [hG8_]; exact hC.cell 1)
        have s0 : wx.cell? ⟨G + 1, 0, none⟩ = some (.int .i64 a0) := hS.cell 0
        have s1 : wx.cell? ⟨G + 1, 1, none⟩ = some (.int .i64 a1) := hS.cell 1
        have s2 : wx.cell? ⟨G + 1, 2, none⟩ = some (.int .i64 a2) := hS.cell 2
        have s3 : wx.cell? ⟨G + 1, 3, none⟩ = some (.int .i64 a3) := hS.cell 3
        have s4 : wx.cell? ⟨G + 1, 4, none⟩ = some (.int .i64 a4) := hS.cell 4
        have s5 : wx.cell? ⟨G + 1, 5, none⟩ = some (.int .i64 a5) := hS.cell 5
        have s6 : wx.cell? ⟨G + 1, 12, none⟩ = some (.int .i64 w0) := hS.cell 12
        have hE : wq.heap.size + (os.size + os2.size) = ((wq.more os d).more os2 d2).heap.size := by simp [Nat.add_assoc]
        rw [hE]
        clear hC hS
        rw [← hG8_]
        clear hG8_
        generalize ((wq.more os d).more os2 d2).heap.size = E at *
        refine wp_region_held_drew (S := (fun w' => w'.cell? ⟨E, 1, none⟩ = some (.func (.func 51) #[] #[]) ∧ w'.cell? ⟨G + 1, 0, none⟩ = some (.int .i64 a0) ∧ w'.cell? ⟨G + 1, 1, none⟩ = some (.int .i64 a1) ∧ w'.cell? ⟨G + 1, 2, none⟩ = some (.int .i64 a2) ∧ w'.cell? ⟨G + 1, 3, none⟩ = some (.int .i64 a3) ∧ w'.cell? ⟨G + 1, 4, none⟩ = some (.int .i64 a4) ∧ w'.cell? ⟨G + 1, 5, none⟩ = some (.int .i64 a5) ∧ w'.cell? ⟨G + 1, 12, none⟩ = some (.int .i64 w0))) (by kernel_rfl) ?_ (fun hHeld => ?_)
        · exact ⟨c1, s0, s1, s2, s3, s4, s5, s6⟩
        refine tk8 0 rfl ?_; try simp only [lay]
        refine tk8 1 rfl ?_; try simp only [lay]
        refine tk8 2 rfl ?_; try simp only [lay]
        refine tk8 3 rfl ?_; try simp only [lay]
        refine tk8 4 rfl ?_; try simp only [lay]
        refine tk8 5 rfl ?_; try simp only [lay]
        refine wpAnyH_ready (rs := [6]) (by kernel_rfl) (by simp) ?_
        refine AllReadyH.cons rfl (fun K hK => ?_) AllReadyH.nil
        go_simp
        refine (ledbat_right _ _ _ _ _ _ _).mono ?_
        rintro e w' ⟨rfl, o, rfl⟩
        rw [hr]
        refine hK.out _ _ ?_ (fun hHeld => ?_)
        · exact by obtain ⟨h0, h1, h2, h3, h4, h5, h6, h7⟩ := hHeld; exact ⟨(World.cell?_alloc_some _ _ _ (Option.isSome_iff_exists.2 ⟨_, h0⟩)).trans h0, (World.cell?_alloc_some _ _ _ (Option.isSome_iff_exists.2 ⟨_, h1⟩)).trans h1, (World.cell?_alloc_some _ _ _ (Option.isSome_iff_exists.2 ⟨_, h2⟩)).trans h2, (World.cell?_alloc_some _ _ _ (Option.isSome_iff_exists.2 ⟨_, h3⟩)).trans h3, (World.cell?_alloc_some _ _ _ (Option.isSome_iff_exists.2 ⟨_, h4⟩)).trans h4, (World.cell?_alloc_some _ _ _ (Option.isSome_iff_exists.2 ⟨_, h5⟩)).trans h5, (World.cell?_alloc_some _ _ _ (Option.isSome_iff_exists.2 ⟨_, h6⟩)).trans h6, (World.cell?_alloc_some _ _ _ (Option.isSome_iff_exists.2 ⟨_, h7⟩)).trans h7⟩
        clear hK K
        try simp only [lay]
        refine tk8 7 rfl ?_; try simp only [lay]
        refine tk8 8 rfl ?_; try simp only [lay]
        refine tk8 9 rfl ?_; try simp only [lay]
        refine tk8 10 rfl ?_; try simp only [lay]
        refine tk8 11 rfl ?_; try simp only [lay]
        refine tk8 12 rfl ?_; try simp only [lay]
        refine tk8 13 rfl ?_; try simp only [lay]
        refine tk8 14 rfl ?_; try simp only [lay]
        refine wpAnyH_done (by kernel_rfl) ?_ _
        go_wp2
        go_ret
        exact ⟨rfl, hm.trans (by repeat (first | (with_reducible assumption) | (with_reducible exact More.refl _) | (with_reducible refine More.alloc ?_ _) | (with_reducible refine More.more ?_ _ _) | (with_reducible refine More.drewN ?_ _) | (with_reducible refine More.drew ?_)))⟩
set_option maxRecDepth 20000 in
set_option maxHeartbeats 4000000 in
theorem right_b2 (k0 k1 rate buf jit : Int) (a0 a1 a2 a3 a4 a5 b0 b1 b2 b3 b4 b5 w0 w1 : Int) (w : World) (hk0 : Hid (dKind k0)) (hk1 : Hid (dKind k1)) (hn : dNums rate buf jit) (hc0 : Hid (CR k0 a0 a1 a2 a3 a4 a5 = true)) (hw0 : 0 ≤ w0) (hc1 : Hid (CR k1 b0 b1 b2 b3 b4 b5 = false)) :
    Calls Try.prog 27 #[.agg #[.int .i64 k0, .int .i64 k1, .int .i64 rate, .int .i64 buf, .int .i64 jit], .agg #[.int .i64 a0, .int .i64 a1, .int .i64 a2, .int .i64 a3, .int .i64 a4, .int .i64 a5, .int .i64 b0, .int .i64 b1, .int .i64 b2, .int .i64 b3, .int .i64 b4, .int .i64 b5, .int .i64 w0, .int .i64 w1]] w fun e w' => e = .returned (.bool false) ∧ More w w' := by
  go_enter Try.func27, Try.ntmps27
  go_wp2_with fail
  refine (wrong_ok k0 k1 rate buf jit _ hk0 hk1 hn).mono ?_
  rintro e w1 ⟨rfl, os1, d1, rfl⟩
  go_wp2_with fail
  obtain ⟨wq, hG9_⟩ : ∃ W, W = (((w.alloc (.cells #[.int .i64 k0, .int .i64 k1, .int .i64 rate, .int .i64 buf, .int .i64 jit] 24)).alloc (.cells #[.int .i64 a0, .int .i64 a1, .int .i64 a2, .int .i64 a3, .int .i64 a4, .int .i64 a5, .int .i64 b0, .int .i64 b1, .int .i64 b2, .int .i64 b3, .int .i64 b4, .int .i64 b5, .int .i64 w0, .int .i64 w1] 32)).more os1 d1) := ⟨_, rfl⟩
  have hm : More w wq := (by rw [hG9_]; exact (by repeat (first | (with_reducible assumption) | (with_reducible exact More.refl _) | (with_reducible refine More.alloc ?_ _) | (with_reducible refine More.more ?_ _ _) | (with_reducible refine More.drewN ?_ _) | (with_reducible refine More.drew ?_))))
  have hB1 : Blk wq w.heap.size 24 #[.int .i64 k0, .int .i64 k1, .int .i64 rate, .int .i64 buf, .int .i64 jit] := (by rw [hG9_]; exact (by repeat (first | (with_reducible assumption) | ((with_reducible refine Blk.new' ?_); (simp [Nat.add_assoc]; done)) | (with_reducible refine Blk.alloc ?_ _) | (with_reducible refine Blk.more ?_ _ _) | (with_reducible refine Blk.drew ?_) | (with_reducible refine Blk.drewN ?_ _))))
  have hB2 : Blk wq (w.heap.size + 1) 32 #[.int .i64 a0, .int .i64 a1, .int .i64 a2, .int .i64 a3, .int .i64 a4, .int .i64 a5, .int .i64 b0, .int .i64 b1, .int .i64 b2, .int .i64 b3, .int .i64 b4, .int .i64 b5, .int .i64 w0, .int .i64 w1] := (by rw [hG9_]; exact (by repeat (first | (with_reducible assumption) | ((with_reducible refine Blk.new' ?_); (simp [Nat.add_assoc]; done)) | (with_reducible refine Blk.alloc ?_ _) | (with_reducible refine Blk.more ?_ _ _) | (with_reducible refine Blk.drew ?_) | (with_reducible refine Blk.drewN ?_ _))))
  have hl := hB2.lt
  have hlg := hB1.lt
  have r3 : wq.cell? ⟨w.heap.size, 3, none⟩ = some (.int .i64 buf) := hB1.cell 3
  have z0 : wq.cell? ⟨w.heap.size + 1, 12, none⟩ = some (.int .i64 w0) := hB2.cell 12
  have z1 : wq.cell? ⟨w.heap.size + 1, 13, none⟩ = some (.int .i64 w1) := hB2.cell 13
  rw [← hG9_]
  clear hG9_
  generalize w.heap.size = G at *
  go_loopw [14] (fun i wr => ∃ j : Nat, j ≤ 1 ∧ i = .int .i64 j ∧ More wq wr) (fun i _ => 1 - (intOf i).toNat)
  case atStart => exact ⟨0, by omega, rfl, More.refl _⟩
  case round =>
    obtain ⟨j, hj, hi, os, d, rfl⟩ := hrel
    rcases (show j = 0 ∨ j = 1 by omega) with rfl | rfl
    · have hi : _ = Value.int .i64 0 := hi
      subst hi
      rcases hk0.out with rfl | rfl | rfl
      · have hr : vegasRight a0 a1 a2 a3 a4 a5 = true := by simpa [CR] using hc0.out
        have gw : decide (w0 < 0) = false := by simp; omega
        go_wp2_with fail
        refine (of_1 _).mono ?_
        rintro e w1 ⟨rfl, os2, d2, rfl⟩
        go_wp2_with fail
        have hC := Blk.new ((wq.more os d).more os2 d2) 82 #[.func (.func 44) #[] #[], .func (.func 45) #[] #[], .func (.func 46) #[] #[]]
        obtain ⟨wx, hG10_⟩ : ∃ W, W = (((wq.more os d).more os2 d2).alloc (.cells #[.func (.func 44) #[] #[], .func (.func 45) #[] #[], .func (.func 46) #[] #[]] 82)) := ⟨_, rfl⟩
        have hS : Blk wx (G + 1) 32 #[.int .i64 a0, .int .i64 a1, .int .i64 a2, .int .i64 a3, .int .i64 a4, .int .i64 a5, .int .i64 b0, .int .i64 b1, .int .i64 b2, .int .i64 b3, .int .i64 b4, .int .i64 b5, .int .i64 w0, .int .i64 w1] := (by rw [hG10_]; exact ((hB2.more os d).more os2 d2).alloc _)
        have hmx : More wq wx := (by rw [hG10_]; exact (by repeat (first | (with_reducible assumption) | (with_reducible exact More.refl _) | (with_reducible refine More.alloc ?_ _) | (with_reducible refine More.more ?_ _ _) | (with_reducible refine More.drewN ?_ _) | (with_reducible refine More.drew ?_))))
        have c1 : wx.cell? ⟨((wq.more os d).more os2 d2).heap.size, 1, none⟩ = some (.func (.func 45) #[] #[]) := (by rw [hG10_]; exact hC.cell 1)
        have s0 : wx.cell? ⟨G + 1, 0, none⟩ = some (.int .i64 a0) := hS.cell 0
        have s1 : wx.cell? ⟨G + 1, 1, none⟩ = some (.int .i64 a1) := hS.cell 1
        have s2 : wx.cell? ⟨G + 1, 2, none⟩ = some (.int .i64 a2) := hS.cell 2
        have s3 : wx.cell? ⟨G + 1, 3, none⟩ = some (.int .i64 a3) := hS.cell 3
        have s4 : wx.cell? ⟨G + 1, 4, none⟩ = some (.int .i64 a4) := hS.cell 4
        have s5 : wx.cell? ⟨G + 1, 5, none⟩ = some (.int .i64 a5) := hS.cell 5
        have s6 : wx.cell? ⟨G + 1, 12, none⟩ = some (.int .i64 w0) := hS.cell 12
        have hE : wq.heap.size + (os.size + os2.size) = ((wq.more os d).more os2 d2).heap.size := by simp [Nat.add_assoc]
        rw [hE]
        clear hC hS
        rw [← hG10_]
        clear hG10_
        generalize ((wq.more os d).more os2 d2).heap.size = E at *
        refine wp_region_held_drew (S := (fun w' => w'.cell? ⟨E, 1, none⟩ = some (.func (.func 45) #[] #[]) ∧ w'.cell? ⟨G + 1, 0, none⟩ = some (.int .i64 a0) ∧ w'.cell? ⟨G + 1, 1, none⟩ = some (.int .i64 a1) ∧ w'.cell? ⟨G + 1, 2, none⟩ = some (.int .i64 a2) ∧ w'.cell? ⟨G + 1, 3, none⟩ = some (.int .i64 a3) ∧ w'.cell? ⟨G + 1, 4, none⟩ = some (.int .i64 a4) ∧ w'.cell? ⟨G + 1, 5, none⟩ = some (.int .i64 a5) ∧ w'.cell? ⟨G + 1, 12, none⟩ = some (.int .i64 w0))) (by kernel_rfl) ?_ (fun hHeld => ?_)
        · exact ⟨c1, s0, s1, s2, s3, s4, s5, s6⟩
        refine tk8 0 rfl ?_; try simp only [lay]
        refine tk8 1 rfl ?_; try simp only [lay]
        refine tk8 2 rfl ?_; try simp only [lay]
        refine tk8 3 rfl ?_; try simp only [lay]
        refine tk8 4 rfl ?_; try simp only [lay]
        refine tk8 5 rfl ?_; try simp only [lay]
        refine wpAnyH_ready (rs := [6]) (by kernel_rfl) (by simp) ?_
        refine AllReadyH.cons rfl (fun K hK => ?_) AllReadyH.nil
        go_simp
        refine (vegas_right _ _ _ _ _ _ _).mono ?_
        rintro e w' ⟨rfl, o, rfl⟩
        rw [hr]
        refine hK.out _ _ ?_ (fun hHeld => ?_)
        · exact by obtain ⟨h0, h1, h2, h3, h4, h5, h6, h7⟩ := hHeld; exact ⟨(World.cell?_alloc_some _ _ _ (Option.isSome_iff_exists.2 ⟨_, h0⟩)).trans h0, (World.cell?_alloc_some _ _ _ (Option.isSome_iff_exists.2 ⟨_, h1⟩)).trans h1, (World.cell?_alloc_some _ _ _ (Option.isSome_iff_exists.2 ⟨_, h2⟩)).trans h2, (World.cell?_alloc_some _ _ _ (Option.isSome_iff_exists.2 ⟨_, h3⟩)).trans h3, (World.cell?_alloc_some _ _ _ (Option.isSome_iff_exists.2 ⟨_, h4⟩)).trans h4, (World.cell?_alloc_some _ _ _ (Option.isSome_iff_exists.2 ⟨_, h5⟩)).trans h5, (World.cell?_alloc_some _ _ _ (Option.isSome_iff_exists.2 ⟨_, h6⟩)).trans h6, (World.cell?_alloc_some _ _ _ (Option.isSome_iff_exists.2 ⟨_, h7⟩)).trans h7⟩
        clear hK K
        try simp only [lay]
        refine tk8 7 rfl ?_; try simp only [lay]
        refine tk8 8 rfl ?_; try simp only [lay]
        refine tk8 9 rfl ?_; try simp only [lay]
        refine tk8 10 rfl ?_; try simp only [lay]
        refine tk8 11 rfl ?_; try simp only [lay]
        refine tk8 12 rfl ?_; try simp only [lay]
        refine tk8 13 rfl ?_; try simp only [lay]
        refine tk8 14 rfl ?_; try simp only [lay]
        refine wpAnyH_done (by kernel_rfl) ?_ _
        go_wp2
        go_roundw
        case rel => exact ⟨1, by omega, by go_num, (by repeat (first | (with_reducible assumption) | (with_reducible exact More.refl _) | (with_reducible refine More.alloc ?_ _) | (with_reducible refine More.more ?_ _ _) | (with_reducible refine More.drewN ?_ _) | (with_reducible refine More.drew ?_)))⟩
        case measure => simp [intOf]
      · have hr : copaRight a0 a1 a2 a3 a4 a5 = true := by simpa [CR] using hc0.out
        have gw : decide (w0 < 0) = false := by simp; omega
        go_wp2_with fail
        refine (of_2 _).mono ?_
        rintro e w1 ⟨rfl, os2, d2, rfl⟩
        go_wp2_with fail
        have hC := Blk.new ((wq.more os d).more os2 d2) 82 #[.func (.func 47) #[] #[], .func (.func 48) #[] #[], .func (.func 49) #[] #[]]
        obtain ⟨wx, hG11_⟩ : ∃ W, W = (((wq.more os d).more os2 d2).alloc (.cells #[.func (.func 47) #[] #[], .func (.func 48) #[] #[], .func (.func 49) #[] #[]] 82)) := ⟨_, rfl⟩
        have hS : Blk wx (G + 1) 32 #[.int .i64 a0, .int .i64 a1, .int .i64 a2, .int .i64 a3, .int .i64 a4, .int .i64 a5, .int .i64 b0, .int .i64 b1, .int .i64 b2, .int .i64 b3, .int .i64 b4, .int .i64 b5, .int .i64 w0, .int .i64 w1] := (by rw [hG11_]; exact ((hB2.more os d).more os2 d2).alloc _)
        have hmx : More wq wx := (by rw [hG11_]; exact (by repeat (first | (with_reducible assumption) | (with_reducible exact More.refl _) | (with_reducible refine More.alloc ?_ _) | (with_reducible refine More.more ?_ _ _) | (with_reducible refine More.drewN ?_ _) | (with_reducible refine More.drew ?_))))
        have c1 : wx.cell? ⟨((wq.more os d).more os2 d2).heap.size, 1, none⟩ = some (.func (.func 48) #[] #[]) := (by rw [hG11_]; exact hC.cell 1)
        have s0 : wx.cell? ⟨G + 1, 0, none⟩ = some (.int .i64 a0) := hS.cell 0
        have s1 : wx.cell? ⟨G + 1, 1, none⟩ = some (.int .i64 a1) := hS.cell 1
        have s2 : wx.cell? ⟨G + 1, 2, none⟩ = some (.int .i64 a2) := hS.cell 2
        have s3 : wx.cell? ⟨G + 1, 3, none⟩ = some (.int .i64 a3) := hS.cell 3
        have s4 : wx.cell? ⟨G + 1, 4, none⟩ = some (.int .i64 a4) := hS.cell 4
        have s5 : wx.cell? ⟨G + 1, 5, none⟩ = some (.int .i64 a5) := hS.cell 5
        have s6 : wx.cell? ⟨G + 1, 12, none⟩ = some (.int .i64 w0) := hS.cell 12
        have hE : wq.heap.size + (os.size + os2.size) = ((wq.more os d).more os2 d2).heap.size := by simp [Nat.add_assoc]
        rw [hE]
        clear hC hS
        rw [← hG11_]
        clear hG11_
        generalize ((wq.more os d).more os2 d2).heap.size = E at *
        refine wp_region_held_drew (S := (fun w' => w'.cell? ⟨E, 1, none⟩ = some (.func (.func 48) #[] #[]) ∧ w'.cell? ⟨G + 1, 0, none⟩ = some (.int .i64 a0) ∧ w'.cell? ⟨G + 1, 1, none⟩ = some (.int .i64 a1) ∧ w'.cell? ⟨G + 1, 2, none⟩ = some (.int .i64 a2) ∧ w'.cell? ⟨G + 1, 3, none⟩ = some (.int .i64 a3) ∧ w'.cell? ⟨G + 1, 4, none⟩ = some (.int .i64 a4) ∧ w'.cell? ⟨G + 1, 5, none⟩ = some (.int .i64 a5) ∧ w'.cell? ⟨G + 1, 12, none⟩ = some (.int .i64 w0))) (by kernel_rfl) ?_ (fun hHeld => ?_)
        · exact ⟨c1, s0, s1, s2, s3, s4, s5, s6⟩
        refine tk8 0 rfl ?_; try simp only [lay]
        refine tk8 1 rfl ?_; try simp only [lay]
        refine tk8 2 rfl ?_; try simp only [lay]
        refine tk8 3 rfl ?_; try simp only [lay]
        refine tk8 4 rfl ?_; try simp only [lay]
        refine tk8 5 rfl ?_; try simp only [lay]
        refine wpAnyH_ready (rs := [6]) (by kernel_rfl) (by simp) ?_
        refine AllReadyH.cons rfl (fun K hK => ?_) AllReadyH.nil
        go_simp
        refine (copa_right _ _ _ _ _ _ _).mono ?_
        rintro e w' ⟨rfl, o, rfl⟩
        rw [hr]
        refine hK.out _ _ ?_ (fun hHeld => ?_)
        · exact by obtain ⟨h0, h1, h2, h3, h4, h5, h6, h7⟩ := hHeld; exact ⟨(World.cell?_alloc_some _ _ _ (Option.isSome_iff_exists.2 ⟨_, h0⟩)).trans h0, (World.cell?_alloc_some _ _ _ (Option.isSome_iff_exists.2 ⟨_, h1⟩)).trans h1, (World.cell?_alloc_some _ _ _ (Option.isSome_iff_exists.2 ⟨_, h2⟩)).trans h2, (World.cell?_alloc_some _ _ _ (Option.isSome_iff_exists.2 ⟨_, h3⟩)).trans h3, (World.cell?_alloc_some _ _ _ (Option.isSome_iff_exists.2 ⟨_, h4⟩)).trans h4, (World.cell?_alloc_some _ _ _ (Option.isSome_iff_exists.2 ⟨_, h5⟩)).trans h5, (World.cell?_alloc_some _ _ _ (Option.isSome_iff_exists.2 ⟨_, h6⟩)).trans h6, (World.cell?_alloc_some _ _ _ (Option.isSome_iff_exists.2 ⟨_, h7⟩)).trans h7⟩
        clear hK K
        try simp only [lay]
        refine tk8 7 rfl ?_; try simp only [lay]
        refine tk8 8 rfl ?_; try simp only [lay]
        refine tk8 9 rfl ?_; try simp only [lay]
        refine tk8 10 rfl ?_; try simp only [lay]
        refine tk8 11 rfl ?_; try simp only [lay]
        refine tk8 12 rfl ?_; try simp only [lay]
        refine tk8 13 rfl ?_; try simp only [lay]
        refine tk8 14 rfl ?_; try simp only [lay]
        refine wpAnyH_done (by kernel_rfl) ?_ _
        go_wp2
        go_roundw
        case rel => exact ⟨1, by omega, by go_num, (by repeat (first | (with_reducible assumption) | (with_reducible exact More.refl _) | (with_reducible refine More.alloc ?_ _) | (with_reducible refine More.more ?_ _ _) | (with_reducible refine More.drewN ?_ _) | (with_reducible refine More.drew ?_)))⟩
        case measure => simp [intOf]
      · have hr : ledbatRight a0 a1 a2 a3 a4 a5 = true := by simpa [CR] using hc0.out
        have gw : decide (w0 < 0) = false := by simp; omega
        go_wp2_with fail
        refine (of_3 _).mono ?_
        rintro e w1 ⟨rfl, os2, d2, rfl⟩
        go_wp2_with fail
        have hC := Blk.new ((wq.more os d).more os2 d2) 82 #[.func (.func 50) #[] #[], .func (.func 51) #[] #[], .func (.func 52) #[] #[]]
        obtain ⟨wx, hG12_⟩ : ∃ W, W = (((wq.more os d).more os2 d2).alloc (.cells #[.func (.func 50) #[] #[], .func (.func 51) #[] #[], .func (.func 52) #[] #[]] 82)) := ⟨_, rfl⟩
        have hS : Blk wx (G + 1) 32 #[.int .i64 a0, .int .i64 a1, .int .i64 a2, .int .i64 a3, .int .i64 a4, .int .i64 a5, .int .i64 b0, .int .i64 b1, .int .i64 b2, .int .i64 b3, .int .i64 b4, .int .i64 b5, .int .i64 w0, .int .i64 w1] := (by rw [hG12_]; exact ((hB2.more os d).more os2 d2).alloc _)
        have hmx : More wq wx := (by rw [hG12_]; exact (by repeat (first | (with_reducible assumption) | (with_reducible exact More.refl _) | (with_reducible refine More.alloc ?_ _) | (with_reducible refine More.more ?_ _ _) | (with_reducible refine More.drewN ?_ _) | (with_reducible refine More.drew ?_))))
        have c1 : wx.cell? ⟨((wq.more os d).more os2 d2).heap.size, 1, none⟩ = some (.func (.func 51) #[] #[]) := (by rw [hG12_]; exact hC.cell 1)
        have s0 : wx.cell? ⟨G + 1, 0, none⟩ = some (.int .i64 a0) := hS.cell 0
        have s1 : wx.cell? ⟨G + 1, 1, none⟩ = some (.int .i64 a1) := hS.cell 1
        have s2 : wx.cell? ⟨G + 1, 2, none⟩ = some (.int .i64 a2) := hS.cell 2
        have s3 : wx.cell? ⟨G + 1, 3, none⟩ = some (.int .i64 a3) := hS.cell 3
        have s4 : wx.cell? ⟨G + 1, 4, none⟩ = some (.int .i64 a4) := hS.cell 4
        have s5 : wx.cell? ⟨G + 1, 5, none⟩ = some (.int .i64 a5) := hS.cell 5
        have s6 : wx.cell? ⟨G + 1, 12, none⟩ = some (.int .i64 w0) := hS.cell 12
        have hE : wq.heap.size + (os.size + os2.size) = ((wq.more os d).more os2 d2).heap.size := by simp [Nat.add_assoc]
        rw [hE]
        clear hC hS
        rw [← hG12_]
        clear hG12_
        generalize ((wq.more os d).more os2 d2).heap.size = E at *
        refine wp_region_held_drew (S := (fun w' => w'.cell? ⟨E, 1, none⟩ = some (.func (.func 51) #[] #[]) ∧ w'.cell? ⟨G + 1, 0, none⟩ = some (.int .i64 a0) ∧ w'.cell? ⟨G + 1, 1, none⟩ = some (.int .i64 a1) ∧ w'.cell? ⟨G + 1, 2, none⟩ = some (.int .i64 a2) ∧ w'.cell? ⟨G + 1, 3, none⟩ = some (.int .i64 a3) ∧ w'.cell? ⟨G + 1, 4, none⟩ = some (.int .i64 a4) ∧ w'.cell? ⟨G + 1, 5, none⟩ = some (.int .i64 a5) ∧ w'.cell? ⟨G + 1, 12, none⟩ = some (.int .i64 w0))) (by kernel_rfl) ?_ (fun hHeld => ?_)
        · exact ⟨c1, s0, s1, s2, s3, s4, s5, s6⟩
        refine tk8 0 rfl ?_; try simp only [lay]
        refine tk8 1 rfl ?_; try simp only [lay]
        refine tk8 2 rfl ?_; try simp only [lay]
        refine tk8 3 rfl ?_; try simp only [lay]
        refine tk8 4 rfl ?_; try simp only [lay]
        refine tk8 5 rfl ?_; try simp only [lay]
        refine wpAnyH_ready (rs := [6]) (by kernel_rfl) (by simp) ?_
        refine AllReadyH.cons rfl (fun K hK => ?_) AllReadyH.nil
        go_simp
        refine (ledbat_right _ _ _ _ _ _ _).mono ?_
        rintro e w' ⟨rfl, o, rfl⟩
        rw [hr]
        refine hK.out _ _ ?_ (fun hHeld => ?_)
        · exact by obtain ⟨h0, h1, h2, h3, h4, h5, h6, h7⟩ := hHeld; exact ⟨(World.cell?_alloc_some _ _ _ (Option.isSome_iff_exists.2 ⟨_, h0⟩)).trans h0, (World.cell?_alloc_some _ _ _ (Option.isSome_iff_exists.2 ⟨_, h1⟩)).trans h1, (World.cell?_alloc_some _ _ _ (Option.isSome_iff_exists.2 ⟨_, h2⟩)).trans h2, (World.cell?_alloc_some _ _ _ (Option.isSome_iff_exists.2 ⟨_, h3⟩)).trans h3, (World.cell?_alloc_some _ _ _ (Option.isSome_iff_exists.2 ⟨_, h4⟩)).trans h4, (World.cell?_alloc_some _ _ _ (Option.isSome_iff_exists.2 ⟨_, h5⟩)).trans h5, (World.cell?_alloc_some _ _ _ (Option.isSome_iff_exists.2 ⟨_, h6⟩)).trans h6, (World.cell?_alloc_some _ _ _ (Option.isSome_iff_exists.2 ⟨_, h7⟩)).trans h7⟩
        clear hK K
        try simp only [lay]
        refine tk8 7 rfl ?_; try simp only [lay]
        refine tk8 8 rfl ?_; try simp only [lay]
        refine tk8 9 rfl ?_; try simp only [lay]
        refine tk8 10 rfl ?_; try simp only [lay]
        refine tk8 11 rfl ?_; try simp only [lay]
        refine tk8 12 rfl ?_; try simp only [lay]
        refine tk8 13 rfl ?_; try simp only [lay]
        refine tk8 14 rfl ?_; try simp only [lay]
        refine wpAnyH_done (by kernel_rfl) ?_ _
        go_wp2
        go_roundw
        case rel => exact ⟨1, by omega, by go_num, (by repeat (first | (with_reducible assumption) | (with_reducible exact More.refl _) | (with_reducible refine More.alloc ?_ _) | (with_reducible refine More.more ?_ _ _) | (with_reducible refine More.drewN ?_ _) | (with_reducible refine More.drew ?_)))⟩
        case measure => simp [intOf]
    · have hi : _ = Value.int .i64 1 := hi
      subst hi
      rcases hk1.out with rfl | rfl | rfl
      · have hr : vegasRight b0 b1 b2 b3 b4 b5 = false := by simpa [CR] using hc1.out
        go_wp2_with fail
        refine (of_1 _).mono ?_
        rintro e w1 ⟨rfl, os2, d2, rfl⟩
        go_wp2_with fail
        have hC := Blk.new ((wq.more os d).more os2 d2) 82 #[.func (.func 44) #[] #[], .func (.func 45) #[] #[], .func (.func 46) #[] #[]]
        obtain ⟨wx, hG13_⟩ : ∃ W, W = (((wq.more os d).more os2 d2).alloc (.cells #[.func (.func 44) #[] #[], .func (.func 45) #[] #[], .func (.func 46) #[] #[]] 82)) := ⟨_, rfl⟩
        have hS : Blk wx (G + 1) 32 #[.int .i64 a0, .int .i64 a1, .int .i64 a2, .int .i64 a3, .int .i64 a4, .int .i64 a5, .int .i64 b0, .int .i64 b1, .int .i64 b2, .int .i64 b3, .int .i64 b4, .int .i64 b5, .int .i64 w0, .int .i64 w1] := (by rw [hG13_]; exact ((hB2.more os d).more os2 d2).alloc _)
        have hmx : More wq wx := (by rw [hG13_]; exact (by repeat (first | (with_reducible assumption) | (with_reducible exact More.refl _) | (with_reducible refine More.alloc ?_ _) | (with_reducible refine More.more ?_ _ _) | (with_reducible refine More.drewN ?_ _) | (with_reducible refine More.drew ?_))))
        have c1 : wx.cell? ⟨((wq.more os d).more os2 d2).heap.size, 1, none⟩ = some (.func (.func 45) #[] #[]) := (by rw [hG13_]; exact hC.cell 1)
        have s0 : wx.cell? ⟨G + 1, 6, none⟩ = some (.int .i64 b0) := hS.cell 6
        have s1 : wx.cell? ⟨G + 1, 7, none⟩ = some (.int .i64 b1) := hS.cell 7
        have s2 : wx.cell? ⟨G + 1, 8, none⟩ = some (.int .i64 b2) := hS.cell 8
        have s3 : wx.cell? ⟨G + 1, 9, none⟩ = some (.int .i64 b3) := hS.cell 9
        have s4 : wx.cell? ⟨G + 1, 10, none⟩ = some (.int .i64 b4) := hS.cell 10
        have s5 : wx.cell? ⟨G + 1, 11, none⟩ = some (.int .i64 b5) := hS.cell 11
        have s6 : wx.cell? ⟨G + 1, 13, none⟩ = some (.int .i64 w1) := hS.cell 13
        have hE : wq.heap.size + (os.size + os2.size) = ((wq.more os d).more os2 d2).heap.size := by simp [Nat.add_assoc]
        rw [hE]
        clear hC hS
        rw [← hG13_]
        clear hG13_
        generalize ((wq.more os d).more os2 d2).heap.size = E at *
        refine wp_region_held_drew (S := (fun w' => w'.cell? ⟨E, 1, none⟩ = some (.func (.func 45) #[] #[]) ∧ w'.cell? ⟨G + 1, 6, none⟩ = some (.int .i64 b0) ∧ w'.cell? ⟨G + 1, 7, none⟩ = some (.int .i64 b1) ∧ w'.cell? ⟨G + 1, 8, none⟩ = some (.int .i64 b2) ∧ w'.cell? ⟨G + 1, 9, none⟩ = some (.int .i64 b3) ∧ w'.cell? ⟨G + 1, 10, none⟩ = some (.int .i64 b4) ∧ w'.cell? ⟨G + 1, 11, none⟩ = some (.int .i64 b5) ∧ w'.cell? ⟨G + 1, 13, none⟩ = some (.int .i64 w1))) (by kernel_rfl) ?_ (fun hHeld => ?_)
        · exact ⟨c1, s0, s1, s2, s3, s4, s5, s6⟩
        refine tk8 0 rfl ?_; try simp only [lay]
        refine tk8 1 rfl ?_; try simp only [lay]
        refine tk8 2 rfl ?_; try simp only [lay]
        refine tk8 3 rfl ?_; try simp only [lay]
        refine tk8 4 rfl ?_; try simp only [lay]
        refine tk8 5 rfl ?_; try simp only [lay]
        refine wpAnyH_ready (rs := [6]) (by kernel_rfl) (by simp) ?_
        refine AllReadyH.cons rfl (fun K hK => ?_) AllReadyH.nil
        go_simp
        refine (vegas_right _ _ _ _ _ _ _).mono ?_
        rintro e w' ⟨rfl, o, rfl⟩
        rw [hr]
        refine hK.out _ _ ?_ (fun hHeld => ?_)
        · exact by obtain ⟨h0, h1, h2, h3, h4, h5, h6, h7⟩ := hHeld; exact ⟨(World.cell?_alloc_some _ _ _ (Option.isSome_iff_exists.2 ⟨_, h0⟩)).trans h0, (World.cell?_alloc_some _ _ _ (Option.isSome_iff_exists.2 ⟨_, h1⟩)).trans h1, (World.cell?_alloc_some _ _ _ (Option.isSome_iff_exists.2 ⟨_, h2⟩)).trans h2, (World.cell?_alloc_some _ _ _ (Option.isSome_iff_exists.2 ⟨_, h3⟩)).trans h3, (World.cell?_alloc_some _ _ _ (Option.isSome_iff_exists.2 ⟨_, h4⟩)).trans h4, (World.cell?_alloc_some _ _ _ (Option.isSome_iff_exists.2 ⟨_, h5⟩)).trans h5, (World.cell?_alloc_some _ _ _ (Option.isSome_iff_exists.2 ⟨_, h6⟩)).trans h6, (World.cell?_alloc_some _ _ _ (Option.isSome_iff_exists.2 ⟨_, h7⟩)).trans h7⟩
        clear hK K
        try simp only [lay]
        refine tk8 7 rfl ?_; try simp only [lay]
        refine tk8 8 rfl ?_; try simp only [lay]
        refine sk 9 rfl (by rfl) ?_; try simp only [lay]
        refine sk 10 rfl (by rfl) ?_; try simp only [lay]
        refine sk 11 rfl (by rfl) ?_; try simp only [lay]
        refine sk 12 rfl (by rfl) ?_; try simp only [lay]
        refine sk 13 rfl (by rfl) ?_; try simp only [lay]
        refine tk8 14 rfl ?_; try simp only [lay]
        refine wpAnyH_done (by kernel_rfl) ?_ _
        go_wp2
        go_ret
        exact ⟨rfl, hm.trans (by repeat (first | (with_reducible assumption) | (with_reducible exact More.refl _) | (with_reducible refine More.alloc ?_ _) | (with_reducible refine More.more ?_ _ _) | (with_reducible refine More.drewN ?_ _) | (with_reducible refine More.drew ?_)))⟩
      · have hr : copaRight b0 b1 b2 b3 b4 b5 = false := by simpa [CR] using hc1.out
        go_wp2_with fail
        refine (of_2 _).mono ?_
        rintro e w1 ⟨rfl, os2, d2, rfl⟩
        go_wp2_with fail
        have hC := Blk.new ((wq.more os d).more os2 d2) 82 #[.func (.func 47) #[] #[], .func (.func 48) #[] #[], .func (.func 49) #[] #[]]
        obtain ⟨wx, hG14_⟩ : ∃ W, W = (((wq.more os d).more os2 d2).alloc (.cells #[.func (.func 47) #[] #[], .func (.func 48) #[] #[], .func (.func 49) #[] #[]] 82)) := ⟨_, rfl⟩
        have hS : Blk wx (G + 1) 32 #[.int .i64 a0, .int .i64 a1, .int .i64 a2, .int .i64 a3, .int .i64 a4, .int .i64 a5, .int .i64 b0, .int .i64 b1, .int .i64 b2, .int .i64 b3, .int .i64 b4, .int .i64 b5, .int .i64 w0, .int .i64 w1] := (by rw [hG14_]; exact ((hB2.more os d).more os2 d2).alloc _)
        have hmx : More wq wx := (by rw [hG14_]; exact (by repeat (first | (with_reducible assumption) | (with_reducible exact More.refl _) | (with_reducible refine More.alloc ?_ _) | (with_reducible refine More.more ?_ _ _) | (with_reducible refine More.drewN ?_ _) | (with_reducible refine More.drew ?_))))
        have c1 : wx.cell? ⟨((wq.more os d).more os2 d2).heap.size, 1, none⟩ = some (.func (.func 48) #[] #[]) := (by rw [hG14_]; exact hC.cell 1)
        have s0 : wx.cell? ⟨G + 1, 6, none⟩ = some (.int .i64 b0) := hS.cell 6
        have s1 : wx.cell? ⟨G + 1, 7, none⟩ = some (.int .i64 b1) := hS.cell 7
        have s2 : wx.cell? ⟨G + 1, 8, none⟩ = some (.int .i64 b2) := hS.cell 8
        have s3 : wx.cell? ⟨G + 1, 9, none⟩ = some (.int .i64 b3) := hS.cell 9
        have s4 : wx.cell? ⟨G + 1, 10, none⟩ = some (.int .i64 b4) := hS.cell 10
        have s5 : wx.cell? ⟨G + 1, 11, none⟩ = some (.int .i64 b5) := hS.cell 11
        have s6 : wx.cell? ⟨G + 1, 13, none⟩ = some (.int .i64 w1) := hS.cell 13
        have hE : wq.heap.size + (os.size + os2.size) = ((wq.more os d).more os2 d2).heap.size := by simp [Nat.add_assoc]
        rw [hE]
        clear hC hS
        rw [← hG14_]
        clear hG14_
        generalize ((wq.more os d).more os2 d2).heap.size = E at *
        refine wp_region_held_drew (S := (fun w' => w'.cell? ⟨E, 1, none⟩ = some (.func (.func 48) #[] #[]) ∧ w'.cell? ⟨G + 1, 6, none⟩ = some (.int .i64 b0) ∧ w'.cell? ⟨G + 1, 7, none⟩ = some (.int .i64 b1) ∧ w'.cell? ⟨G + 1, 8, none⟩ = some (.int .i64 b2) ∧ w'.cell? ⟨G + 1, 9, none⟩ = some (.int .i64 b3) ∧ w'.cell? ⟨G + 1, 10, none⟩ = some (.int .i64 b4) ∧ w'.cell? ⟨G + 1, 11, none⟩ = some (.int .i64 b5) ∧ w'.cell? ⟨G + 1, 13, none⟩ = some (.int .i64 w1))) (by kernel_rfl) ?_ (fun hHeld => ?_)
        · exact ⟨c1, s0, s1, s2, s3, s4, s5, s6⟩
        refine tk8 0 rfl ?_; try simp only [lay]
        refine tk8 1 rfl ?_; try simp only [lay]
        refine tk8 2 rfl ?_; try simp only [lay]
        refine tk8 3 rfl ?_; try simp only [lay]
        refine tk8 4 rfl ?_; try simp only [lay]
        refine tk8 5 rfl ?_; try simp only [lay]
        refine wpAnyH_ready (rs := [6]) (by kernel_rfl) (by simp) ?_
        refine AllReadyH.cons rfl (fun K hK => ?_) AllReadyH.nil
        go_simp
        refine (copa_right _ _ _ _ _ _ _).mono ?_
        rintro e w' ⟨rfl, o, rfl⟩
        rw [hr]
        refine hK.out _ _ ?_ (fun hHeld => ?_)
        · exact by obtain ⟨h0, h1, h2, h3, h4, h5, h6, h7⟩ := hHeld; exact ⟨(World.cell?_alloc_some _ _ _ (Option.isSome_iff_exists.2 ⟨_, h0⟩)).trans h0, (World.cell?_alloc_some _ _ _ (Option.isSome_iff_exists.2 ⟨_, h1⟩)).trans h1, (World.cell?_alloc_some _ _ _ (Option.isSome_iff_exists.2 ⟨_, h2⟩)).trans h2, (World.cell?_alloc_some _ _ _ (Option.isSome_iff_exists.2 ⟨_, h3⟩)).trans h3, (World.cell?_alloc_some _ _ _ (Option.isSome_iff_exists.2 ⟨_, h4⟩)).trans h4, (World.cell?_alloc_some _ _ _ (Option.isSome_iff_exists.2 ⟨_, h5⟩)).trans h5, (World.cell?_alloc_some _ _ _ (Option.isSome_iff_exists.2 ⟨_, h6⟩)).trans h6, (World.cell?_alloc_some _ _ _ (Option.isSome_iff_exists.2 ⟨_, h7⟩)).trans h7⟩
        clear hK K
        try simp only [lay]
        refine tk8 7 rfl ?_; try simp only [lay]
        refine tk8 8 rfl ?_; try simp only [lay]
        refine sk 9 rfl (by rfl) ?_; try simp only [lay]
        refine sk 10 rfl (by rfl) ?_; try simp only [lay]
        refine sk 11 rfl (by rfl) ?_; try simp only [lay]
        refine sk 12 rfl (by rfl) ?_; try simp only [lay]
        refine sk 13 rfl (by rfl) ?_; try simp only [lay]
        refine tk8 14 rfl ?_; try simp only [lay]
        refine wpAnyH_done (by kernel_rfl) ?_ _
        go_wp2
        go_ret
        exact ⟨rfl, hm.trans (by repeat (first | (with_reducible assumption) | (with_reducible exact More.refl _) | (with_reducible refine More.alloc ?_ _) | (with_reducible refine More.more ?_ _ _) | (with_reducible refine More.drewN ?_ _) | (with_reducible refine More.drew ?_)))⟩
      · have hr : ledbatRight b0 b1 b2 b3 b4 b5 = false := by simpa [CR] using hc1.out
        go_wp2_with fail
        refine (of_3 _).mono ?_
        rintro e w1 ⟨rfl, os2, d2, rfl⟩
        go_wp2_with fail
        have hC := Blk.new ((wq.more os d).more os2 d2) 82 #[.func (.func 50) #[] #[], .func (.func 51) #[] #[], .func (.func 52) #[] #[]]
        obtain ⟨wx, hG15_⟩ : ∃ W, W = (((wq.more os d).more os2 d2).alloc (.cells #[.func (.func 50) #[] #[], .func (.func 51) #[] #[], .func (.func 52) #[] #[]] 82)) := ⟨_, rfl⟩
        have hS : Blk wx (G + 1) 32 #[.int .i64 a0, .int .i64 a1, .int .i64 a2, .int .i64 a3, .int .i64 a4, .int .i64 a5, .int .i64 b0, .int .i64 b1, .int .i64 b2, .int .i64 b3, .int .i64 b4, .int .i64 b5, .int .i64 w0, .int .i64 w1] := (by rw [hG15_]; exact ((hB2.more os d).more os2 d2).alloc _)
        have hmx : More wq wx := (by rw [hG15_]; exact (by repeat (first | (with_reducible assumption) | (with_reducible exact More.refl _) | (with_reducible refine More.alloc ?_ _) | (with_reducible refine More.more ?_ _ _) | (with_reducible refine More.drewN ?_ _) | (with_reducible refine More.drew ?_))))
        have c1 : wx.cell? ⟨((wq.more os d).more os2 d2).heap.size, 1, none⟩ = some (.func (.func 51) #[] #[]) := (by rw [hG15_]; exact hC.cell 1)
        have s0 : wx.cell? ⟨G + 1, 6, none⟩ = some (.int .i64 b0) := hS.cell 6
        have s1 : wx.cell? ⟨G + 1, 7, none⟩ = some (.int .i64 b1) := hS.cell 7
        have s2 : wx.cell? ⟨G + 1, 8, none⟩ = some (.int .i64 b2) := hS.cell 8
        have s3 : wx.cell? ⟨G + 1, 9, none⟩ = some (.int .i64 b3) := hS.cell 9
        have s4 : wx.cell? ⟨G + 1, 10, none⟩ = some (.int .i64 b4) := hS.cell 10
        have s5 : wx.cell? ⟨G + 1, 11, none⟩ = some (.int .i64 b5) := hS.cell 11
        have s6 : wx.cell? ⟨G + 1, 13, none⟩ = some (.int .i64 w1) := hS.cell 13
        have hE : wq.heap.size + (os.size + os2.size) = ((wq.more os d).more os2 d2).heap.size := by simp [Nat.add_assoc]
        rw [hE]
        clear hC hS
        rw [← hG15_]
        clear hG15_
        generalize ((wq.more os d).more os2 d2).heap.size = E at *
        refine wp_region_held_drew (S := (fun w' => w'.cell? ⟨E, 1, none⟩ = some (.func (.func 51) #[] #[]) ∧ w'.cell? ⟨G + 1, 6, none⟩ = some (.int .i64 b0) ∧ w'.cell? ⟨G + 1, 7, none⟩ = some (.int .i64 b1) ∧ w'.cell? ⟨G + 1, 8, none⟩ = some (.int .i64 b2) ∧ w'.cell? ⟨G + 1, 9, none⟩ = some (.int .i64 b3) ∧ w'.cell? ⟨G + 1, 10, none⟩ = some (.int .i64 b4) ∧ w'.cell? ⟨G + 1, 11, none⟩ = some (.int .i64 b5) ∧ w'.cell? ⟨G + 1, 13, none⟩ = some (.int .i64 w1))) (by kernel_rfl) ?_ (fun hHeld => ?_)
        · exact ⟨c1, s0, s1, s2, s3, s4, s5, s6⟩
        refine tk8 0 rfl ?_; try simp only [lay]
        refine tk8 1 rfl ?_; try simp only [lay]
        refine tk8 2 rfl ?_; try simp only [lay]
        refine tk8 3 rfl ?_; try simp only [lay]
        refine tk8 4 rfl ?_; try simp only [lay]
        refine tk8 5 rfl ?_; try simp only [lay]
        refine wpAnyH_ready (rs := [6]) (by kernel_rfl) (by simp) ?_
        refine AllReadyH.cons rfl (fun K hK => ?_) AllReadyH.nil
        go_simp
        refine (ledbat_right _ _ _ _ _ _ _).mono ?_
        rintro e w' ⟨rfl, o, rfl⟩
        rw [hr]
        refine hK.out _ _ ?_ (fun hHeld => ?_)
        · exact by obtain ⟨h0, h1, h2, h3, h4, h5, h6, h7⟩ := hHeld; exact ⟨(World.cell?_alloc_some _ _ _ (Option.isSome_iff_exists.2 ⟨_, h0⟩)).trans h0, (World.cell?_alloc_some _ _ _ (Option.isSome_iff_exists.2 ⟨_, h1⟩)).trans h1, (World.cell?_alloc_some _ _ _ (Option.isSome_iff_exists.2 ⟨_, h2⟩)).trans h2, (World.cell?_alloc_some _ _ _ (Option.isSome_iff_exists.2 ⟨_, h3⟩)).trans h3, (World.cell?_alloc_some _ _ _ (Option.isSome_iff_exists.2 ⟨_, h4⟩)).trans h4, (World.cell?_alloc_some _ _ _ (Option.isSome_iff_exists.2 ⟨_, h5⟩)).trans h5, (World.cell?_alloc_some _ _ _ (Option.isSome_iff_exists.2 ⟨_, h6⟩)).trans h6, (World.cell?_alloc_some _ _ _ (Option.isSome_iff_exists.2 ⟨_, h7⟩)).trans h7⟩
        clear hK K
        try simp only [lay]
        refine tk8 7 rfl ?_; try simp only [lay]
        refine tk8 8 rfl ?_; try simp only [lay]
        refine sk 9 rfl (by rfl) ?_; try simp only [lay]
        refine sk 10 rfl (by rfl) ?_; try simp only [lay]
        refine sk 11 rfl (by rfl) ?_; try simp only [lay]
        refine sk 12 rfl (by rfl) ?_; try simp only [lay]
        refine sk 13 rfl (by rfl) ?_; try simp only [lay]
        refine tk8 14 rfl ?_; try simp only [lay]
        refine wpAnyH_done (by kernel_rfl) ?_ _
        go_wp2
        go_ret
        exact ⟨rfl, hm.trans (by repeat (first | (with_reducible assumption) | (with_reducible exact More.refl _) | (with_reducible refine More.alloc ?_ _) | (with_reducible refine More.more ?_ _ _) | (with_reducible refine More.drewN ?_ _) | (with_reducible refine More.drew ?_)))⟩
set_option maxRecDepth 20000 in
set_option maxHeartbeats 4000000 in
theorem right_b3 (k0 k1 rate buf jit : Int) (a0 a1 a2 a3 a4 a5 b0 b1 b2 b3 b4 b5 w0 w1 : Int) (w : World) (hk0 : Hid (dKind k0)) (hk1 : Hid (dKind k1)) (hn : dNums rate buf jit) (hc0 : Hid (CR k0 a0 a1 a2 a3 a4 a5 = true)) (hw0 : 0 ≤ w0) (hc1 : Hid (CR k1 b0 b1 b2 b3 b4 b5 = true)) (hw1 : w1 < 0) :
    Calls Try.prog 27 #[.agg #[.int .i64 k0, .int .i64 k1, .int .i64 rate, .int .i64 buf, .int .i64 jit], .agg #[.int .i64 a0, .int .i64 a1, .int .i64 a2, .int .i64 a3, .int .i64 a4, .int .i64 a5, .int .i64 b0, .int .i64 b1, .int .i64 b2, .int .i64 b3, .int .i64 b4, .int .i64 b5, .int .i64 w0, .int .i64 w1]] w fun e w' => e = .returned (.bool false) ∧ More w w' := by
  go_enter Try.func27, Try.ntmps27
  go_wp2_with fail
  refine (wrong_ok k0 k1 rate buf jit _ hk0 hk1 hn).mono ?_
  rintro e w1 ⟨rfl, os1, d1, rfl⟩
  go_wp2_with fail
  obtain ⟨wq, hG16_⟩ : ∃ W, W = (((w.alloc (.cells #[.int .i64 k0, .int .i64 k1, .int .i64 rate, .int .i64 buf, .int .i64 jit] 24)).alloc (.cells #[.int .i64 a0, .int .i64 a1, .int .i64 a2, .int .i64 a3, .int .i64 a4, .int .i64 a5, .int .i64 b0, .int .i64 b1, .int .i64 b2, .int .i64 b3, .int .i64 b4, .int .i64 b5, .int .i64 w0, .int .i64 w1] 32)).more os1 d1) := ⟨_, rfl⟩
  have hm : More w wq := (by rw [hG16_]; exact (by repeat (first | (with_reducible assumption) | (with_reducible exact More.refl _) | (with_reducible refine More.alloc ?_ _) | (with_reducible refine More.more ?_ _ _) | (with_reducible refine More.drewN ?_ _) | (with_reducible refine More.drew ?_))))
  have hB1 : Blk wq w.heap.size 24 #[.int .i64 k0, .int .i64 k1, .int .i64 rate, .int .i64 buf, .int .i64 jit] := (by rw [hG16_]; exact (by repeat (first | (with_reducible assumption) | ((with_reducible refine Blk.new' ?_); (simp [Nat.add_assoc]; done)) | (with_reducible refine Blk.alloc ?_ _) | (with_reducible refine Blk.more ?_ _ _) | (with_reducible refine Blk.drew ?_) | (with_reducible refine Blk.drewN ?_ _))))
  have hB2 : Blk wq (w.heap.size + 1) 32 #[.int .i64 a0, .int .i64 a1, .int .i64 a2, .int .i64 a3, .int .i64 a4, .int .i64 a5, .int .i64 b0, .int .i64 b1, .int .i64 b2, .int .i64 b3, .int .i64 b4, .int .i64 b5, .int .i64 w0, .int .i64 w1] := (by rw [hG16_]; exact (by repeat (first | (with_reducible assumption) | ((with_reducible refine Blk.new' ?_); (simp [Nat.add_assoc]; done)) | (with_reducible refine Blk.alloc ?_ _) | (with_reducible refine Blk.more ?_ _ _) | (with_reducible refine Blk.drew ?_) | (with_reducible refine Blk.drewN ?_ _))))
  have hl := hB2.lt
  have hlg := hB1.lt
  have r3 : wq.cell? ⟨w.heap.size, 3, none⟩ = some (.int .i64 buf) := hB1.cell 3
  have z0 : wq.cell? ⟨w.heap.size + 1, 12, none⟩ = some (.int .i64 w0) := hB2.cell 12
  have z1 : wq.cell? ⟨w.heap.size + 1, 13, none⟩ = some (.int .i64 w1) := hB2.cell 13
  rw [← hG16_]
  clear hG16_
  generalize w.heap.size = G at *
  go_loopw [14] (fun i wr => ∃ j : Nat, j ≤ 1 ∧ i = .int .i64 j ∧ More wq wr) (fun i _ => 1 - (intOf i).toNat)
  case atStart => exact ⟨0, by omega, rfl, More.refl _⟩
  case round =>
    obtain ⟨j, hj, hi, os, d, rfl⟩ := hrel
    rcases (show j = 0 ∨ j = 1 by omega) with rfl | rfl
    · have hi : _ = Value.int .i64 0 := hi
      subst hi
      rcases hk0.out with rfl | rfl | rfl
      · have hr : vegasRight a0 a1 a2 a3 a4 a5 = true := by simpa [CR] using hc0.out
        have gw : decide (w0 < 0) = false := by simp; omega
        go_wp2_with fail
        refine (of_1 _).mono ?_
        rintro e w1 ⟨rfl, os2, d2, rfl⟩
        go_wp2_with fail
        have hC := Blk.new ((wq.more os d).more os2 d2) 82 #[.func (.func 44) #[] #[], .func (.func 45) #[] #[], .func (.func 46) #[] #[]]
        obtain ⟨wx, hG17_⟩ : ∃ W, W = (((wq.more os d).more os2 d2).alloc (.cells #[.func (.func 44) #[] #[], .func (.func 45) #[] #[], .func (.func 46) #[] #[]] 82)) := ⟨_, rfl⟩
        have hS : Blk wx (G + 1) 32 #[.int .i64 a0, .int .i64 a1, .int .i64 a2, .int .i64 a3, .int .i64 a4, .int .i64 a5, .int .i64 b0, .int .i64 b1, .int .i64 b2, .int .i64 b3, .int .i64 b4, .int .i64 b5, .int .i64 w0, .int .i64 w1] := (by rw [hG17_]; exact ((hB2.more os d).more os2 d2).alloc _)
        have hmx : More wq wx := (by rw [hG17_]; exact (by repeat (first | (with_reducible assumption) | (with_reducible exact More.refl _) | (with_reducible refine More.alloc ?_ _) | (with_reducible refine More.more ?_ _ _) | (with_reducible refine More.drewN ?_ _) | (with_reducible refine More.drew ?_))))
        have c1 : wx.cell? ⟨((wq.more os d).more os2 d2).heap.size, 1, none⟩ = some (.func (.func 45) #[] #[]) := (by rw [hG17_]; exact hC.cell 1)
        have s0 : wx.cell? ⟨G + 1, 0, none⟩ = some (.int .i64 a0) := hS.cell 0
        have s1 : wx.cell? ⟨G + 1, 1, none⟩ = some (.int .i64 a1) := hS.cell 1
        have s2 : wx.cell? ⟨G + 1, 2, none⟩ = some (.int .i64 a2) := hS.cell 2
        have s3 : wx.cell? ⟨G + 1, 3, none⟩ = some (.int .i64 a3) := hS.cell 3
        have s4 : wx.cell? ⟨G + 1, 4, none⟩ = some (.int .i64 a4) := hS.cell 4
        have s5 : wx.cell? ⟨G + 1, 5, none⟩ = some (.int .i64 a5) := hS.cell 5
        have s6 : wx.cell? ⟨G + 1, 12, none⟩ = some (.int .i64 w0) := hS.cell 12
        have hE : wq.heap.size + (os.size + os2.size) = ((wq.more os d).more os2 d2).heap.size := by simp [Nat.add_assoc]
        rw [hE]
        clear hC hS
        rw [← hG17_]
        clear hG17_
        generalize ((wq.more os d).more os2 d2).heap.size = E at *
        refine wp_region_held_drew (S := (fun w' => w'.cell? ⟨E, 1, none⟩ = some (.func (.func 45) #[] #[]) ∧ w'.cell? ⟨G + 1, 0, none⟩ = some (.int .i64 a0) ∧ w'.cell? ⟨G + 1, 1, none⟩ = some (.int .i64 a1) ∧ w'.cell? ⟨G + 1, 2, none⟩ = some (.int .i64 a2) ∧ w'.cell? ⟨G + 1, 3, none⟩ = some (.int .i64 a3) ∧ w'.cell? ⟨G + 1, 4, none⟩ = some (.int .i64 a4) ∧ w'.cell? ⟨G + 1, 5, none⟩ = some (.int .i64 a5) ∧ w'.cell? ⟨G + 1, 12, none⟩ = some (.int .i64 w0))) (by kernel_rfl) ?_ (fun hHeld => ?_)
        · exact ⟨c1, s0, s1, s2, s3, s4, s5, s6⟩
        refine tk8 0 rfl ?_; try simp only [lay]
        refine tk8 1 rfl ?_; try simp only [lay]
        refine tk8 2 rfl ?_; try simp only [lay]
        refine tk8 3 rfl ?_; try simp only [lay]
        refine tk8 4 rfl ?_; try simp only [lay]
        refine tk8 5 rfl ?_; try simp only [lay]
        refine wpAnyH_ready (rs := [6]) (by kernel_rfl) (by simp) ?_
        refine AllReadyH.cons rfl (fun K hK => ?_) AllReadyH.nil
        go_simp
        refine (vegas_right _ _ _ _ _ _ _).mono ?_
        rintro e w' ⟨rfl, o, rfl⟩
        rw [hr]
        refine hK.out _ _ ?_ (fun hHeld => ?_)
        · exact by obtain ⟨h0, h1, h2, h3, h4, h5, h6, h7⟩ := hHeld; exact ⟨(World.cell?_alloc_some _ _ _ (Option.isSome_iff_exists.2 ⟨_, h0⟩)).trans h0, (World.cell?_alloc_some _ _ _ (Option.isSome_iff_exists.2 ⟨_, h1⟩)).trans h1, (World.cell?_alloc_some _ _ _ (Option.isSome_iff_exists.2 ⟨_, h2⟩)).trans h2, (World.cell?_alloc_some _ _ _ (Option.isSome_iff_exists.2 ⟨_, h3⟩)).trans h3, (World.cell?_alloc_some _ _ _ (Option.isSome_iff_exists.2 ⟨_, h4⟩)).trans h4, (World.cell?_alloc_some _ _ _ (Option.isSome_iff_exists.2 ⟨_, h5⟩)).trans h5, (World.cell?_alloc_some _ _ _ (Option.isSome_iff_exists.2 ⟨_, h6⟩)).trans h6, (World.cell?_alloc_some _ _ _ (Option.isSome_iff_exists.2 ⟨_, h7⟩)).trans h7⟩
        clear hK K
        try simp only [lay]
        refine tk8 7 rfl ?_; try simp only [lay]
        refine tk8 8 rfl ?_; try simp only [lay]
        refine tk8 9 rfl ?_; try simp only [lay]
        refine tk8 10 rfl ?_; try simp only [lay]
        refine tk8 11 rfl ?_; try simp only [lay]
        refine tk8 12 rfl ?_; try simp only [lay]
        refine tk8 13 rfl ?_; try simp only [lay]
        refine tk8 14 rfl ?_; try simp only [lay]
        refine wpAnyH_done (by kernel_rfl) ?_ _
        go_wp2
        go_roundw
        case rel => exact ⟨1, by omega, by go_num, (by repeat (first | (with_reducible assumption) | (with_reducible exact More.refl _) | (with_reducible refine More.alloc ?_ _) | (with_reducible refine More.more ?_ _ _) | (with_reducible refine More.drewN ?_ _) | (with_reducible refine More.drew ?_)))⟩
        case measure => simp [intOf]
      · have hr : copaRight a0 a1 a2 a3 a4 a5 = true := by simpa [CR] using hc0.out
        have gw : decide (w0 < 0) = false := by simp; omega
        go_wp2_with fail
        refine (of_2 _).mono ?_
        rintro e w1 ⟨rfl, os2, d2, rfl⟩
        go_wp2_with fail
        have hC := Blk.new ((wq.more os d).more os2 d2) 82 #[.func (.func 47) #[] #[], .func (.func 48) #[] #[], .func (.func 49) #[] #[]]
        obtain ⟨wx, hG18_⟩ : ∃ W, W = (((wq.more os d).more os2 d2).alloc (.cells #[.func (.func 47) #[] #[], .func (.func 48) #[] #[], .func (.func 49) #[] #[]] 82)) := ⟨_, rfl⟩
        have hS : Blk wx (G + 1) 32 #[.int .i64 a0, .int .i64 a1, .int .i64 a2, .int .i64 a3, .int .i64 a4, .int .i64 a5, .int .i64 b0, .int .i64 b1, .int .i64 b2, .int .i64 b3, .int .i64 b4, .int .i64 b5, .int .i64 w0, .int .i64 w1] := (by rw [hG18_]; exact ((hB2.more os d).more os2 d2).alloc _)
        have hmx : More wq wx := (by rw [hG18_]; exact (by repeat (first | (with_reducible assumption) | (with_reducible exact More.refl _) | (with_reducible refine More.alloc ?_ _) | (with_reducible refine More.more ?_ _ _) | (with_reducible refine More.drewN ?_ _) | (with_reducible refine More.drew ?_))))
        have c1 : wx.cell? ⟨((wq.more os d).more os2 d2).heap.size, 1, none⟩ = some (.func (.func 48) #[] #[]) := (by rw [hG18_]; exact hC.cell 1)
        have s0 : wx.cell? ⟨G + 1, 0, none⟩ = some (.int .i64 a0) := hS.cell 0
        have s1 : wx.cell? ⟨G + 1, 1, none⟩ = some (.int .i64 a1) := hS.cell 1
        have s2 : wx.cell? ⟨G + 1, 2, none⟩ = some (.int .i64 a2) := hS.cell 2
        have s3 : wx.cell? ⟨G + 1, 3, none⟩ = some (.int .i64 a3) := hS.cell 3
        have s4 : wx.cell? ⟨G + 1, 4, none⟩ = some (.int .i64 a4) := hS.cell 4
        have s5 : wx.cell? ⟨G + 1, 5, none⟩ = some (.int .i64 a5) := hS.cell 5
        have s6 : wx.cell? ⟨G + 1, 12, none⟩ = some (.int .i64 w0) := hS.cell 12
        have hE : wq.heap.size + (os.size + os2.size) = ((wq.more os d).more os2 d2).heap.size := by simp [Nat.add_assoc]
        rw [hE]
        clear hC hS
        rw [← hG18_]
        clear hG18_
        generalize ((wq.more os d).more os2 d2).heap.size = E at *
        refine wp_region_held_drew (S := (fun w' => w'.cell? ⟨E, 1, none⟩ = some (.func (.func 48) #[] #[]) ∧ w'.cell? ⟨G + 1, 0, none⟩ = some (.int .i64 a0) ∧ w'.cell? ⟨G + 1, 1, none⟩ = some (.int .i64 a1) ∧ w'.cell? ⟨G + 1, 2, none⟩ = some (.int .i64 a2) ∧ w'.cell? ⟨G + 1, 3, none⟩ = some (.int .i64 a3) ∧ w'.cell? ⟨G + 1, 4, none⟩ = some (.int .i64 a4) ∧ w'.cell? ⟨G + 1, 5, none⟩ = some (.int .i64 a5) ∧ w'.cell? ⟨G + 1, 12, none⟩ = some (.int .i64 w0))) (by kernel_rfl) ?_ (fun hHeld => ?_)
        · exact ⟨c1, s0, s1, s2, s3, s4, s5, s6⟩
        refine tk8 0 rfl ?_; try simp only [lay]
        refine tk8 1 rfl ?_; try simp only [lay]
        refine tk8 2 rfl ?_; try simp only [lay]
        refine tk8 3 rfl ?_; try simp only [lay]
        refine tk8 4 rfl ?_; try simp only [lay]
        refine tk8 5 rfl ?_; try simp only [lay]
        refine wpAnyH_ready (rs := [6]) (by kernel_rfl) (by simp) ?_
        refine AllReadyH.cons rfl (fun K hK => ?_) AllReadyH.nil
        go_simp
        refine (copa_right _ _ _ _ _ _ _).mono ?_
        rintro e w' ⟨rfl, o, rfl⟩
        rw [hr]
        refine hK.out _ _ ?_ (fun hHeld => ?_)
        · exact by obtain ⟨h0, h1, h2, h3, h4, h5, h6, h7⟩ := hHeld; exact ⟨(World.cell?_alloc_some _ _ _ (Option.isSome_iff_exists.2 ⟨_, h0⟩)).trans h0, (World.cell?_alloc_some _ _ _ (Option.isSome_iff_exists.2 ⟨_, h1⟩)).trans h1, (World.cell?_alloc_some _ _ _ (Option.isSome_iff_exists.2 ⟨_, h2⟩)).trans h2, (World.cell?_alloc_some _ _ _ (Option.isSome_iff_exists.2 ⟨_, h3⟩)).trans h3, (World.cell?_alloc_some _ _ _ (Option.isSome_iff_exists.2 ⟨_, h4⟩)).trans h4, (World.cell?_alloc_some _ _ _ (Option.isSome_iff_exists.2 ⟨_, h5⟩)).trans h5, (World.cell?_alloc_some _ _ _ (Option.isSome_iff_exists.2 ⟨_, h6⟩)).trans h6, (World.cell?_alloc_some _ _ _ (Option.isSome_iff_exists.2 ⟨_, h7⟩)).trans h7⟩
        clear hK K
        try simp only [lay]
        refine tk8 7 rfl ?_; try simp only [lay]
        refine tk8 8 rfl ?_; try simp only [lay]
        refine tk8 9 rfl ?_; try simp only [lay]
        refine tk8 10 rfl ?_; try simp only [lay]
        refine tk8 11 rfl ?_; try simp only [lay]
        refine tk8 12 rfl ?_; try simp only [lay]
        refine tk8 13 rfl ?_; try simp only [lay]
        refine tk8 14 rfl ?_; try simp only [lay]
        refine wpAnyH_done (by kernel_rfl) ?_ _
        go_wp2
        go_roundw
        case rel => exact ⟨1, by omega, by go_num, (by repeat (first | (with_reducible assumption) | (with_reducible exact More.refl _) | (with_reducible refine More.alloc ?_ _) | (with_reducible refine More.more ?_ _ _) | (with_reducible refine More.drewN ?_ _) | (with_reducible refine More.drew ?_)))⟩
        case measure => simp [intOf]
      · have hr : ledbatRight a0 a1 a2 a3 a4 a5 = true := by simpa [CR] using hc0.out
        have gw : decide (w0 < 0) = false := by simp; omega
        go_wp2_with fail
        refine (of_3 _).mono ?_
        rintro e w1 ⟨rfl, os2, d2, rfl⟩
        go_wp2_with fail
        have hC := Blk.new ((wq.more os d).more os2 d2) 82 #[.func (.func 50) #[] #[], .func (.func 51) #[] #[], .func (.func 52) #[] #[]]
        obtain ⟨wx, hG19_⟩ : ∃ W, W = (((wq.more os d).more os2 d2).alloc (.cells #[.func (.func 50) #[] #[], .func (.func 51) #[] #[], .func (.func 52) #[] #[]] 82)) := ⟨_, rfl⟩
        have hS : Blk wx (G + 1) 32 #[.int .i64 a0, .int .i64 a1, .int .i64 a2, .int .i64 a3, .int .i64 a4, .int .i64 a5, .int .i64 b0, .int .i64 b1, .int .i64 b2, .int .i64 b3, .int .i64 b4, .int .i64 b5, .int .i64 w0, .int .i64 w1] := (by rw [hG19_]; exact ((hB2.more os d).more os2 d2).alloc _)
        have hmx : More wq wx := (by rw [hG19_]; exact (by repeat (first | (with_reducible assumption) | (with_reducible exact More.refl _) | (with_reducible refine More.alloc ?_ _) | (with_reducible refine More.more ?_ _ _) | (with_reducible refine More.drewN ?_ _) | (with_reducible refine More.drew ?_))))
        have c1 : wx.cell? ⟨((wq.more os d).more os2 d2).heap.size, 1, none⟩ = some (.func (.func 51) #[] #[]) := (by rw [hG19_]; exact hC.cell 1)
        have s0 : wx.cell? ⟨G + 1, 0, none⟩ = some (.int .i64 a0) := hS.cell 0
        have s1 : wx.cell? ⟨G + 1, 1, none⟩ = some (.int .i64 a1) := hS.cell 1
        have s2 : wx.cell? ⟨G + 1, 2, none⟩ = some (.int .i64 a2) := hS.cell 2
        have s3 : wx.cell? ⟨G + 1, 3, none⟩ = some (.int .i64 a3) := hS.cell 3
        have s4 : wx.cell? ⟨G + 1, 4, none⟩ = some (.int .i64 a4) := hS.cell 4
        have s5 : wx.cell? ⟨G + 1, 5, none⟩ = some (.int .i64 a5) := hS.cell 5
        have s6 : wx.cell? ⟨G + 1, 12, none⟩ = some (.int .i64 w0) := hS.cell 12
        have hE : wq.heap.size + (os.size + os2.size) = ((wq.more os d).more os2 d2).heap.size := by simp [Nat.add_assoc]
        rw [hE]
        clear hC hS
        rw [← hG19_]
        clear hG19_
        generalize ((wq.more os d).more os2 d2).heap.size = E at *
        refine wp_region_held_drew (S := (fun w' => w'.cell? ⟨E, 1, none⟩ = some (.func (.func 51) #[] #[]) ∧ w'.cell? ⟨G + 1, 0, none⟩ = some (.int .i64 a0) ∧ w'.cell? ⟨G + 1, 1, none⟩ = some (.int .i64 a1) ∧ w'.cell? ⟨G + 1, 2, none⟩ = some (.int .i64 a2) ∧ w'.cell? ⟨G + 1, 3, none⟩ = some (.int .i64 a3) ∧ w'.cell? ⟨G + 1, 4, none⟩ = some (.int .i64 a4) ∧ w'.cell? ⟨G + 1, 5, none⟩ = some (.int .i64 a5) ∧ w'.cell? ⟨G + 1, 12, none⟩ = some (.int .i64 w0))) (by kernel_rfl) ?_ (fun hHeld => ?_)
        · exact ⟨c1, s0, s1, s2, s3, s4, s5, s6⟩
        refine tk8 0 rfl ?_; try simp only [lay]
        refine tk8 1 rfl ?_; try simp only [lay]
        refine tk8 2 rfl ?_; try simp only [lay]
        refine tk8 3 rfl ?_; try simp only [lay]
        refine tk8 4 rfl ?_; try simp only [lay]
        refine tk8 5 rfl ?_; try simp only [lay]
        refine wpAnyH_ready (rs := [6]) (by kernel_rfl) (by simp) ?_
        refine AllReadyH.cons rfl (fun K hK => ?_) AllReadyH.nil
        go_simp
        refine (ledbat_right _ _ _ _ _ _ _).mono ?_
        rintro e w' ⟨rfl, o, rfl⟩
        rw [hr]
        refine hK.out _ _ ?_ (fun hHeld => ?_)
        · exact by obtain ⟨h0, h1, h2, h3, h4, h5, h6, h7⟩ := hHeld; exact ⟨(World.cell?_alloc_some _ _ _ (Option.isSome_iff_exists.2 ⟨_, h0⟩)).trans h0, (World.cell?_alloc_some _ _ _ (Option.isSome_iff_exists.2 ⟨_, h1⟩)).trans h1, (World.cell?_alloc_some _ _ _ (Option.isSome_iff_exists.2 ⟨_, h2⟩)).trans h2, (World.cell?_alloc_some _ _ _ (Option.isSome_iff_exists.2 ⟨_, h3⟩)).trans h3, (World.cell?_alloc_some _ _ _ (Option.isSome_iff_exists.2 ⟨_, h4⟩)).trans h4, (World.cell?_alloc_some _ _ _ (Option.isSome_iff_exists.2 ⟨_, h5⟩)).trans h5, (World.cell?_alloc_some _ _ _ (Option.isSome_iff_exists.2 ⟨_, h6⟩)).trans h6, (World.cell?_alloc_some _ _ _ (Option.isSome_iff_exists.2 ⟨_, h7⟩)).trans h7⟩
        clear hK K
        try simp only [lay]
        refine tk8 7 rfl ?_; try simp only [lay]
        refine tk8 8 rfl ?_; try simp only [lay]
        refine tk8 9 rfl ?_; try simp only [lay]
        refine tk8 10 rfl ?_; try simp only [lay]
        refine tk8 11 rfl ?_; try simp only [lay]
        refine tk8 12 rfl ?_; try simp only [lay]
        refine tk8 13 rfl ?_; try simp only [lay]
        refine tk8 14 rfl ?_; try simp only [lay]
        refine wpAnyH_done (by kernel_rfl) ?_ _
        go_wp2
        go_roundw
        case rel => exact ⟨1, by omega, by go_num, (by repeat (first | (with_reducible assumption) | (with_reducible exact More.refl _) | (with_reducible refine More.alloc ?_ _) | (with_reducible refine More.more ?_ _ _) | (with_reducible refine More.drewN ?_ _) | (with_reducible refine More.drew ?_)))⟩
        case measure => simp [intOf]
    · have hi : _ = Value.int .i64 1 := hi
      subst hi
      rcases hk1.out with rfl | rfl | rfl
      · have hr : vegasRight b0 b1 b2 b3 b4 b5 = true := by simpa [CR] using hc1.out
        have gw : decide (w1 < 0) = true := by simp; omega
        go_wp2_with fail
        refine (of_1 _).mono ?_
        rintro e w1 ⟨rfl, os2, d2, rfl⟩
        go_wp2_with fail
        have hC := Blk.new ((wq.more os d).more os2 d2) 82 #[.func (.func 44) #[] #[], .func (.func 45) #[] #[], .func (.func 46) #[] #[]]
        obtain ⟨wx, hG20_⟩ : ∃ W, W = (((wq.more os d).more os2 d2).alloc (.cells #[.func (.func 44) #[] #[], .func (.func 45) #[] #[], .func (.func 46) #[] #[]] 82)) := ⟨_, rfl⟩
        have hS : Blk wx (G + 1) 32 #[.int .i64 a0, .int .i64 a1, .int .i64 a2, .int .i64 a3, .int .i64 a4, .int .i64 a5, .int .i64 b0, .int .i64 b1, .int .i64 b2, .int .i64 b3, .int .i64 b4, .int .i64 b5, .int .i64 w0, .int .i64 w1] := (by rw [hG20_]; exact ((hB2.more os d).more os2 d2).alloc _)
        have hmx : More wq wx := (by rw [hG20_]; exact (by repeat (first | (with_reducible assumption) | (with_reducible exact More.refl _) | (with_reducible refine More.alloc ?_ _) | (with_reducible refine More.more ?_ _ _) | (with_reducible refine More.drewN ?_ _) | (with_reducible refine More.drew ?_))))
        have c1 : wx.cell? ⟨((wq.more os d).more os2 d2).heap.size, 1, none⟩ = some (.func (.func 45) #[] #[]) := (by rw [hG20_]; exact hC.cell 1)
        have s0 : wx.cell? ⟨G + 1, 6, none⟩ = some (.int .i64 b0) := hS.cell 6
        have s1 : wx.cell? ⟨G + 1, 7, none⟩ = some (.int .i64 b1) := hS.cell 7
        have s2 : wx.cell? ⟨G + 1, 8, none⟩ = some (.int .i64 b2) := hS.cell 8
        have s3 : wx.cell? ⟨G + 1, 9, none⟩ = some (.int .i64 b3) := hS.cell 9
        have s4 : wx.cell? ⟨G + 1, 10, none⟩ = some (.int .i64 b4) := hS.cell 10
        have s5 : wx.cell? ⟨G + 1, 11, none⟩ = some (.int .i64 b5) := hS.cell 11
        have s6 : wx.cell? ⟨G + 1, 13, none⟩ = some (.int .i64 w1) := hS.cell 13
        have hE : wq.heap.size + (os.size + os2.size) = ((wq.more os d).more os2 d2).heap.size := by simp [Nat.add_assoc]
        rw [hE]
        clear hC hS
        rw [← hG20_]
        clear hG20_
        generalize ((wq.more os d).more os2 d2).heap.size = E at *
        refine wp_region_held_drew (S := (fun w' => w'.cell? ⟨E, 1, none⟩ = some (.func (.func 45) #[] #[]) ∧ w'.cell? ⟨G + 1, 6, none⟩ = some (.int .i64 b0) ∧ w'.cell? ⟨G + 1, 7, none⟩ = some (.int .i64 b1) ∧ w'.cell? ⟨G + 1, 8, none⟩ = some (.int .i64 b2) ∧ w'.cell? ⟨G + 1, 9, none⟩ = some (.int .i64 b3) ∧ w'.cell? ⟨G + 1, 10, none⟩ = some (.int .i64 b4) ∧ w'.cell? ⟨G + 1, 11, none⟩ = some (.int .i64 b5) ∧ w'.cell? ⟨G + 1, 13, none⟩ = some (.int .i64 w1))) (by kernel_rfl) ?_ (fun hHeld => ?_)
        · exact ⟨c1, s0, s1, s2, s3, s4, s5, s6⟩
        refine tk8 0 rfl ?_; try simp only [lay]
        refine tk8 1 rfl ?_; try simp only [lay]
        refine tk8 2 rfl ?_; try simp only [lay]
        refine tk8 3 rfl ?_; try simp only [lay]
        refine tk8 4 rfl ?_; try simp only [lay]
        refine tk8 5 rfl ?_; try simp only [lay]
        refine wpAnyH_ready (rs := [6]) (by kernel_rfl) (by simp) ?_
        refine AllReadyH.cons rfl (fun K hK => ?_) AllReadyH.nil
        go_simp
        refine (vegas_right _ _ _ _ _ _ _).mono ?_
        rintro e w' ⟨rfl, o, rfl⟩
        rw [hr]
        refine hK.out _ _ ?_ (fun hHeld => ?_)
        · exact by obtain ⟨h0, h1, h2, h3, h4, h5, h6, h7⟩ := hHeld; exact ⟨(World.cell?_alloc_some _ _ _ (Option.isSome_iff_exists.2 ⟨_, h0⟩)).trans h0, (World.cell?_alloc_some _ _ _ (Option.isSome_iff_exists.2 ⟨_, h1⟩)).trans h1, (World.cell?_alloc_some _ _ _ (Option.isSome_iff_exists.2 ⟨_, h2⟩)).trans h2, (World.cell?_alloc_some _ _ _ (Option.isSome_iff_exists.2 ⟨_, h3⟩)).trans h3, (World.cell?_alloc_some _ _ _ (Option.isSome_iff_exists.2 ⟨_, h4⟩)).trans h4, (World.cell?_alloc_some _ _ _ (Option.isSome_iff_exists.2 ⟨_, h5⟩)).trans h5, (World.cell?_alloc_some _ _ _ (Option.isSome_iff_exists.2 ⟨_, h6⟩)).trans h6, (World.cell?_alloc_some _ _ _ (Option.isSome_iff_exists.2 ⟨_, h7⟩)).trans h7⟩
        clear hK K
        try simp only [lay]
        refine tk8 7 rfl ?_; try simp only [lay]
        refine tk8 8 rfl ?_; try simp only [lay]
        refine tk8 9 rfl ?_; try simp only [lay]
        refine tk8 10 rfl ?_; try simp only [lay]
        refine tk8 11 rfl ?_; try simp only [lay]
        refine tk8 12 rfl ?_; try simp only [lay]
        refine tk8 13 rfl ?_; try simp only [lay]
        refine tk8 14 rfl ?_; try simp only [lay]
        refine wpAnyH_done (by kernel_rfl) ?_ _
        go_wp2
        go_ret
        exact ⟨rfl, hm.trans (by repeat (first | (with_reducible assumption) | (with_reducible exact More.refl _) | (with_reducible refine More.alloc ?_ _) | (with_reducible refine More.more ?_ _ _) | (with_reducible refine More.drewN ?_ _) | (with_reducible refine More.drew ?_)))⟩
      · have hr : copaRight b0 b1 b2 b3 b4 b5 = true := by simpa [CR] using hc1.out
        have gw : decide (w1 < 0) = true := by simp; omega
        go_wp2_with fail
        refine (of_2 _).mono ?_
        rintro e w1 ⟨rfl, os2, d2, rfl⟩
        go_wp2_with fail
        have hC := Blk.new ((wq.more os d).more os2 d2) 82 #[.func (.func 47) #[] #[], .func (.func 48) #[] #[], .func (.func 49) #[] #[]]
        obtain ⟨wx, hG21_⟩ : ∃ W, W = (((wq.more os d).more os2 d2).alloc (.cells #[.func (.func 47) #[] #[], .func (.func 48) #[] #[], .func (.func 49) #[] #[]] 82)) := ⟨_, rfl⟩
        have hS : Blk wx (G + 1) 32 #[.int .i64 a0, .int .i64 a1, .int .i64 a2, .int .i64 a3, .int .i64 a4, .int .i64 a5, .int .i64 b0, .int .i64 b1, .int .i64 b2, .int .i64 b3, .int .i64 b4, .int .i64 b5, .int .i64 w0, .int .i64 w1] := (by rw [hG21_]; exact ((hB2.more os d).more os2 d2).alloc _)
        have hmx : More wq wx := (by rw [hG21_]; exact (by repeat (first | (with_reducible assumption) | (with_reducible exact More.refl _) | (with_reducible refine More.alloc ?_ _) | (with_reducible refine More.more ?_ _ _) | (with_reducible refine More.drewN ?_ _) | (with_reducible refine More.drew ?_))))
        have c1 : wx.cell? ⟨((wq.more os d).more os2 d2).heap.size, 1, none⟩ = some (.func (.func 48) #[] #[]) := (by rw [hG21_]; exact hC.cell 1)
        have s0 : wx.cell? ⟨G + 1, 6, none⟩ = some (.int .i64 b0) := hS.cell 6
        have s1 : wx.cell? ⟨G + 1, 7, none⟩ = some (.int .i64 b1) := hS.cell 7
        have s2 : wx.cell? ⟨G + 1, 8, none⟩ = some (.int .i64 b2) := hS.cell 8
        have s3 : wx.cell? ⟨G + 1, 9, none⟩ = some (.int .i64 b3) := hS.cell 9
        have s4 : wx.cell? ⟨G + 1, 10, none⟩ = some (.int .i64 b4) := hS.cell 10
        have s5 : wx.cell? ⟨G + 1, 11, none⟩ = some (.int .i64 b5) := hS.cell 11
        have s6 : wx.cell? ⟨G + 1, 13, none⟩ = some (.int .i64 w1) := hS.cell 13
        have hE : wq.heap.size + (os.size + os2.size) = ((wq.more os d).more os2 d2).heap.size := by simp [Nat.add_assoc]
        rw [hE]
        clear hC hS
        rw [← hG21_]
        clear hG21_
        generalize ((wq.more os d).more os2 d2).heap.size = E at *
        refine wp_region_held_drew (S := (fun w' => w'.cell? ⟨E, 1, none⟩ = some (.func (.func 48) #[] #[]) ∧ w'.cell? ⟨G + 1, 6, none⟩ = some (.int .i64 b0) ∧ w'.cell? ⟨G + 1, 7, none⟩ = some (.int .i64 b1) ∧ w'.cell? ⟨G + 1, 8, none⟩ = some (.int .i64 b2) ∧ w'.cell? ⟨G + 1, 9, none⟩ = some (.int .i64 b3) ∧ w'.cell? ⟨G + 1, 10, none⟩ = some (.int .i64 b4) ∧ w'.cell? ⟨G + 1, 11, none⟩ = some (.int .i64 b5) ∧ w'.cell? ⟨G + 1, 13, none⟩ = some (.int .i64 w1))) (by kernel_rfl) ?_ (fun hHeld => ?_)
        · exact ⟨c1, s0, s1, s2, s3, s4, s5, s6⟩
        refine tk8 0 rfl ?_; try simp only [lay]
        refine tk8 1 rfl ?_; try simp only [lay]
        refine tk8 2 rfl ?_; try simp only [lay]
        refine tk8 3 rfl ?_; try simp only [lay]
        refine tk8 4 rfl ?_; try simp only [lay]
        refine tk8 5 rfl ?_; try simp only [lay]
        refine wpAnyH_ready (rs := [6]) (by kernel_rfl) (by simp) ?_
        refine AllReadyH.cons rfl (fun K hK => ?_) AllReadyH.nil
        go_simp
        refine (copa_right _ _ _ _ _ _ _).mono ?_
        rintro e w' ⟨rfl, o, rfl⟩
        rw [hr]
        refine hK.out _ _ ?_ (fun hHeld => ?_)
        · exact by obtain ⟨h0, h1, h2, h3, h4, h5, h6, h7⟩ := hHeld; exact ⟨(World.cell?_alloc_some _ _ _ (Option.isSome_iff_exists.2 ⟨_, h0⟩)).trans h0, (World.cell?_alloc_some _ _ _ (Option.isSome_iff_exists.2 ⟨_, h1⟩)).trans h1, (World.cell?_alloc_some _ _ _ (Option.isSome_iff_exists.2 ⟨_, h2⟩)).trans h2, (World.cell?_alloc_some _ _ _ (Option.isSome_iff_exists.2 ⟨_, h3⟩)).trans h3, (World.cell?_alloc_some _ _ _ (Option.isSome_iff_exists.2 ⟨_, h4⟩)).trans h4, (World.cell?_alloc_some _ _ _ (Option.isSome_iff_exists.2 ⟨_, h5⟩)).trans h5, (World.cell?_alloc_some _ _ _ (Option.isSome_iff_exists.2 ⟨_, h6⟩)).trans h6, (World.cell?_alloc_some _ _ _ (Option.isSome_iff_exists.2 ⟨_, h7⟩)).trans h7⟩
        clear hK K
        try simp only [lay]
        refine tk8 7 rfl ?_; try simp only [lay]
        refine tk8 8 rfl ?_; try simp only [lay]
        refine tk8 9 rfl ?_; try simp only [lay]
        refine tk8 10 rfl ?_; try simp only [lay]
        refine tk8 11 rfl ?_; try simp only [lay]
        refine tk8 12 rfl ?_; try simp only [lay]
        refine tk8 13 rfl ?_; try simp only [lay]
        refine tk8 14 rfl ?_; try simp only [lay]
        refine wpAnyH_done (by kernel_rfl) ?_ _
        go_wp2
        go_ret
        exact ⟨rfl, hm.trans (by repeat (first | (with_reducible assumption) | (with_reducible exact More.refl _) | (with_reducible refine More.alloc ?_ _) | (with_reducible refine More.more ?_ _ _) | (with_reducible refine More.drewN ?_ _) | (with_reducible refine More.drew ?_)))⟩
      · have hr : ledbatRight b0 b1 b2 b3 b4 b5 = true := by simpa [CR] using hc1.out
        have gw : decide (w1 < 0) = true := by simp; omega
        go_wp2_with fail
        refine (of_3 _).mono ?_
        rintro e w1 ⟨rfl, os2, d2, rfl⟩
        go_wp2_with fail
        have hC := Blk.new ((wq.more os d).more os2 d2) 82 #[.func (.func 50) #[] #[], .func (.func 51) #[] #[], .func (.func 52) #[] #[]]
        obtain ⟨wx, hG22_⟩ : ∃ W, W = (((wq.more os d).more os2 d2).alloc (.cells #[.func (.func 50) #[] #[], .func (.func 51) #[] #[], .func (.func 52) #[] #[]] 82)) := ⟨_, rfl⟩
        have hS : Blk wx (G + 1) 32 #[.int .i64 a0, .int .i64 a1, .int .i64 a2, .int .i64 a3, .int .i64 a4, .int .i64 a5, .int .i64 b0, .int .i64 b1, .int .i64 b2, .int .i64 b3, .int .i64 b4, .int .i64 b5, .int .i64 w0, .int .i64 w1] := (by rw [hG22_]; exact ((hB2.more os d).more os2 d2).alloc _)
        have hmx : More wq wx := (by rw [hG22_]; exact (by repeat (first | (with_reducible assumption) | (with_reducible exact More.refl _) | (with_reducible refine More.alloc ?_ _) | (with_reducible refine More.more ?_ _ _) | (with_reducible refine More.drewN ?_ _) | (with_reducible refine More.drew ?_))))
        have c1 : wx.cell? ⟨((wq.more os d).more os2 d2).heap.size, 1, none⟩ = some (.func (.func 51) #[] #[]) := (by rw [hG22_]; exact hC.cell 1)
        have s0 : wx.cell? ⟨G + 1, 6, none⟩ = some (.int .i64 b0) := hS.cell 6
        have s1 : wx.cell? ⟨G + 1, 7, none⟩ = some (.int .i64 b1) := hS.cell 7
        have s2 : wx.cell? ⟨G + 1, 8, none⟩ = some (.int .i64 b2) := hS.cell 8
        have s3 : wx.cell? ⟨G + 1, 9, none⟩ = some (.int .i64 b3) := hS.cell 9
        have s4 : wx.cell? ⟨G + 1, 10, none⟩ = some (.int .i64 b4) := hS.cell 10
        have s5 : wx.cell? ⟨G + 1, 11, none⟩ = some (.int .i64 b5) := hS.cell 11
        have s6 : wx.cell? ⟨G + 1, 13, none⟩ = some (.int .i64 w1) := hS.cell 13
        have hE : wq.heap.size + (os.size + os2.size) = ((wq.more os d).more os2 d2).heap.size := by simp [Nat.add_assoc]
        rw [hE]
        clear hC hS
        rw [← hG22_]
        clear hG22_
        generalize ((wq.more os d).more os2 d2).heap.size = E at *
        refine wp_region_held_drew (S := (fun w' => w'.cell? ⟨E, 1, none⟩ = some (.func (.func 51) #[] #[]) ∧ w'.cell? ⟨G + 1, 6, none⟩ = some (.int .i64 b0) ∧ w'.cell? ⟨G + 1, 7, none⟩ = some (.int .i64 b1) ∧ w'.cell? ⟨G + 1, 8, none⟩ = some (.int .i64 b2) ∧ w'.cell? ⟨G + 1, 9, none⟩ = some (.int .i64 b3) ∧ w'.cell? ⟨G + 1, 10, none⟩ = some (.int .i64 b4) ∧ w'.cell? ⟨G + 1, 11, none⟩ = some (.int .i64 b5) ∧ w'.cell? ⟨G + 1, 13, none⟩ = some (.int .i64 w1))) (by kernel_rfl) ?_ (fun hHeld => ?_)
        · exact ⟨c1, s0, s1, s2, s3, s4, s5, s6⟩
        refine tk8 0 rfl ?_; try simp only [lay]
        refine tk8 1 rfl ?_; try simp only [lay]
        refine tk8 2 rfl ?_; try simp only [lay]
        refine tk8 3 rfl ?_; try simp only [lay]
        refine tk8 4 rfl ?_; try simp only [lay]
        refine tk8 5 rfl ?_; try simp only [lay]
        refine wpAnyH_ready (rs := [6]) (by kernel_rfl) (by simp) ?_
        refine AllReadyH.cons rfl (fun K hK => ?_) AllReadyH.nil
        go_simp
        refine (ledbat_right _ _ _ _ _ _ _).mono ?_
        rintro e w' ⟨rfl, o, rfl⟩
        rw [hr]
        refine hK.out _ _ ?_ (fun hHeld => ?_)
        · exact by obtain ⟨h0, h1, h2, h3, h4, h5, h6, h7⟩ := hHeld; exact ⟨(World.cell?_alloc_some _ _ _ (Option.isSome_iff_exists.2 ⟨_, h0⟩)).trans h0, (World.cell?_alloc_some _ _ _ (Option.isSome_iff_exists.2 ⟨_, h1⟩)).trans h1, (World.cell?_alloc_some _ _ _ (Option.isSome_iff_exists.2 ⟨_, h2⟩)).trans h2, (World.cell?_alloc_some _ _ _ (Option.isSome_iff_exists.2 ⟨_, h3⟩)).trans h3, (World.cell?_alloc_some _ _ _ (Option.isSome_iff_exists.2 ⟨_, h4⟩)).trans h4, (World.cell?_alloc_some _ _ _ (Option.isSome_iff_exists.2 ⟨_, h5⟩)).trans h5, (World.cell?_alloc_some _ _ _ (Option.isSome_iff_exists.2 ⟨_, h6⟩)).trans h6, (World.cell?_alloc_some _ _ _ (Option.isSome_iff_exists.2 ⟨_, h7⟩)).trans h7⟩
        clear hK K
        try simp only [lay]
        refine tk8 7 rfl ?_; try simp only [lay]
        refine tk8 8 rfl ?_; try simp only [lay]
        refine tk8 9 rfl ?_; try simp only [lay]
        refine tk8 10 rfl ?_; try simp only [lay]
        refine tk8 11 rfl ?_; try simp only [lay]
        refine tk8 12 rfl ?_; try simp only [lay]
        refine tk8 13 rfl ?_; try simp only [lay]
        refine tk8 14 rfl ?_; try simp only [lay]
        refine wpAnyH_done (by kernel_rfl) ?_ _
        go_wp2
        go_ret
        exact ⟨rfl, hm.trans (by repeat (first | (with_reducible assumption) | (with_reducible exact More.refl _) | (with_reducible refine More.alloc ?_ _) | (with_reducible refine More.more ?_ _ _) | (with_reducible refine More.drewN ?_ _) | (with_reducible refine More.drew ?_)))⟩
end Go.Proofs.Ytehlgomjgmabeaa
