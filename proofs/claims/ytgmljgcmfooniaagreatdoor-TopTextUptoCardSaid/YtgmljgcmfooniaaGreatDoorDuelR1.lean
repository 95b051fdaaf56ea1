/- The duel's states: whether one is right. Conditions: none. -/
import Derived.Test.YtgmljgcmfooniaaGreatDoorSq
import Derived.Test.YtgmljgcmfooniaaGreatDoorDuel
import Derived.Deep.RegionHeld
import Derived.Laws.BitsLemmas
set_option linter.unusedVariables false
set_option linter.unusedSimpArgs false
namespace Go.Proofs.YtgmljgcmfooniaaGreatDoor
open Go.RowKit Go.Tide
set_option linter.unusedVariables false
set_option linter.unusedSimpArgs false
/-- Whether what one of a kind knows is right. -/
def CR (k c0 c1 c2 c3 c4 c5 : Int) : Bool := if k = 1 then vegasRight c0 c1 c2 c3 c4 c5 else if k = 2 then copaRight c0 c1 c2 c3 c4 c5 else ledbatRight c0 c1 c2 c3 c4 c5
set_option maxRecDepth 20000 in
set_option maxHeartbeats 4000000 in
theorem right_ok (k0 k1 rate buf jit : Int) (a0 a1 a2 a3 a4 a5 b0 b1 b2 b3 b4 b5 w0 w1 : Int) (w : World) (hk0 : Hid (dKind k0)) (hk1 : Hid (dKind k1)) (hn : dNums rate buf jit) (hc0 : Hid (CR k0 a0 a1 a2 a3 a4 a5 = true)) (hw0 : 0 ≤ w0) (hc1 : Hid (CR k1 b0 b1 b2 b3 b4 b5 = true)) (hw1 : 0 ≤ w1) (hb : w0 + w1 ≤ buf) :
    Calls Tryz.prog 69 #[.agg #[.int .i64 k0, .int .i64 k1, .int .i64 rate, .int .i64 buf, .int .i64 jit], .agg #[.int .i64 a0, .int .i64 a1, .int .i64 a2, .int .i64 a3, .int .i64 a4, .int .i64 a5, .int .i64 b0, .int .i64 b1, .int .i64 b2, .int .i64 b3, .int .i64 b4, .int .i64 b5, .int .i64 w0, .int .i64 w1]] w fun e w' => e = .returned (.bool true) ∧ More w w' := by
  have hnn := hn
  obtain ⟨n1, n2, n3, n4, n5, n6⟩ := hnn
  have g1 : decide (w0 ≤ buf) = true := by simp; omega
  have g2 : decide (w1 ≤ buf) = true := by simp; omega
  have g3 : decide (w0 + w1 ≤ buf) = true := by simp; omega
  have i1 : IntKind.i64.wrap (w0 + w1) = w0 + w1 := IntWalk.i64_in _ (by omega)
  go_enter Tryz.func69, Tryz.ntmps69
  go_wp2_with fail
  refine (wrong_ok k0 k1 rate buf jit _ hk0 hk1 hn).mono ?_
  rintro e w1 ⟨rfl, os1, d1, rfl⟩
  go_wp2_with fail
  obtain ⟨wq, hG1_⟩ : ∃ W, W = (((w.alloc (.cells #[.int .i64 k0, .int .i64 k1, .int .i64 rate, .int .i64 buf, .int .i64 jit] 32)).alloc (.cells #[.int .i64 a0, .int .i64 a1, .int .i64 a2, .int .i64 a3, .int .i64 a4, .int .i64 a5, .int .i64 b0, .int .i64 b1, .int .i64 b2, .int .i64 b3, .int .i64 b4, .int .i64 b5, .int .i64 w0, .int .i64 w1] 44)).more os1 d1) := ⟨_, rfl⟩
  have hm : More w wq := (by rw [hG1_]; exact (by repeat (first | (with_reducible assumption) | (with_reducible exact More.refl _) | (with_reducible refine More.alloc ?_ _) | (with_reducible refine More.more ?_ _ _) | (with_reducible refine More.drewN ?_ _) | (with_reducible refine More.drew ?_))))
  have hB1 : Blk wq w.heap.size 32 #[.int .i64 k0, .int .i64 k1, .int .i64 rate, .int .i64 buf, .int .i64 jit] := (by rw [hG1_]; exact (by repeat (first | (with_reducible assumption) | ((with_reducible refine Blk.new' ?_); (simp [Nat.add_assoc]; done)) | (with_reducible refine Blk.alloc ?_ _) | (with_reducible refine Blk.more ?_ _ _) | (with_reducible refine Blk.drew ?_) | (with_reducible refine Blk.drewN ?_ _))))
  have hB2 : Blk wq (w.heap.size + 1) 44 #[.int .i64 a0, .int .i64 a1, .int .i64 a2, .int .i64 a3, .int .i64 a4, .int .i64 a5, .int .i64 b0, .int .i64 b1, .int .i64 b2, .int .i64 b3, .int .i64 b4, .int .i64 b5, .int .i64 w0, .int .i64 w1] := (by rw [hG1_]; exact (by repeat (first | (with_reducible assumption) | ((with_reducible refine Blk.new' ?_); (simp [Nat.add_assoc]; done)) | (with_reducible refine Blk.alloc ?_ _) | (with_reducible refine Blk.more ?_ _ _) | (with_reducible refine Blk.drew ?_) | (with_reducible refine Blk.drewN ?_ _))))
  have hl := hB2.lt
  have hlg := hB1.lt
  have r3 : wq.cell? ⟨w.heap.size, 3, none⟩ = some (.int .i64 buf) := hB1.cell 3
  have z0 : wq.cell? ⟨w.heap.size + 1, 12, none⟩ = some (.int .i64 w0) := hB2.cell 12
  have z1 : wq.cell? ⟨w.heap.size + 1, 13, none⟩ = some (.int .i64 w1) := hB2.cell 13
  rw [← hG1_]
  clear hG1_
  generalize w.heap.size = G at *
  go_loopw [14] (fun i wr => ∃ j : Nat, j ≤ 2 ∧ i = .int .i64 j ∧ More wq wr) (fun i _ => 2 - (intOf i).toNat)
  case atStart => exact ⟨0, by omega, rfl, More.refl _⟩
  case round =>
    obtain ⟨j, hj, hi, os, d, rfl⟩ := hrel
    rcases (show j = 0 ∨ j = 1 ∨ j = 2 by omega) with rfl | rfl | rfl
    · have hi : _ = Value.int .i64 0 := hi
      subst hi
      rcases hk0.out with rfl | rfl | rfl
      · have hr : vegasRight a0 a1 a2 a3 a4 a5 = true := by simpa [CR] using hc0.out
        have gw : decide (w0 < 0) = false := by simp; omega
        go_wp2_with fail
        refine (of_1 _).mono ?_
        rintro e w1 ⟨rfl, os2, d2, rfl⟩
        go_wp2_with fail
        have hC := Blk.new ((wq.more os d).more os2 d2) 134 #[.func (.func 94) #[] #[], .func (.func 95) #[] #[], .func (.func 96) #[] #[]]
        obtain ⟨wx, hG2_⟩ : ∃ W, W = (((wq.more os d).more os2 d2).alloc (.cells #[.func (.func 94) #[] #[], .func (.func 95) #[] #[], .func (.func 96) #[] #[]] 134)) := ⟨_, rfl⟩
        have hS : Blk wx (G + 1) 44 #[.int .i64 a0, .int .i64 a1, .int .i64 a2, .int .i64 a3, .int .i64 a4, .int .i64 a5, .int .i64 b0, .int .i64 b1, .int .i64 b2, .int .i64 b3, .int .i64 b4, .int .i64 b5, .int .i64 w0, .int .i64 w1] := (by rw [hG2_]; exact ((hB2.more os d).more os2 d2).alloc _)
        have hmx : More wq wx := (by rw [hG2_]; exact (by repeat (first | (with_reducible assumption) | (with_reducible exact More.refl _) | (with_reducible refine More.alloc ?_ _) | (with_reducible refine More.more ?_ _ _) | (with_reducible refine More.drewN ?_ _) | (with_reducible refine More.drew ?_))))
        have c1 : wx.cell? ⟨((wq.more os d).more os2 d2).heap.size, 1, none⟩ = some (.func (.func 95) #[] #[]) := (by rw [hG2_]; exact hC.cell 1)
        have s0 : wx.cell? ⟨G + 1, 0, none⟩ = some (.int .i64 a0) := hS.cell 0
        have s1 : wx.cell? ⟨G + 1, 1, none⟩ = some (.int .i64 a1) := hS.cell 1
        have s2 : wx.cell? ⟨G + 1, 2, none⟩ = some (.int .i64 a2) := hS.cell 2
        have s3 : wx.cell? ⟨G + 1, 3, none⟩ = some (.int .i64 a3) := hS.cell 3
        have s4 : wx.cell? ⟨G + 1, 4, none⟩ = some (.int .i64 a4) := hS.cell 4
        have s5 : wx.cell? ⟨G + 1, 5, none⟩ = some (.int .i64 a5) := hS.cell 5
        have s6 : wx.cell? ⟨G + 1, 12, none⟩ = some (.int .i64 w0) := hS.cell 12
        have hE : wq.heap.size + (os.size + os2.size) = ((wq.more os d).more os2 d2).heap.size := by simp [Nat.add_assoc]
        rw [hE]
        clear hC hS
        rw [← hG2_]
        clear hG2_
        generalize ((wq.more os d).more os2 d2).heap.size = E at *
        refine wp_region_held_drew (S := (fun w' => w'.cell? ⟨E, 1, none⟩ = some (.func (.func 95) #[] #[]) ∧ w'.cell? ⟨G + 1, 0, none⟩ = some (.int .i64 a0) ∧ w'.cell? ⟨G + 1, 1, none⟩ = some (.int .i64 a1) ∧ w'.cell? ⟨G + 1, 2, none⟩ = some (.int .i64 a2) ∧ w'.cell? ⟨G + 1, 3, none⟩ = some (.int .i64 a3) ∧ w'.cell? ⟨G + 1, 4, none⟩ = some (.int .i64 a4) ∧ w'.cell? ⟨G + 1, 5, none⟩ = some (.int .i64 a5) ∧ w'.cell? ⟨G + 1, 12, none⟩ = some (.int .i64 w0))) (by kernel_rfl) ?_ (fun hHeld => ?_)
        · exact ⟨c1, s0, s1, s2, s3, s4, s5, s6⟩
        refine tk8 0 rfl ?_; try simp only [lay]
        refine tk8 1 rfl ?_; try simp only [lay]
        refine tk8 2 rfl ?_; try simp only [lay]
        refine tk8 3 rfl ?_; try simp only [lay]
        refine tk8 4 rfl ?_; try simp only [lay]
        refine tk8 5 rfl ?_; try simp only [lay]
        refine wpAnyH_ready (rs := [6]) (by kernel_rfl) (by simp) ?_
        refine AllReadyH.cons rfl (fun K hK => ?_) AllReadyH.nil
        go_simp
        refine (vegas_right _ _ _ _ _ _ _).mono ?_
        rintro e w' ⟨rfl, o, rfl⟩
        rw [hr]
        refine hK.out _ _ ?_ (fun hHeld => ?_)
        · exact by obtain ⟨h0, h1, h2, h3, h4, h5, h6, h7⟩ := hHeld; exact ⟨(World.cell?_alloc_some _ _ _ (Option.isSome_iff_exists.2 ⟨_, h0⟩)).trans h0, (World.cell?_alloc_some _ _ _ (Option.isSome_iff_exists.2 ⟨_, h1⟩)).trans h1, (World.cell?_alloc_some _ _ _ (Option.isSome_iff_exists.2 ⟨_, h2⟩)).trans h2, (World.cell?_alloc_some _ _ _ (Option.isSome_iff_exists.2 ⟨_, h3⟩)).trans h3, (World.cell?_alloc_some _ _ _ (Option.isSome_iff_exists.2 ⟨_, h4⟩)).trans h4, (World.cell?_alloc_some _ _ _ (Option.isSome_iff_exists.2 ⟨_, h5⟩)).trans h5, (World.cell?_alloc_some _ _ _ (Option.isSome_iff_exists.2 ⟨_, h6⟩)).trans h6, (World.cell?_alloc_some _ _ _ (Option.isSome_iff_exists.2 ⟨_, h7⟩)).trans h7⟩
        clear hK K
        try simp only [lay]
        refine tk8 7 rfl ?_; try simp only [lay]
        refine tk8 8 rfl ?_; try simp only [lay]
        refine tk8 9 rfl ?_; try simp only [lay]
        refine tk8 10 rfl ?_; try simp only [lay]
        refine tk8 11 rfl ?_; try simp only [lay]
        refine tk8 12 rfl ?_; try simp only [lay]
        refine tk8 13 rfl ?_; try simp only [lay]
        refine tk8 14 rfl ?_; try simp only [lay]
        refine wpAnyH_done (by kernel_rfl) ?_ _
        go_wp2
        go_roundw
        case rel => exact ⟨1, by omega, by go_num, (by repeat (first | (with_reducible assumption) | (with_reducible exact More.refl _) | (with_reducible refine More.alloc ?_ _) | (with_reducible refine More.more ?_ _ _) | (with_reducible refine More.drewN ?_ _) | (with_reducible refine More.drew ?_)))⟩
        case measure => simp [intOf]
      · have hr : copaRight a0 a1 a2 a3 a4 a5 = true := by simpa [CR] using hc0.out
        have gw : decide (w0 < 0) = false := by simp; omega
        go_wp2_with fail
        refine (of_2 _).mono ?_
        rintro e w1 ⟨rfl, os2, d2, rfl⟩
        go_wp2_with fail
        have hC := Blk.new ((wq.more os d).more os2 d2) 134 #[.func (.func 97) #[] #[], .func (.func 98) #[] #[], .func (.func 99) #[] #[]]
        obtain ⟨wx, hG3_⟩ : ∃ W, W = (((wq.more os d).more os2 d2).alloc (.cells #[.func (.func 97) #[] #[], .func (.func 98) #[] #[], .func (.func 99) #[] #[]] 134)) := ⟨_, rfl⟩
        have hS : Blk wx (G + 1) 44 #[.int .i64 a0, .int .i64 a1, .int .i64 a2, .int .i64 a3, .int .i64 a4, .int .i64 a5, .int .i64 b0, .int .i64 b1, .int .i64 b2, .int .i64 b3, .int .i64 b4, .int .i64 b5, .int .i64 w0, .int .i64 w1] := (by rw [hG3_]; exact ((hB2.more os d).more os2 d2).alloc _)
        have hmx : More wq wx := (by rw [hG3_]; exact (by repeat (first | (with_reducible assumption) | (with_reducible exact More.refl _) | (with_reducible refine More.alloc ?_ _) | (with_reducible refine More.more ?_ _ _) | (with_reducible refine More.drewN ?_ _) | (with_reducible refine More.drew ?_))))
        have c1 : wx.cell? ⟨((wq.more os d).more os2 d2).heap.size, 1, none⟩ = some (.func (.func 98) #[] #[]) := (by rw [hG3_]; exact hC.cell 1)
        have s0 : wx.cell? ⟨G + 1, 0, none⟩ = some (.int .i64 a0) := hS.cell 0
        have s1 : wx.cell? ⟨G + 1, 1, none⟩ = some (.int .i64 a1) := hS.cell 1
        have s2 : wx.cell? ⟨G + 1, 2, none⟩ = some (.int .i64 a2) := hS.cell 2
        have s3 : wx.cell? ⟨G + 1, 3, none⟩ = some (.int .i64 a3) := hS.cell 3
        have s4 : wx.cell? ⟨G + 1, 4, none⟩ = some (.int .i64 a4) := hS.cell 4
        have s5 : wx.cell? ⟨G + 1, 5, none⟩ = some (.int .i64 a5) := hS.cell 5
        have s6 : wx.cell? ⟨G + 1, 12, none⟩ = some (.int .i64 w0) := hS.cell 12
        have hE : wq.heap.size + (os.size + os2.size) = ((wq.more os d).more os2 d2).heap.size := by simp [Nat.add_assoc]
        rw [hE]
        clear hC hS
        rw [← hG3_]
        clear hG3_
        generalize ((wq.more os d).more os2 d2).heap.size = E at *
        refine wp_region_held_drew (S := (fun w' => w'.cell? ⟨E, 1, none⟩ = some (.func (.func 98) #[] #[]) ∧ w'.cell? ⟨G + 1, 0, none⟩ = some (.int .i64 a0) ∧ w'.cell? ⟨G + 1, 1, none⟩ = some (.int .i64 a1) ∧ w'.cell? ⟨G + 1, 2, none⟩ = some (.int .i64 a2) ∧ w'.cell? ⟨G + 1, 3, none⟩ = some (.int .i64 a3) ∧ w'.cell? ⟨G + 1, 4, none⟩ = some (.int .i64 a4) ∧ w'.cell? ⟨G + 1, 5, none⟩ = some (.int .i64 a5) ∧ w'.cell? ⟨G + 1, 12, none⟩ = some (.int .i64 w0))) (by kernel_rfl) ?_ (fun hHeld => ?_)
        · exact ⟨c1, s0, s1, s2, s3, s4, s5, s6⟩
        refine tk8 0 rfl ?_; try simp only [lay]
        refine tk8 1 rfl ?_; try simp only [lay]
        refine tk8 2 rfl ?_; try simp only [lay]
        refine tk8 3 rfl ?_; try simp only [lay]
        refine tk8 4 rfl ?_; try simp only [lay]
        refine tk8 5 rfl ?_; try simp only [lay]
        refine wpAnyH_ready (rs := [6]) (by kernel_rfl) (by simp) ?_
        refine AllReadyH.cons rfl (fun K hK => ?_) AllReadyH.nil
        go_simp
        refine (copa_right _ _ _ _ _ _ _).mono ?_
        rintro e w' ⟨rfl, o, rfl⟩
        rw [hr]
        refine hK.out _ _ ?_ (fun hHeld => ?_)
        · exact by obtain ⟨h0, h1, h2, h3, h4, h5, h6, h7⟩ := hHeld; exact ⟨(World.cell?_alloc_some _ _ _ (Option.isSome_iff_exists.2 ⟨_, h0⟩)).trans h0, (World.cell?_alloc_some _ _ _ (Option.isSome_iff_exists.2 ⟨_, h1⟩)).trans h1, (World.cell?_alloc_some _ _ _ (Option.isSome_iff_exists.2 ⟨_, h2⟩)).trans h2, (World.cell?_alloc_some _ _ _ (Option.isSome_iff_exists.2 ⟨_, h3⟩)).trans h3, (World.cell?_alloc_some _ _ _ (Option.isSome_iff_exists.2 ⟨_, h4⟩)).trans h4, (World.cell?_alloc_some _ _ _ (Option.isSome_iff_exists.2 ⟨_, h5⟩)).trans h5, (World.cell?_alloc_some _ _ _ (Option.isSome_iff_exists.2 ⟨_, h6⟩)).trans h6, (World.cell?_alloc_some _ _ _ (Option.isSome_iff_exists.2 ⟨_, h7⟩)).trans h7⟩
        clear hK K
        try simp only [lay]
        refine tk8 7 rfl ?_; try simp only [lay]
        refine tk8 8 rfl ?_; try simp only [lay]
        refine tk8 9 rfl ?_; try simp only [lay]
        refine tk8 10 rfl ?_; try simp only [lay]
        refine tk8 11 rfl ?_; try simp only [lay]
        refine tk8 12 rfl ?_; try simp only [lay]
        refine tk8 13 rfl ?_; try simp only [lay]
        refine tk8 14 rfl ?_; try simp only [lay]
        refine wpAnyH_done (by kernel_rfl) ?_ _
        go_wp2
        go_roundw
        case rel => exact ⟨1, by omega, by go_num, (by repeat (first | (with_reducible assumption) | (with_reducible exact More.refl _) | (with_reducible refine More.alloc ?_ _) | (with_reducible refine More.more ?_ _ _) | (with_reducible refine More.drewN ?_ _) | (with_reducible refine More.drew ?_)))⟩
        case measure => simp [intOf]
      · have hr : ledbatRight a0 a1 a2 a3 a4 a5 = true := by simpa [CR] using hc0.out
        have gw : decide (w0 < 0) = false := by simp; omega
        go_wp2_with fail
        refine (of_3 _).mono ?_
        rintro e w1 ⟨rfl, os2, d2, rfl⟩
        go_wp2_with fail
        have hC := Blk.new ((wq.more os d).more os2 d2) 134 #[.func (.func 100) #[] #[], .func (.func 101) #[] #[], .func (.func 102) #[] #[]]
        obtain ⟨wx, hG4_⟩ : ∃ W, W = (((wq.more os d).more os2 d2).alloc (.cells #[.func (.func 100) #[] #[], .func (.func 101) #[] #[], .func (.func 102) #[] #[]] 134)) := ⟨_, rfl⟩
        have hS : Blk wx (G + 1) 44 #[.int .i64 a0, .int .i64 a1, .int .i64 a2, .int .i64 a3, .int .i64 a4, .int .i64 a5, .int .i64 b0, .int .i64 b1, .int .i64 b2, .int .i64 b3, .int .i64 b4, .int .i64 b5, .int .i64 w0, .int .i64 w1] := (by rw [hG4_]; exact ((hB2.more os d).more os2 d2).alloc _)
        have hmx : More wq wx := (by rw [hG4_]; exact (by repeat (first | (with_reducible assumption) | (with_reducible exact More.refl _) | (with_reducible refine More.alloc ?_ _) | (with_reducible refine More.more ?_ _ _) | (with_reducible refine More.drewN ?_ _) | (with_reducible refine More.drew ?_))))
        have c1 : wx.cell? ⟨((wq.more os d).more os2 d2).heap.size, 1, none⟩ = some (.func (.func 101) #[] #[]) := (by rw [hG4_]; exact hC.cell 1)
        have s0 : wx.cell? ⟨G + 1, 0, none⟩ = some (.int .i64 a0) := hS.cell 0
        have s1 : wx.cell? ⟨G + 1, 1, none⟩ = some (.int .i64 a1) := hS.cell 1
        have s2 : wx.cell? ⟨G + 1, 2, none⟩ = some (.int .i64 a2) := hS.cell 2
        have s3 : wx.cell? ⟨G + 1, 3, none⟩ = some (.int .i64 a3) := hS.cell 3
        have s4 : wx.cell? ⟨G + 1, 4, none⟩ = some (.int .i64 a4) := hS.cell 4
        have s5 : wx.cell? ⟨G + 1, 5, none⟩ = some (.int .i64 a5) := hS.cell 5
        have s6 : wx.cell? ⟨G + 1, 12, none⟩ = some (.int .i64 w0) := hS.cell 12
        have hE : wq.heap.size + (os.size + os2.size) = ((wq.more os d).more os2 d2).heap.size := by simp [Nat.add_assoc]
        rw [hE]
        clear hC hS
        rw [← hG4_]
        clear hG4_
        generalize ((wq.more os d).more os2 d2).heap.size = E at *
        refine wp_region_held_drew (S := (fun w' => w'.cell? ⟨E, 1, none⟩ = some (.func (.func 101) #[] #[]) ∧ w'.cell? ⟨G + 1, 0, none⟩ = some (.int .i64 a0) ∧ w'.cell? ⟨G + 1, 1, none⟩ = some (.int .i64 a1) ∧ w'.cell? ⟨G + 1, 2, none⟩ = some (.int .i64 a2) ∧ w'.cell? ⟨G + 1, 3, none⟩ = some (.int .i64 a3) ∧ w'.cell? ⟨G + 1, 4, none⟩ = some (.int .i64 a4) ∧ w'.cell? ⟨G + 1, 5, none⟩ = some (.int .i64 a5) ∧ w'.cell? ⟨G + 1, 12, none⟩ = some (.int .i64 w0))) (by kernel_rfl) ?_ (fun hHeld => ?_)
        · exact ⟨c1, s0, s1, s2, s3, s4, s5, s6⟩
        refine tk8 0 rfl ?_; try simp only [lay]
        refine tk8 1 rfl ?_; try simp only [lay]
        refine tk8 2 rfl ?_; try simp only [lay]
        refine tk8 3 rfl ?_; try simp only [lay]
        refine tk8 4 rfl ?_; try simp only [lay]
        refine tk8 5 rfl ?_; try simp only [lay]
        refine wpAnyH_ready (rs := [6]) (by kernel_rfl) (by simp) ?_
        refine AllReadyH.cons rfl (fun K hK => ?_) AllReadyH.nil
        go_simp
        refine (ledbat_right _ _ _ _ _ _ _).mono ?_
        rintro e w' ⟨rfl, o, rfl⟩
        rw [hr]
        refine hK.out _ _ ?_ (fun hHeld => ?_)
        · exact by obtain ⟨h0, h1, h2, h3, h4, h5, h6, h7⟩ := hHeld; exact ⟨(World.cell?_alloc_some _ _ _ (Option.isSome_iff_exists.2 ⟨_, h0⟩)).trans h0, (World.cell?_alloc_some _ _ _ (Option.isSome_iff_exists.2 ⟨_, h1⟩)).trans h1, (World.cell?_alloc_some _ _ _ (Option.isSome_iff_exists.2 ⟨_, h2⟩)).trans h2, (World.cell?_alloc_some _ _ _ (Option.isSome_iff_exists.2 ⟨_, h3⟩)).trans h3, (World.cell?_alloc_some _ _ _ (Option.isSome_iff_exists.2 ⟨_, h4⟩)).trans h4, (World.cell?_alloc_some _ _ _ (Option.isSome_iff_exists.2 ⟨_, h5⟩)).trans h5, (World.cell?_alloc_some _ _ _ (Option.isSome_iff_exists.2 ⟨_, h6⟩)).trans h6, (World.cell?_alloc_some _ _ _ (Option.isSome_iff_exists.2 ⟨_, h7⟩)).trans h7⟩
        clear hK K
        try simp only [lay]
        refine tk8 7 rfl ?_; try simp only [lay]
        refine tk8 8 rfl ?_; try simp only [lay]
        refine tk8 9 rfl ?_; try simp only [lay]
        refine tk8 10 rfl ?_; try simp only [lay]
        refine tk8 11 rfl ?_; try simp only [lay]
        refine tk8 12 rfl ?_; try simp only [lay]
        refine tk8 13 rfl ?_; try simp only [lay]
        refine tk8 14 rfl ?_; try simp only [lay]
        refine wpAnyH_done (by kernel_rfl) ?_ _
        go_wp2
        go_roundw
        case rel => exact ⟨1, by omega, by go_num, (by repeat (first | (with_reducible assumption) | (with_reducible exact More.refl _) | (with_reducible refine More.alloc ?_ _) | (with_reducible refine More.more ?_ _ _) | (with_reducible refine More.drewN ?_ _) | (with_reducible refine More.drew ?_)))⟩
        case measure => simp [intOf]
    · have hi : _ = Value.int .i64 1 := hi
      subst hi
      rcases hk1.out with rfl | rfl | rfl
      · have hr : vegasRight b0 b1 b2 b3 b4 b5 = true := by simpa [CR] using hc1.out
        have gw : decide (w1 < 0) = false := by simp; omega
        go_wp2_with fail
        refine (of_1 _).mono ?_
        rintro e w1 ⟨rfl, os2, d2, rfl⟩
        go_wp2_with fail
        have hC := Blk.new ((wq.more os d).more os2 d2) 134 #[.func (.func 94) #[] #[], .func (.func 95) #[] #[], .func (.func 96) #[] #[]]
        obtain ⟨wx, hG5_⟩ : ∃ W, W = (((wq.more os d).more os2 d2).alloc (.cells #[.func (.func 94) #[] #[], .func (.func 95) #[] #[], .func (.func 96) #[] #[]] 134)) := ⟨_, rfl⟩
        have hS : Blk wx (G + 1) 44 #[.int .i64 a0, .int .i64 a1, .int .i64 a2, .int .i64 a3, .int .i64 a4, .int .i64 a5, .int .i64 b0, .int .i64 b1, .int .i64 b2, .int .i64 b3, .int .i64 b4, .int .i64 b5, .int .i64 w0, .int .i64 w1] := (by rw [hG5_]; exact ((hB2.more os d).more os2 d2).alloc _)
        have hmx : More wq wx := (by rw [hG5_]; exact (by repeat (first | (with_reducible assumption) | (with_reducible exact More.refl _) | (with_reducible refine More.alloc ?_ _) | (with_reducible refine More.more ?_ _ _) | (with_reducible refine More.drewN ?_ _) | (with_reducible refine More.drew ?_))))
        have c1 : wx.cell? ⟨((wq.more os d).more os2 d2).heap.size, 1, none⟩ = some (.func (.func 95) #[] #[]) := (by rw [hG5_]; exact hC.cell 1)
        have s0 : wx.cell? ⟨G + 1, 6, none⟩ = some (.int .i64 b0) := hS.cell 6
        have s1 : wx.cell? ⟨G + 1, 7, none⟩ = some (.int .i64 b1) := hS.cell 7
        have s2 : wx.cell? ⟨G + 1, 8, none⟩ = some (.int .i64 b2) := hS.cell 8
        have s3 : wx.cell? ⟨G + 1, 9, none⟩ = some (.int .i64 b3) := hS.cell 9
        have s4 : wx.cell? ⟨G + 1, 10, none⟩ = some (.int .i64 b4) := hS.cell 10
        have s5 : wx.cell? ⟨G + 1, 11, none⟩ = some (.int .i64 b5) := hS.cell 11
        have s6 : wx.cell? ⟨G + 1, 13, none⟩ = some (.int .i64 w1) := hS.cell 13
        have hE : wq.heap.size + (os.size + os2.size) = ((wq.more os d).more os2 d2).heap.size := by simp [Nat.add_assoc]
        rw [hE]
        clear hC hS
        rw [← hG5_]
        clear hG5_
        generalize ((wq.more os d).more os2 d2).heap.size = E at *
        refine wp_region_held_drew (S := (fun w' => w'.cell? ⟨E, 1, none⟩ = some (.func (.func 95) #[] #[]) ∧ w'.cell? ⟨G + 1, 6, none⟩ = some (.int .i64 b0) ∧ w'.cell? ⟨G + 1, 7, none⟩ = some (.int .i64 b1) ∧ w'.cell? ⟨G + 1, 8, none⟩ = some (.int .i64 b2) ∧ w'.cell? ⟨G + 1, 9, none⟩ = some (.int .i64 b3) ∧ w'.cell? ⟨G + 1, 10, none⟩ = some (.int .i64 b4) ∧ w'.cell? ⟨G + 1, 11, none⟩ = some (.int .i64 b5) ∧ w'.cell? ⟨G + 1, 13, none⟩ = some (.int .i64 w1))) (by kernel_rfl) ?_ (fun hHeld => ?_)
        · exact ⟨c1, s0, s1, s2, s3, s4, s5, s6⟩
        refine tk8 0 rfl ?_; try simp only [lay]
        refine tk8 1 rfl ?_; try simp only [lay]
        refine tk8 2 rfl ?_; try simp only [lay]
        refine tk8 3 rfl ?_; try simp only [lay]
        refine tk8 4 rfl ?_; try simp only [lay]
        refine tk8 5 rfl ?_; try simp only [lay]
        refine wpAnyH_ready (rs := [6]) (by kernel_rfl) (by simp) ?_
        refine AllReadyH.cons rfl (fun K hK => ?_) AllReadyH.nil
        go_simp
        refine (vegas_right _ _ _ _ _ _ _).mono ?_
        rintro e w' ⟨rfl, o, rfl⟩
        rw [hr]
        refine hK.out _ _ ?_ (fun hHeld => ?_)
        · exact by obtain ⟨h0, h1, h2, h3, h4, h5, h6, h7⟩ := hHeld; exact ⟨(World.cell?_alloc_some _ _ _ (Option.isSome_iff_exists.2 ⟨_, h0⟩)).trans h0, (World.cell?_alloc_some _ _ _ (Option.isSome_iff_exists.2 ⟨_, h1⟩)).trans h1, (World.cell?_alloc_some _ _ _ (Option.isSome_iff_exists.2 ⟨_, h2⟩)).trans h2, (World.cell?_alloc_some _ _ _ (Option.isSome_iff_exists.2 ⟨_, h3⟩)).trans h3, (World.cell?_alloc_some _ _ _ (Option.isSome_iff_exists.2 ⟨_, h4⟩)).trans h4, (World.cell?_alloc_some _ _ _ (Option.isSome_iff_exists.2 ⟨_, h5⟩)).trans h5, (World.cell?_alloc_some _ _ _ (Option.isSome_iff_exists.2 ⟨_, h6⟩)).trans h6, (World.cell?_alloc_some _ _ _ (Option.isSome_iff_exists.2 ⟨_, h7⟩)).trans h7⟩
        clear hK K
        try simp only [lay]
        refine tk8 7 rfl ?_; try simp only [lay]
        refine tk8 8 rfl ?_; try simp only [lay]
        refine tk8 9 rfl ?_; try simp only [lay]
        refine tk8 10 rfl ?_; try simp only [lay]
        refine tk8 11 rfl ?_; try simp only [lay]
        refine tk8 12 rfl ?_; try simp only [lay]
        refine tk8 13 rfl ?_; try simp only [lay]
        refine tk8 14 rfl ?_; try simp only [lay]
        refine wpAnyH_done (by kernel_rfl) ?_ _
        go_wp2
        go_roundw
        case rel => exact ⟨2, by omega, by go_num, (by repeat (first | (with_reducible assumption) | (with_reducible exact More.refl _) | (with_reducible refine More.alloc ?_ _) | (with_reducible refine More.more ?_ _ _) | (with_reducible refine More.drewN ?_ _) | (with_reducible refine More.drew ?_)))⟩
        case measure => simp [intOf]
      · have hr : copaRight b0 b1 b2 b3 b4 b5 = true := by simpa [CR] using hc1.out
        have gw : decide (w1 < 0) = false := by simp; omega
        go_wp2_with fail
        refine (of_2 _).mono ?_
        rintro e w1 ⟨rfl, os2, d2, rfl⟩
        go_wp2_with fail
        have hC := Blk.new ((wq.more os d).more os2 d2) 134 #[.func (.func 97) #[] #[], .func (.func 98) #[] #[], .func (.func 99) #[] #[]]
        obtain ⟨wx, hG6_⟩ : ∃ W, W = (((wq.more os d).more os2 d2).alloc (.cells #[.func (.func 97) #[] #[], .func (.func 98) #[] #[], .func (.func 99) #[] #[]] 134)) := ⟨_, rfl⟩
        have hS : Blk wx (G + 1) 44 #[.int .i64 a0, .int .i64 a1, .int .i64 a2, .int .i64 a3, .int .i64 a4, .int .i64 a5, .int .i64 b0, .int .i64 b1, .int .i64 b2, .int .i64 b3, .int .i64 b4, .int .i64 b5, .int .i64 w0, .int .i64 w1] := (by rw [hG6_]; exact ((hB2.more os d).more os2 d2).alloc _)
        have hmx : More wq wx := (by rw [hG6_]; exact (by repeat (first | (with_reducible assumption) | (with_reducible exact More.refl _) | (with_reducible refine More.alloc ?_ _) | (with_reducible refine More.more ?_ _ _) | (with_reducible refine More.drewN ?_ _) | (with_reducible refine More.drew ?_))))
        have c1 : wx.cell? ⟨((wq.more os d).more os2 d2).heap.size, 1, none⟩ = some (.func (.func 98) #[] #[]) := (by rw [hG6_]; exact hC.cell 1)
        have s0 : wx.cell? ⟨G + 1, 6, none⟩ = some (.int .i64 b0) := hS.cell 6
        have s1 : wx.cell? ⟨G + 1, 7, none⟩ = some (.int .i64 b1) := hS.cell 7
        have s2 : wx.cell? ⟨G + 1, 8, none⟩ = some (.int .i64 b2) := hS.cell 8
        have s3 : wx.cell? ⟨G + 1, 9, none⟩ = some (.int .i64 b3) := hS.cell 9
        have s4 : wx.cell? ⟨G + 1, 10, none⟩ = some (.int .i64 b4) := hS.cell 10
        have s5 : wx.cell? ⟨G + 1, 11, none⟩ = some (.int .i64 b5) := hS.cell 11
        have s6 : wx.cell? ⟨G + 1, 13, none⟩ = some (.int .i64 w1) := hS.cell 13
        have hE : wq.heap.size + (os.size + os2.size) = ((wq.more os d).more os2 d2).heap.size := by simp [Nat.add_assoc]
        rw [hE]
        clear hC hS
        rw [← hG6_]
        clear hG6_
        generalize ((wq.more os d).more os2 d2).heap.size = E at *
        refine wp_region_held_drew (S := (fun w' => w'.cell? ⟨E, 1, none⟩ = some (.func (.func 98) #[] #[]) ∧ w'.cell? ⟨G + 1, 6, none⟩ = some (.int .i64 b0) ∧ w'.cell? ⟨G + 1, 7, none⟩ = some (.int .i64 b1) ∧ w'.cell? ⟨G + 1, 8, none⟩ = some (.int .i64 b2) ∧ w'.cell? ⟨G + 1, 9, none⟩ = some (.int .i64 b3) ∧ w'.cell? ⟨G + 1, 10, none⟩ = some (.int .i64 b4) ∧ w'.cell? ⟨G + 1, 11, none⟩ = some (.int .i64 b5) ∧ w'.cell? ⟨G + 1, 13, none⟩ = some (.int .i64 w1))) (by kernel_rfl) ?_ (fun hHeld => ?_)
        · exact ⟨c1, s0, s1, s2, s3, s4, s5, s6⟩
        refine tk8 0 rfl ?_; try simp only [lay]
        refine tk8 1 rfl ?_; try simp only [lay]
        refine tk8 2 rfl ?_; try simp only [lay]
        refine tk8 3 rfl ?_; try simp only [lay]
        refine tk8 4 rfl ?_; try simp only [lay]
        refine tk8 5 rfl ?_; try simp only [lay]
        refine wpAnyH_ready (rs := [6]) (by kernel_rfl) (by simp) ?_
        refine AllReadyH.cons rfl (fun K hK => ?_) AllReadyH.nil
        go_simp
        refine (copa_right _ _ _ _ _ _ _).mono ?_
        rintro e w' ⟨rfl, o, rfl⟩
        rw [hr]
        refine hK.out _ _ ?_ (fun hHeld => ?_)
        · exact by obtain ⟨h0, h1, h2, h3, h4, h5, h6, h7⟩ := hHeld; exact ⟨(World.cell?_alloc_some _ _ _ (Option.isSome_iff_exists.2 ⟨_, h0⟩)).trans h0, (World.cell?_alloc_some _ _ _ (Option.isSome_iff_exists.2 ⟨_, h1⟩)).trans h1, (World.cell?_alloc_some _ _ _ (Option.isSome_iff_exists.2 ⟨_, h2⟩)).trans h2, (World.cell?_alloc_some _ _ _ (Option.isSome_iff_exists.2 ⟨_, h3⟩)).trans h3, (World.cell?_alloc_some _ _ _ (Option.isSome_iff_exists.2 ⟨_, h4⟩)).trans h4, (World.cell?_alloc_some _ _ _ (Option.isSome_iff_exists.2 ⟨_, h5⟩)).trans h5, (World.cell?_alloc_some _ _ _ (Option.isSome_iff_exists.2 ⟨_, h6⟩)).trans h6, (World.cell?_alloc_some _ _ _ (Option.isSome_iff_exists.2 ⟨_, h7⟩)).trans h7⟩
        clear hK K
        try simp only [lay]
        refine tk8 7 rfl ?_; try simp only [lay]
        refine tk8 8 rfl ?_; try simp only [lay]
        refine tk8 9 rfl ?_; try simp only [lay]
        refine tk8 10 rfl ?_; try simp only [lay]
        refine tk8 11 rfl ?_; try simp only [lay]
        refine tk8 12 rfl ?_; try simp only [lay]
        refine tk8 13 rfl ?_; try simp only [lay]
        refine tk8 14 rfl ?_; try simp only [lay]
        refine wpAnyH_done (by kernel_rfl) ?_ _
        go_wp2
        go_roundw
        case rel => exact ⟨2, by omega, by go_num, (by repeat (first | (with_reducible assumption) | (with_reducible exact More.refl _) | (with_reducible refine More.alloc ?_ _) | (with_reducible refine More.more ?_ _ _) | (with_reducible refine More.drewN ?_ _) | (with_reducible refine More.drew ?_)))⟩
        case measure => simp [intOf]
      · have hr : ledbatRight b0 b1 b2 b3 b4 b5 = true := by simpa [CR] using hc1.out
        have gw : decide (w1 < 0) = false := by simp; omega
        go_wp2_with fail
        refine (of_3 _).mono ?_
        rintro e w1 ⟨rfl, os2, d2, rfl⟩
        go_wp2_with fail
        have hC := Blk.new ((wq.more os d).more os2 d2) 134 #[.func (.func 100) #[] #[], .func (.func 101) #[] #[], .func (.func 102) #[] #[]]
        obtain ⟨wx, hG7_⟩ : ∃ W, W = (((wq.more os d).more os2 d2).alloc (.cells #[.func (.func 100) #[] #[], .func (.func 101) #[] #[], .func (.func 102) #[] #[]] 134)) := ⟨_, rfl⟩
        have hS : Blk wx (G + 1) 44 #[.int .i64 a0, .int .i64 a1, .int .i64 a2, .int .i64 a3, .int .i64 a4, .int .i64 a5, .int .i64 b0, .int .i64 b1, .int .i64 b2, .int .i64 b3, .int .i64 b4, .int .i64 b5, .int .i64 w0, .int .i64 w1] := (by rw [hG7_]; exact ((hB2.more os d).more os2 d2).alloc _)
        have hmx : More wq wx := (by rw [hG7_]; exact (by repeat (first | (with_reducible assumption) | (with_reducible exact More.refl _) | (with_reducible refine More.alloc ?_ _) | (with_reducible refine More.more ?_ _ _) | (with_reducible refine More.drewN ?_ _) | (with_reducible refine More.drew ?_))))
        have c1 : wx.cell? ⟨((wq.more os d).more os2 d2).heap.size, 1, none⟩ = some (.func (.func 101) #[] #[]) := (by rw [hG7_]; exact hC.cell 1)
        have s0 : wx.cell? ⟨G + 1, 6, none⟩ = some (.int .i64 b0) := hS.cell 6
        have s1 : wx.cell? ⟨G + 1, 7, none⟩ = some (.int .i64 b1) := hS.cell 7
        have s2 : wx.cell? ⟨G + 1, 8, none⟩ = some (.int .i64 b2) := hS.cell 8
        have s3 : wx.cell? ⟨G + 1, 9, none⟩ = some (.int .i64 b3) := hS.cell 9
        have s4 : wx.cell? ⟨G + 1, 10, none⟩ = some (.int .i64 b4) := hS.cell 10
        have s5 : wx.cell? ⟨G + 1, 11, none⟩ = some (.int .i64 b5) := hS.cell 11
        have s6 : wx.cell? ⟨G + 1, 13, none⟩ = some (.int .i64 w1) := hS.cell 13
        have hE : wq.heap.size + (os.size + os2.size) = ((wq.more os d).more os2 d2).heap.size := by simp [Nat.add_assoc]
        rw [hE]
        clear hC hS
        rw [← hG7_]
        clear hG7_
        generalize ((wq.more os d).more os2 d2).heap.size = E at *
        refine wp_region_held_drew (S := (fun w' => w'.cell? ⟨E, 1, none⟩ = some (.func (.func 101) #[] #[]) ∧ w'.cell? ⟨G + 1, 6, none⟩ = some (.int .i64 b0) ∧ w'.cell? ⟨G + 1, 7, none⟩ = some (.int .i64 b1) ∧ w'.cell? ⟨G + 1, 8, none⟩ = some (.int .i64 b2) ∧ w'.cell? ⟨G + 1, 9, none⟩ = some (.int .i64 b3) ∧ w'.cell? ⟨G + 1, 10, none⟩ = some (.int .i64 b4) ∧ w'.cell? ⟨G + 1, 11, none⟩ = some (.int .i64 b5) ∧ w'.cell? ⟨G + 1, 13, none⟩ = some (.int .i64 w1))) (by kernel_rfl) ?_ (fun hHeld => ?_)
        · exact ⟨c1, s0, s1, s2, s3, s4, s5, s6⟩
        refine tk8 0 rfl ?_; try simp only [lay]
        refine tk8 1 rfl ?_; try simp only [lay]
        refine tk8 2 rfl ?_; try simp only [lay]
        refine tk8 3 rfl ?_; try simp only [lay]
        refine tk8 4 rfl ?_; try simp only [lay]
        refine tk8 5 rfl ?_; try simp only [lay]
        refine wpAnyH_ready (rs := [6]) (by kernel_rfl) (by simp) ?_
        refine AllReadyH.cons rfl (fun K hK => ?_) AllReadyH.nil
        go_simp
        refine (ledbat_right _ _ _ _ _ _ _).mono ?_
        rintro e w' ⟨rfl, o, rfl⟩
        rw [hr]
        refine hK.out _ _ ?_ (fun hHeld => ?_)
        · exact by obtain ⟨h0, h1, h2, h3, h4, h5, h6, h7⟩ := hHeld; exact ⟨(World.cell?_alloc_some _ _ _ (Option.isSome_iff_exists.2 ⟨_, h0⟩)).trans h0, (World.cell?_alloc_some _ _ _ (Option.isSome_iff_exists.2 ⟨_, h1⟩)).trans h1, (World.cell?_alloc_some _ _ _ (Option.isSome_iff_exists.2 ⟨_, h2⟩)).trans h2, (World.cell?_alloc_some _ _ _ (Option.isSome_iff_exists.2 ⟨_, h3⟩)).trans h3, (World.cell?_alloc_some _ _ _ (Option.isSome_iff_exists.2 ⟨_, h4⟩)).trans h4, (World.cell?_alloc_some _ _ _ (Option.isSome_iff_exists.2 ⟨_, h5⟩)).trans h5, (World.cell?_alloc_some _ _ _ (Option.isSome_iff_exists.2 ⟨_, h6⟩)).trans h6, (World.cell?_alloc_some _ _ _ (Option.isSome_iff_exists.2 ⟨_, h7⟩)).trans h7⟩
        clear hK K
        try simp only [lay]
        refine tk8 7 rfl ?_; try simp only [lay]
        refine tk8 8 rfl ?_; try simp only [lay]
        refine tk8 9 rfl ?_; try simp only [lay]
        refine tk8 10 rfl ?_; try simp only [lay]
        refine tk8 11 rfl ?_; try simp only [lay]
        refine tk8 12 rfl ?_; try simp only [lay]
        refine tk8 13 rfl ?_; try simp only [lay]
        refine tk8 14 rfl ?_; try simp only [lay]
        refine wpAnyH_done (by kernel_rfl) ?_ _
        go_wp2
        go_roundw
        case rel => exact ⟨2, by omega, by go_num, (by repeat (first | (with_reducible assumption) | (with_reducible exact More.refl _) | (with_reducible refine More.alloc ?_ _) | (with_reducible refine More.more ?_ _ _) | (with_reducible refine More.drewN ?_ _) | (with_reducible refine More.drew ?_)))⟩
        case measure => simp [intOf]
    · have hi : _ = Value.int .i64 2 := hi
      subst hi
      go_wp2
      all_goals
        go_ret
        exact ⟨rfl, hm.trans (by repeat (first | (with_reducible assumption) | (with_reducible exact More.refl _) | (with_reducible refine More.alloc ?_ _) | (with_reducible refine More.more ?_ _ _) | (with_reducible refine More.drewN ?_ _) | (with_reducible refine More.drew ?_)))⟩
end Go.Proofs.YtgmljgcmfooniaaGreatDoor
