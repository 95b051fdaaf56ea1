/- MeanMore: for every input the law returns true. Conditions: none. -/
import Derived.Test.YtnbjcohkkaijaaaMeMoreP
set_option linter.unusedVariables false
set_option linter.unusedSimpArgs false
namespace Go.Proofs.Ytnbjcohkkaijaaa
open Go.RowKit Go.Tide
set_option linter.unusedVariables false
set_option linter.unusedSimpArgs false

set_option maxRecDepth 20000 in
set_option maxHeartbeats 8000000 in
theorem meanMore_walk (a0_0 : Int) (a0_1 : Option Addr) (len0 cap0 : Nat) (z0 : List Int) (a1 : Int) (w : World) (b0_0 : InI64 a0_0) (f0 : IsFlat w a0_1 len0 cap0 3 z0) (r0 : cap0 * 24 ≤ 140737488351232) (b1 : InI64 a1) :
    Calls Try.prog 3 #[.agg #[.int .i64 a0_0, .slice a0_1 len0 cap0], .int .i64 a1] w fun e w' => e = .returned (.bool true) ∧ Below w.heap.size w w' := by
  have hle : len0 ≤ cap0 := by rcases f0 with ⟨_, h1, h2, _⟩ | ⟨_, _, h, _⟩ <;> omega
  have hs := f0.rowC (by omega)
  generalize (fun k j => z0.getD (k * 3 + j) 0) = f at hs
  clear f0
  go_enter Try.func3, Try.ntmps3
  go_wp2_with (refine (mean_alive_more _).mono ?_; rintro e w' ⟨rfl, os0, d0, rfl⟩)
  refine (greatest_all a0_0 _ len0 _ f _ (by repeat (first | (with_reducible assumption) | (with_reducible exact RowC.nil) | (with_reducible apply RowC.drewN) | (with_reducible apply RowC.drew) | (with_reducible apply RowC.more) | (with_reducible apply RowC.alloc))) (by omega)).mono ?_
  rintro e w1 ⟨p, q, er, rfl, HP, os1, d1, rfl⟩
  go_upto_region 4 with fail
  have hFB : Blk ((((w.alloc (.cells #[.int .i64 a0_0, .slice a0_1 len0 cap0] 24)).more os0 d0).more os1 d1).alloc (.cells #[.int .i64 p, .int .i64 q] 27)) ((w.alloc (.cells #[.int .i64 a0_0, .slice a0_1 len0 cap0] 24)).more os0 d0 |>.more os1 d1).heap.size 27 #[.int .i64 p, .int .i64 q] := Blk.new _ _ _
  have hGB : Blk ((((w.alloc (.cells #[.int .i64 a0_0, .slice a0_1 len0 cap0] 24)).more os0 d0).more os1 d1).alloc (.cells #[.int .i64 p, .int .i64 q] 27)) w.heap.size 24 #[.int .i64 a0_0, .slice a0_1 len0 cap0] := (by repeat (first | (with_reducible assumption) | ((with_reducible refine Blk.new' ?_); (simp [Nat.add_assoc]; done)) | (with_reducible refine Blk.alloc ?_ _) | (with_reducible refine Blk.more ?_ _ _) | (with_reducible refine Blk.drew ?_) | (with_reducible refine Blk.drewN ?_ _)))
  have hs1 : RowC ((((w.alloc (.cells #[.int .i64 a0_0, .slice a0_1 len0 cap0] 24)).more os0 d0).more os1 d1).alloc (.cells #[.int .i64 p, .int .i64 q] 27)) 3 a0_1 len0 f := (by repeat (first | (with_reducible assumption) | (with_reducible exact RowC.nil) | (with_reducible apply RowC.drewN) | (with_reducible apply RowC.drew) | (with_reducible apply RowC.more) | (with_reducible apply RowC.alloc)))
  have hs1x : Hid (RowC ((((w.alloc (.cells #[.int .i64 a0_0, .slice a0_1 len0 cap0] 24)).more os0 d0).more os1 d1).alloc (.cells #[.int .i64 p, .int .i64 q] 27)) 3 a0_1 len0 f) := hs1
  have HM1 : Hid (Below w.heap.size w ((((w.alloc (.cells #[.int .i64 a0_0, .slice a0_1 len0 cap0] 24)).more os0 d0).more os1 d1).alloc (.cells #[.int .i64 p, .int .i64 q] 27))) := More.below (by repeat (first | (with_reducible assumption) | (with_reducible exact More.refl _) | (with_reducible refine More.alloc ?_ _) | (with_reducible refine More.more ?_ _ _) | (with_reducible refine More.drewN ?_ _) | (with_reducible refine More.drew ?_)))
  rw [show w.heap.size + (1 + (os0.size + os1.size)) = ((w.alloc (.cells #[.int .i64 a0_0, .slice a0_1 len0 cap0] 24)).more os0 d0 |>.more os1 d1).heap.size by simp; omega]
  generalize ((((w.alloc (.cells #[.int .i64 a0_0, .slice a0_1 len0 cap0] 24)).more os0 d0).more os1 d1).alloc (.cells #[.int .i64 p, .int .i64 q] 27)) = w1 at *
  generalize ((w.alloc (.cells #[.int .i64 a0_0, .slice a0_1 len0 cap0] 24)).more os0 d0 |>.more os1 d1).heap.size = FB at *
  generalize hGe : w.heap.size = G at *
  have HGe := Lib.hid hGe
  clear hGe hs
  have lG1 := hGB.lt
  have lF1 := hFB.lt
  have cG0 : w1.cell? ⟨G, 0, none⟩ = some (.int .i64 a0_0) := hGB.cell 0
  go_cut [7, 8] from 15 (fun s7 s8 wx => ∃ MB TB : Nat, s7 = .pointer (some ⟨MB, 0, none⟩) ∧ s8 = .pointer (some ⟨TB, 0, none⟩) ∧ Blk wx MB 24 #[.int .i64 a0_0, .slice none 0 0] ∧ Blk wx TB 24 #[.int .i64 a0_0, .slice none 0 0] ∧ MB ≠ TB ∧ w1.heap.size ≤ MB ∧ w1.heap.size ≤ TB ∧ Below w1.heap.size w1 wx)
  case first =>
    refine wp_region_held_drew (S := (fun w' => Below w1.heap.size w1 w')) (by kernel_rfl) ?_ (fun hHeld => ?_)
    · exact (Below.refl _ _).drew
    generalize w1.drew = q0 at *
    refine wpAnyH_take (i := 0) (v := ?_) rfl (by kernel_rfl) (by kernel_rfl) (by kernel_rfl) (fun _ _ _ h => h) (Or.inl ⟨by rfl, ?_⟩) (by assumption) ?_
    rotate_left 1
    · intro w' hSw
      have hl0 := (hSw.cell (p := ⟨G, 0, none⟩) lG1).trans cG0
      clear hSw
      go_simp
      try (with_reducible rfl)
    try simp only [List.getElem_toArray, List.getElem_cons_zero, List.getElem_cons_succ, Act.put, List.setIfInBounds_toArray, List.set_cons_zero, List.set_cons_succ]
    refine wpAnyH_take (i := 1) (v := ?_) rfl (by kernel_rfl) (by kernel_rfl) (by kernel_rfl) (fun _ _ _ h => h) (Or.inl ⟨by rfl, ?_⟩) (by assumption) ?_
    rotate_left 1
    · intro w' hSw
      have hl0 := (hSw.cell (p := ⟨G, 0, none⟩) lG1).trans cG0
      clear hSw
      go_simp
      try (with_reducible rfl)
    try simp only [List.getElem_toArray, List.getElem_cons_zero, List.getElem_cons_succ, Act.put, List.setIfInBounds_toArray, List.set_cons_zero, List.set_cons_succ]
    refine wpAnyH_take (i := 2) (v := ?_) rfl (by kernel_rfl) (by kernel_rfl) (by kernel_rfl) (fun _ _ _ h => h) (Or.inl ⟨by rfl, ?_⟩) (by assumption) ?_
    rotate_left 1
    · intro w' hSw
      have hl0 := (hSw.cell (p := ⟨G, 0, none⟩) lG1).trans cG0
      clear hSw
      go_simp
      try (with_reducible rfl)
    try simp only [List.getElem_toArray, List.getElem_cons_zero, List.getElem_cons_succ, Act.put, List.setIfInBounds_toArray, List.set_cons_zero, List.set_cons_succ]
    refine wpAnyH_take (i := 3) (v := ?_) rfl (by kernel_rfl) (by kernel_rfl) (by kernel_rfl) (fun _ _ _ h => h) (Or.inl ⟨by rfl, ?_⟩) (by assumption) ?_
    rotate_left 1
    · intro w' hSw
      have hl0 := (hSw.cell (p := ⟨G, 0, none⟩) lG1).trans cG0
      clear hSw
      go_simp
      try (with_reducible rfl)
    try simp only [List.getElem_toArray, List.getElem_cons_zero, List.getElem_cons_succ, Act.put, List.setIfInBounds_toArray, List.set_cons_zero, List.set_cons_succ]
    refine wpAnyH_take (i := 4) (v := ?_) rfl (by kernel_rfl) (by kernel_rfl) (by kernel_rfl) (fun _ _ _ h => h) (Or.inl ⟨by rfl, ?_⟩) (by assumption) ?_
    rotate_left 1
    · intro w' hSw
      have hl0 := (hSw.cell (p := ⟨G, 0, none⟩) lG1).trans cG0
      clear hSw
      go_simp
      try (with_reducible rfl)
    try simp only [List.getElem_toArray, List.getElem_cons_zero, List.getElem_cons_succ, Act.put, List.setIfInBounds_toArray, List.set_cons_zero, List.set_cons_succ]
    refine wpAnyH_take (i := 5) (v := ?_) rfl (by kernel_rfl) (by kernel_rfl) (by kernel_rfl) (fun _ _ _ h => h) (Or.inl ⟨by rfl, ?_⟩) (by assumption) ?_
    rotate_left 1
    · intro w' hSw
      have hl0 := (hSw.cell (p := ⟨G, 0, none⟩) lG1).trans cG0
      clear hSw
      go_simp
      try (with_reducible rfl)
    try simp only [List.getElem_toArray, List.getElem_cons_zero, List.getElem_cons_succ, Act.put, List.setIfInBounds_toArray, List.set_cons_zero, List.set_cons_succ]
    refine wpAnyH_ready (rs := [6, 7]) (by kernel_rfl) (by simp) ?_
    refine AllReadyH.cons rfl (fun K hK => ?_) (AllReadyH.cons rfl (fun K hK => ?_) AllReadyH.nil)
    · go_simp
      have hMB : Blk (q0.alloc (.cells #[.int .i64 0, .slice none 0 0] 24)) q0.heap.size 24 #[.int .i64 0, .slice none 0 0] := Blk.new _ _ _
      have hh : Below w1.heap.size w1 (q0.alloc (.cells #[.int .i64 0, .slice none 0 0] 24)) := hHeld.alloc hHeld.size _
      have hsMB := hHeld.size
      clear hHeld
      refine hK.out _ _ ?_ (fun hHeld => ?_)
      · exact hh
      clear hK K hh
      try simp only [lay]
      generalize (q0.alloc (.cells #[.int .i64 0, .slice none 0 0] 24)) = q1 at *
      generalize q0.heap.size = MB at *
      refine wpAnyH_ready (rs := [7]) (by kernel_rfl) (by simp) ?_
      refine AllReadyH.cons rfl (fun K hK => ?_) AllReadyH.nil
      go_simp
      have hTB : Blk (q1.alloc (.cells #[.int .i64 0, .slice none 0 0] 24)) q1.heap.size 24 #[.int .i64 0, .slice none 0 0] := Blk.new _ _ _
      have hh : Below w1.heap.size w1 (q1.alloc (.cells #[.int .i64 0, .slice none 0 0] 24)) := hHeld.alloc hHeld.size _
      have hsTB := hHeld.size
      have hne : q1.heap.size ≠ MB := by have := hMB.lt; omega
      replace hMB := hMB.alloc (.cells #[.int .i64 0, .slice none 0 0] 24)
      clear hHeld
      refine hK.out _ _ ?_ (fun hHeld => ?_)
      · exact hh
      clear hK K hh
      try simp only [lay]
      generalize (q1.alloc (.cells #[.int .i64 0, .slice none 0 0] 24)) = q2 at *
      generalize q1.heap.size = TB at *
      refine wpAnyH_ready (rs := [8]) (by kernel_rfl) (by simp) ?_
      refine AllReadyH.cons rfl (fun K hK => ?_) AllReadyH.nil
      rw [if_pos (by rfl)]
      refine wp_store_row _ _ _ rfl MB #[.int .i64 a0_0, .slice none 0 0] rfl rfl 24 #[.int .i64 0, .slice none 0 0] hMB (by kernel_rfl) rfl (by simp [Value.oneCell']) ?_
      have hh : Below w1.heap.size w1 (q2.setRow MB #[.int .i64 a0_0, .slice none 0 0]) := below_setRow' hHeld hsMB _
      have hMB2 : Blk (q2.setRow MB #[.int .i64 a0_0, .slice none 0 0]) MB 24 #[.int .i64 a0_0, .slice none 0 0] := setRow_heap _ _ _ _ _ _ hMB
      replace hTB := blk_setRow (ds := #[.int .i64 a0_0, .slice none 0 0]) hTB (hne)
      clear hHeld hMB
      refine hK.out _ _ ?_ (fun hHeld => ?_)
      · exact hh
      clear hK K hh
      try simp only [lay, Act.put]
      generalize q2.setRow MB #[.int .i64 a0_0, .slice none 0 0] = q2' at *
      have hMB := hMB2
      clear hMB2
      refine wpAnyH_ready (rs := [9]) (by kernel_rfl) (by simp) ?_
      refine AllReadyH.cons rfl (fun K hK => ?_) AllReadyH.nil
      rw [if_pos (by rfl)]
      refine wp_store_row _ _ _ rfl TB #[.int .i64 a0_0, .slice none 0 0] rfl rfl 24 #[.int .i64 0, .slice none 0 0] hTB (by kernel_rfl) rfl (by simp [Value.oneCell']) ?_
      have hh : Below w1.heap.size w1 (q2'.setRow TB #[.int .i64 a0_0, .slice none 0 0]) := below_setRow' hHeld hsTB _
      have hTB2 : Blk (q2'.setRow TB #[.int .i64 a0_0, .slice none 0 0]) TB 24 #[.int .i64 a0_0, .slice none 0 0] := setRow_heap _ _ _ _ _ _ hTB
      replace hMB := blk_setRow (ds := #[.int .i64 a0_0, .slice none 0 0]) hMB (hne.symm)
      clear hHeld hTB
      refine hK.out _ _ ?_ (fun hHeld => ?_)
      · exact hh
      clear hK K hh
      try simp only [lay, Act.put]
      generalize q2'.setRow TB #[.int .i64 a0_0, .slice none 0 0] = q2'' at *
      have hTB := hTB2
      clear hTB2
      refine wpAnyH_done (by kernel_rfl) ?_ _
      go_wp2
      go_meet
      case rel => exact ⟨MB, TB, rfl, rfl, hMB, hTB, hne.symm, hsMB, hsTB, hHeld⟩
    · go_simp
      have hTB : Blk (q0.alloc (.cells #[.int .i64 0, .slice none 0 0] 24)) q0.heap.size 24 #[.int .i64 0, .slice none 0 0] := Blk.new _ _ _
      have hh : Below w1.heap.size w1 (q0.alloc (.cells #[.int .i64 0, .slice none 0 0] 24)) := hHeld.alloc hHeld.size _
      have hsTB := hHeld.size
      clear hHeld
      refine hK.out _ _ ?_ (fun hHeld => ?_)
      · exact hh
      clear hK K hh
      try simp only [lay]
      generalize (q0.alloc (.cells #[.int .i64 0, .slice none 0 0] 24)) = q1 at *
      generalize q0.heap.size = TB at *
      refine wpAnyH_ready (rs := [6]) (by kernel_rfl) (by simp) ?_
      refine AllReadyH.cons rfl (fun K hK => ?_) AllReadyH.nil
      go_simp
      have hMB : Blk (q1.alloc (.cells #[.int .i64 0, .slice none 0 0] 24)) q1.heap.size 24 #[.int .i64 0, .slice none 0 0] := Blk.new _ _ _
      have hh : Below w1.heap.size w1 (q1.alloc (.cells #[.int .i64 0, .slice none 0 0] 24)) := hHeld.alloc hHeld.size _
      have hsMB := hHeld.size
      have hne : q1.heap.size ≠ TB := by have := hTB.lt; omega
      replace hTB := hTB.alloc (.cells #[.int .i64 0, .slice none 0 0] 24)
      clear hHeld
      refine hK.out _ _ ?_ (fun hHeld => ?_)
      · exact hh
      clear hK K hh
      try simp only [lay]
      generalize (q1.alloc (.cells #[.int .i64 0, .slice none 0 0] 24)) = q2 at *
      generalize q1.heap.size = MB at *
      refine wpAnyH_ready (rs := [8]) (by kernel_rfl) (by simp) ?_
      refine AllReadyH.cons rfl (fun K hK => ?_) AllReadyH.nil
      rw [if_pos (by rfl)]
      refine wp_store_row _ _ _ rfl MB #[.int .i64 a0_0, .slice none 0 0] rfl rfl 24 #[.int .i64 0, .slice none 0 0] hMB (by kernel_rfl) rfl (by simp [Value.oneCell']) ?_
      have hh : Below w1.heap.size w1 (q2.setRow MB #[.int .i64 a0_0, .slice none 0 0]) := below_setRow' hHeld hsMB _
      have hMB2 : Blk (q2.setRow MB #[.int .i64 a0_0, .slice none 0 0]) MB 24 #[.int .i64 a0_0, .slice none 0 0] := setRow_heap _ _ _ _ _ _ hMB
      replace hTB := blk_setRow (ds := #[.int .i64 a0_0, .slice none 0 0]) hTB (hne.symm)
      clear hHeld hMB
      refine hK.out _ _ ?_ (fun hHeld => ?_)
      · exact hh
      clear hK K hh
      try simp only [lay, Act.put]
      generalize q2.setRow MB #[.int .i64 a0_0, .slice none 0 0] = q2' at *
      have hMB := hMB2
      clear hMB2
      refine wpAnyH_ready (rs := [9]) (by kernel_rfl) (by simp) ?_
      refine AllReadyH.cons rfl (fun K hK => ?_) AllReadyH.nil
      rw [if_pos (by rfl)]
      refine wp_store_row _ _ _ rfl TB #[.int .i64 a0_0, .slice none 0 0] rfl rfl 24 #[.int .i64 0, .slice none 0 0] hTB (by kernel_rfl) rfl (by simp [Value.oneCell']) ?_
      have hh : Below w1.heap.size w1 (q2'.setRow TB #[.int .i64 a0_0, .slice none 0 0]) := below_setRow' hHeld hsTB _
      have hTB2 : Blk (q2'.setRow TB #[.int .i64 a0_0, .slice none 0 0]) TB 24 #[.int .i64 a0_0, .slice none 0 0] := setRow_heap _ _ _ _ _ _ hTB
      replace hMB := blk_setRow (ds := #[.int .i64 a0_0, .slice none 0 0]) hMB (hne)
      clear hHeld hTB
      refine hK.out _ _ ?_ (fun hHeld => ?_)
      · exact hh
      clear hK K hh
      try simp only [lay, Act.put]
      generalize q2'.setRow TB #[.int .i64 a0_0, .slice none 0 0] = q2'' at *
      have hTB := hTB2
      clear hTB2
      refine wpAnyH_done (by kernel_rfl) ?_ _
      go_wp2
      go_meet
      case rel => exact ⟨MB, TB, rfl, rfl, hMB, hTB, hne, hsMB, hsTB, hHeld⟩
  case rest =>
    obtain ⟨MB, TB, rfl, rfl, hMB, hTB, hne, hsMB, hsTB, hbc⟩ := hcut
    have hFBc := hFB.below hbc lF1
    have hGBc := hGB.below hbc lG1
    have hsc := hs1.below hbc (Nat.le_refl _)
    have HMc : Hid (Below G w wc) := HM1.out.trans (hbc.mono (by omega))
    clear hFB hGB hs1 cG0 hbc
    have lMc := hMB.lt
    have lTc := hTB.lt
    by_cases q1 : 1048576 < a1
    · have d1 : decide (1048576 < a1) = true := by simpa using q1
      go_wp2
      go_ret
      rw [HGe.out]
      exact ⟨rfl, HMc.out⟩
    have d1 : decide (1048576 < a1) = false := by simpa using q1
    by_cases q2 : a1 < -1048576
    · have d2 : decide (a1 < -1048576) = true := by simpa using q2
      go_wp2
      go_ret
      rw [HGe.out]
      exact ⟨rfl, HMc.out⟩
    have d2 : decide (a1 < -1048576) = false := by simpa using q2
    have hby : -1048576 ≤ a1 ∧ a1 ≤ 1048576 := by omega
    have lGc := hGBc.lt
    have cG1 : wc.cell? ⟨G, 1, none⟩ = some (.slice a0_1 len0 cap0) := hGBc.cell 1
    obtain ⟨i0_, hi, hz0, hz1, hz2⟩ := info_parts edgeInfo
    have ho1 : wc.ownsRow wc.heap.size 32 3 (.slice none 0 0) 0 (cellsC 3 0 (affF f 1 a1)) := World.ownsRow_nil _ _ _ _
    have ho2 : wc.ownsRow wc.heap.size 32 3 (.slice none 0 0) 0 (cellsC 3 0 (affF f 2 0)) := World.ownsRow_nil _ _ _ _
    have hap : Hid (apartV (.slice none 0 0) (.slice none 0 0)) := fun g h => by simp [Value.ownBlock] at h
    clear q1 q2
    go_wp2_with fail
    clear cG1
    go_loopw [37] (fun i wr => ∃ (k : Nat) (v1 v2 : Value), i = .int .i64 k ∧ k ≤ len0 ∧ Blk wr MB 24 #[.int .i64 a0_0, v1] ∧ Blk wr TB 24 #[.int .i64 a0_0, v2] ∧ wr.ownsRow wc.heap.size 32 3 v1 k (cellsC 3 k (affF f 1 a1)) ∧ wr.ownsRow wc.heap.size 32 3 v2 k (cellsC 3 k (affF f 2 0)) ∧ Hid (apartV v1 v2) ∧ Off (fun g => g = MB ∨ g = TB) wc wr ∧ Hid (∀ j, j < k → -1048576 ≤ f j 2 ∧ f j 2 ≤ 1048576)) (fun i _ => len0 - (intOf i).toNat)
    case atStart => exact ⟨0, _, _, rfl, Nat.zero_le _, hMB, hTB, ho1, ho2, hap, Off.refl _ _, fun j hj => absurd hj (by omega)⟩
    case round =>
      clear hMB hTB ho1 ho2 hap
      obtain ⟨k, v1, v2, rfl, hk, hMB, hTB, ho1, ho2, hap, hoff, hwt⟩ := hrel
      have hos := hoff.size
      have HBe : Hid (Below G w wr) := HMc.out.trans (hoff.below (B := G) (fun g e => by rcases e with e | e <;> omega) (by omega))
      by_cases hlt : k < len0
      · have t1 : (k : Int) < (len0 : Int) := by omega
        obtain ⟨b, off, x, y, z, hea, hbl, hcx, hcy, hcz, hx, hy, hz⟩ := (rowC_off hsc hoff (fun p hp => by
          obtain ⟨b9, o9, e9, l9, _⟩ := hs1x.out (by omega)
          rw [hp] at e9
          injection e9 with e9
          subst e9
          intro e
          have h9 : b9 = MB ∨ b9 = TB := e
          rcases h9 with h9 | h9 <;> omega)).at3 hlt
        subst hea
        by_cases z1_ : 1048576 < z
        · have d3 : decide (1048576 < z) = true := by simpa using z1_
          have he : er = 2 := by
            rcases HP.out with ⟨_, h⟩ | ⟨h, _⟩
            · exact h
            · have h9 := h.2.2.2 k hlt
              rw [← hz.out] at h9
              omega
          subst he
          go_wp2
          go_ret
          rw [HGe.out]
          exact ⟨rfl, HBe.out.alloc (by have := HMc.out.size; omega) _⟩
        have d3 : decide (1048576 < z) = false := by simpa using z1_
        by_cases z2_ : z < -1048576
        · have d4 : decide (z < -1048576) = true := by simpa using z2_
          have he : er = 2 := by
            rcases HP.out with ⟨_, h⟩ | ⟨h, _⟩
            · exact h
            · have h9 := h.2.2.2 k hlt
              rw [← hz.out] at h9
              omega
          subst he
          go_wp2
          go_ret
          rw [HGe.out]
          exact ⟨rfl, HBe.out.alloc (by have := HMc.out.size; omega) _⟩
        have d4 : decide (z < -1048576) = false := by simpa using z2_
        have ho1_ := ho1
        have ho2_ := ho2
        go_upto_region 12 with fail
        have hE : Blk (wr.alloc (.cells #[.int .i64 x, .int .i64 y, .int .i64 z] 32)) wr.heap.size 32 #[.int .i64 x, .int .i64 y, .int .i64 z] := Blk.new _ _ _
        replace hMB := hMB.alloc (.cells #[.int .i64 x, .int .i64 y, .int .i64 z] 32)
        replace hTB := hTB.alloc (.cells #[.int .i64 x, .int .i64 y, .int .i64 z] 32)
        replace ho1 := ho1.alloc (.cells #[.int .i64 x, .int .i64 y, .int .i64 z] 32)
        replace ho2 := ho2.alloc (.cells #[.int .i64 x, .int .i64 y, .int .i64 z] 32)
        replace hoff := hoff.alloc (.cells #[.int .i64 x, .int .i64 y, .int .i64 z] 32)
        have hE1 : Hid (∀ g, v1.ownBlock = some g → wr.heap.size ≠ g) := fun g e => by have := (own_lt ho1_ e).2; omega
        have hE2 : Hid (∀ g, v2.ownBlock = some g → wr.heap.size ≠ g) := fun g e => by have := (own_lt ho2_ e).2; omega
        clear hcx hcy hcz hbl ho1_ ho2_
        generalize wr.alloc (.cells #[.int .i64 x, .int .i64 y, .int .i64 z] 32) = we at *
        obtain ⟨E, hEe⟩ : ∃ E, Hid (wr.heap.size = E) := ⟨_, rfl⟩
        rw [hEe.out] at hE hE1 hE2 hos ⊢
        have e0 : we.cell? ⟨E, 0, none⟩ = some (.int .i64 x) := hE.cell 0
        have e1 : we.cell? ⟨E, 1, none⟩ = some (.int .i64 y) := hE.cell 1
        have e2 : we.cell? ⟨E, 2, none⟩ = some (.int .i64 z) := hE.cell 2
        have lE := hE.lt
        have m1 : we.cell? ⟨MB, 1, none⟩ = some v1 := hMB.cell 1
        have lM := hMB.lt
        have lT := hTB.lt
        obtain ⟨zb, hzb⟩ : ∃ zb, z + a1 = zb := ⟨_, rfl⟩
        obtain ⟨zt, hzt⟩ : ∃ zt, 2 * z = zt := ⟨_, rfl⟩
        have i1 : IntKind.i64.wrap (z + a1) = zb := by rw [hzb]; exact IntWalk.i64_in _ (by omega)
        have i2 : IntKind.i64.wrap (2 * z) = zt := by rw [hzt]; exact IntWalk.i64_in _ (by omega)
        have HR1 : Hid (cellsC 3 (k + 1) (affF f 1 a1) = cellsC 3 k (affF f 1 a1) ++ [.int .i64 x, .int .i64 y, .int .i64 zb]) := by
          show _ = _
          rw [cellsC_succ, hx.out, hy.out, ← hzb, hz.out]
          show _ ++ [Value.int .i64 (f k 0), .int .i64 (f k 1), .int .i64 (1 * f k 2 + a1)] = _
          rw [Int.one_mul]
        have HR2 : Hid (cellsC 3 (k + 1) (affF f 2 0) = cellsC 3 k (affF f 2 0) ++ [.int .i64 x, .int .i64 y, .int .i64 zt]) := by
          show _ = _
          rw [cellsC_succ, hx.out, hy.out, ← hzt, hz.out]
          show _ ++ [Value.int .i64 (f k 0), .int .i64 (f k 1), .int .i64 (2 * f k 2 + 0)] = _
          rw [Int.add_zero]
        have hwt2 : Hid (∀ j, j < k + 1 → -1048576 ≤ f j 2 ∧ f j 2 ≤ 1048576) := fun j hj => by
          rcases Nat.lt_succ_iff_lt_or_eq.1 hj with h | rfl
          · exact hwt.out j h
          · rw [← hz.out]; omega
        clear hzb hzt
        have hnew1 : ∀ j u, ([.int .i64 x, .int .i64 y, .int .i64 zb] : List Value)[j]? = some u → (we.alloc (.cells #[.int .i64 x, .int .i64 y, .int .i64 zb] 32)).cell? ((⟨we.heap.size, 0, none⟩ : Addr).add j) = some u := (show Blk (we.alloc (.cells #[.int .i64 x, .int .i64 y, .int .i64 zb] 32)) we.heap.size 32 #[.int .i64 x, .int .i64 y, .int .i64 zb] from Blk.new _ _ _).news
        have HNW1 := Lib.hid hnew1
        clear hnew1
        go_upto_region 13 with (at_builtin; refine wpList_append_lies _ rfl (.tmp 52) (.tmp 62) 22 rfl wc.heap.size 32 i0_ (.agg #[.int .i64 0, .int .i64 0, .int .i64 0]) 3 24 Try.underlying22 hi hz0 hz1 hz2 rfl (by omega) v1 k (cellsC 3 k (affF f 1 a1)) rfl (ho1.alloc _) ⟨we.heap.size, 0, none⟩ 1 1 [.int .i64 x, .int .i64 y, .int .i64 zb] rfl rfl HNW1.out (by simp [Value.oneCell']) (by omega) (by simp only [maxLen]; omega) (by omega) (by simp; omega) (we.heap.size + 1) (by simp) ?_; intro g1 c1 w5 hown5 hgrow5 hat5 hlt5; have hMB5 := (hMB.alloc (.cells #[.int .i64 x, .int .i64 y, .int .i64 zb] 32)).grown hgrow5 (fun e => own_ne ho1 lMc e.symm); have m5 : w5.cell? ⟨MB, 1, none⟩ = some v1 := hMB5.cell 1; have mf5 : w5.frozen? ⟨MB, 1, none⟩ = false := hMB5.frozen 1; have lm5 := hMB5.lt)
        have hMB6 : Blk (w5.setCell ⟨MB, 1, none⟩ (.slice (some ⟨g1, 0, none⟩) (k + 1) c1)) MB 24 #[.int .i64 a0_0, .slice (some ⟨g1, 0, none⟩) (k + 1) c1] := hMB5.put 1 _
        have hTB6 : Blk (w5.setCell ⟨MB, 1, none⟩ (.slice (some ⟨g1, 0, none⟩) (k + 1) c1)) TB 24 #[.int .i64 a0_0, v2] := ((hTB.alloc _).grown hgrow5 (fun e => own_ne ho1 lTc e.symm)).far (p := ⟨MB, 1, none⟩) hne.symm _
        have ho16 := own_setCell (b := MB) (i := 1) hown5 lMc (.slice (some ⟨g1, 0, none⟩) (k + 1) c1)
        have ho26 := own_setCell (b := MB) (i := 1) ((ho2.alloc (.cells #[.int .i64 x, .int .i64 y, .int .i64 zb] 32)).kept hgrow5 hap.out.symm.row) lMc (.slice (some ⟨g1, 0, none⟩) (k + 1) c1)
        have hE6 : Blk (w5.setCell ⟨MB, 1, none⟩ (.slice (some ⟨g1, 0, none⟩) (k + 1) c1)) E 32 #[.int .i64 x, .int .i64 y, .int .i64 z] := ((hE.alloc _).grown hgrow5 (fun e => hE1.out E e.symm rfl)).far (p := ⟨MB, 1, none⟩) (by show E ≠ MB; omega) _
        have hoff6 : Off (fun g => g = MB ∨ g = TB) wc (w5.setCell ⟨MB, 1, none⟩ (.slice (some ⟨g1, 0, none⟩) (k + 1) c1)) := (off_then (hoff.alloc (.cells #[.int .i64 x, .int .i64 y, .int .i64 zb] 32)) (Off.of_grown (X := fun g => v1.ownBlock = some g) hgrow5 (fun g e _ => e)) (fun g hg e => absurd (own_base ho1 g e) (by omega))).setCell (p := ⟨MB, 1, none⟩) (fun _ => .inl rfl) _
        have hap6 : Hid (apartV (.slice (some ⟨g1, 0, none⟩) (k + 1) c1) v2) := hap.out.app hat5 (fun g e => by have := (own_lt ho2 e).2; omega)
        have hb6 : wc.heap.size ≤ (w5.setCell ⟨MB, 1, none⟩ (.slice (some ⟨g1, 0, none⟩) (k + 1) c1)).heap.size := hoff6.size
        clear hown5 hgrow5 hat5 hMB5 m5 mf5 lm5 hMB hTB ho1 ho2 hE hoff hap e0 e1 e2 m1 lE lM lT HNW1 hlt5
        generalize w5.setCell ⟨MB, 1, none⟩ (.slice (some ⟨g1, 0, none⟩) (k + 1) c1) = w6 at *
        have e0 : w6.cell? ⟨E, 0, none⟩ = some (.int .i64 x) := hE6.cell 0
        have e1 : w6.cell? ⟨E, 1, none⟩ = some (.int .i64 y) := hE6.cell 1
        have e2 : w6.cell? ⟨E, 2, none⟩ = some (.int .i64 z) := hE6.cell 2
        have lE := hE6.lt
        have m1 : w6.cell? ⟨TB, 1, none⟩ = some v2 := hTB6.cell 1
        have lT := hTB6.lt
        have hnew2 : ∀ j u, ([.int .i64 x, .int .i64 y, .int .i64 zt] : List Value)[j]? = some u → (w6.alloc (.cells #[.int .i64 x, .int .i64 y, .int .i64 zt] 32)).cell? ((⟨w6.heap.size, 0, none⟩ : Addr).add j) = some u := (show Blk (w6.alloc (.cells #[.int .i64 x, .int .i64 y, .int .i64 zt] 32)) w6.heap.size 32 #[.int .i64 x, .int .i64 y, .int .i64 zt] from Blk.new _ _ _).news
        have HNW2 := Lib.hid hnew2
        clear hnew2
        go_upto_region 14 with (at_builtin; refine wpList_append_lies _ rfl (.tmp 66) (.tmp 75) 22 rfl wc.heap.size 32 i0_ (.agg #[.int .i64 0, .int .i64 0, .int .i64 0]) 3 24 Try.underlying22 hi hz0 hz1 hz2 rfl (by omega) v2 k (cellsC 3 k (affF f 2 0)) rfl (ho26.alloc _) ⟨w6.heap.size, 0, none⟩ 1 1 [.int .i64 x, .int .i64 y, .int .i64 zt] rfl rfl HNW2.out (by simp [Value.oneCell']) (by omega) (by simp only [maxLen]; omega) (by omega) (by simp; omega) (w6.heap.size + 1) (by simp) ?_; intro g2 c2 w7 hown7 hgrow7 hat7 hlt7; have hTB7 := (hTB6.alloc (.cells #[.int .i64 x, .int .i64 y, .int .i64 zt] 32)).grown hgrow7 (fun e => own_ne ho26 lTc e.symm); have m7 : w7.cell? ⟨TB, 1, none⟩ = some v2 := hTB7.cell 1; have mf7 : w7.frozen? ⟨TB, 1, none⟩ = false := hTB7.frozen 1; have lm7 := hTB7.lt)
        have hTB8 : Blk (w7.setCell ⟨TB, 1, none⟩ (.slice (some ⟨g2, 0, none⟩) (k + 1) c2)) TB 24 #[.int .i64 a0_0, .slice (some ⟨g2, 0, none⟩) (k + 1) c2] := hTB7.put 1 _
        have hMB8 : Blk (w7.setCell ⟨TB, 1, none⟩ (.slice (some ⟨g2, 0, none⟩) (k + 1) c2)) MB 24 #[.int .i64 a0_0, .slice (some ⟨g1, 0, none⟩) (k + 1) c1] := ((hMB6.alloc _).grown hgrow7 (fun e => own_ne ho26 lMc e.symm)).far (p := ⟨TB, 1, none⟩) hne _
        have ho28 := own_setCell (b := TB) (i := 1) hown7 lTc (.slice (some ⟨g2, 0, none⟩) (k + 1) c2)
        have ho18 := own_setCell (b := TB) (i := 1) ((ho16.alloc (.cells #[.int .i64 x, .int .i64 y, .int .i64 zt] 32)).kept hgrow7 hap6.out.row) lTc (.slice (some ⟨g2, 0, none⟩) (k + 1) c2)
        have hoff8 : Off (fun g => g = MB ∨ g = TB) wc (w7.setCell ⟨TB, 1, none⟩ (.slice (some ⟨g2, 0, none⟩) (k + 1) c2)) := (off_then (hoff6.alloc (.cells #[.int .i64 x, .int .i64 y, .int .i64 zt] 32)) (Off.of_grown (X := fun g => v2.ownBlock = some g) hgrow7 (fun g e _ => e)) (fun g hg e => absurd (own_base ho26 g e) (by omega))).setCell (p := ⟨TB, 1, none⟩) (fun _ => .inr rfl) _
        have hap8 : Hid (apartV (.slice (some ⟨g1, 0, none⟩) (k + 1) c1) (.slice (some ⟨g2, 0, none⟩) (k + 1) c2)) := (hap6.out.symm.app hat7 (fun g e => by have := (own_lt ho16 e).2; omega)).symm
        rw [← HR1.out] at ho18
        rw [← HR2.out] at ho28
        clear hown7 hgrow7 hat7 hTB7 m7 mf7 lm7 hMB6 hTB6 ho16 ho26 hE6 hoff6 hap6 e0 e1 e2 m1 lE lT HNW2 hlt7
        generalize w7.setCell ⟨TB, 1, none⟩ (.slice (some ⟨g2, 0, none⟩) (k + 1) c2) = w8 at *
        go_wp2
        go_roundw
        case rel => exact ⟨k + 1, _, _, by go_num, by omega, hMB8, hTB8, ho18, ho28, hap8, hoff8, hwt2⟩
        case measure => simp [intOf]; omega
      · obtain rfl : len0 = k := by omega
        obtain ⟨l1, c1, hv1, -⟩ := own_sliceC ho1
        obtain ⟨l2, c2, hv2, -⟩ := own_sliceC ho2
        subst hv1
        subst hv2
        have hr1 : RowC wr 3 l1 len0 (affF f 1 a1) := RowC.of_own (by omega) ho1
        have hr2 : RowC wr 3 l2 len0 (affF f 2 0) := RowC.of_own (by omega) ho2
        have hFr : Blk wr FB 27 #[.int .i64 p, .int .i64 q] := hFBc.off hoff (fun e => by have h9 : FB = MB ∨ FB = TB := e; omega)
        have lGr : G < wr.heap.size := by omega
        clear ho1 ho2 hap hoff
        have m0 : wr.cell? ⟨MB, 0, none⟩ = some (.int .i64 a0_0) := hMB.cell 0
        have m1 : wr.cell? ⟨MB, 1, none⟩ = some (.slice l1 len0 c1) := hMB.cell 1
        have m2 : wr.cell? ⟨TB, 0, none⟩ = some (.int .i64 a0_0) := hTB.cell 0
        have m3 : wr.cell? ⟨TB, 1, none⟩ = some (.slice l2 len0 c2) := hTB.cell 1
        have lM := hMB.lt
        have lT := hTB.lt
        by_cases hG1 : GRight a0_0 len0 (affF f 1 a1)
        case neg =>
          have HG1 := Lib.hid hG1
          clear hG1
          go_wp2_with (go_at_call 8; refine (pwrong_any a0_0 l1 len0 c1 (affF f 1 a1) _ hr1 (by omega)).mono ?_; rintro e w' ⟨rfl, os3, d3, rfl⟩; rw [gWrong_bad HG1.out])
          go_ret
          rw [HGe.out]
          exact ⟨rfl, HBe.out.trans (below_more wr os3 d3 G (by omega))⟩
        have HG1 := Lib.hid hG1
        clear hG1
        by_cases hG2 : GRight a0_0 len0 (affF f 2 0)
        case neg =>
          have HG2 := Lib.hid hG2
          clear hG2
          go_wp2_with fail
          refine (pwrong_any a0_0 l1 len0 c1 (affF f 1 a1) _ hr1 (by omega)).mono ?_
          rintro e w' ⟨rfl, os3, d3, rfl⟩
          rw [gWrong_ok HG1.out]
          go_wp2_with fail
          refine (pwrong_any a0_0 l2 len0 c2 (affF f 2 0) _ (by repeat (first | (with_reducible assumption) | (with_reducible exact RowC.nil) | (with_reducible apply RowC.drewN) | (with_reducible apply RowC.drew) | (with_reducible apply RowC.more) | (with_reducible apply RowC.alloc))) (by omega)).mono ?_
          rintro e w' ⟨rfl, os4, d4, rfl⟩
          rw [gWrong_bad HG2.out]
          go_wp2
          go_ret
          rw [HGe.out]
          exact ⟨rfl, (HBe.out.trans (below_more wr os3 d3 G (by omega))).trans (below_more _ os4 d4 G (by simp; omega))⟩
        have HG2 := Lib.hid hG2
        clear hG2
        have HGf : Hid (GRight a0_0 len0 f) := ⟨HG1.out.1, HG1.out.2.1, HG1.out.2.2.1, fun k hk => ⟨(HG1.out.2.2.2 k hk).1, (HG1.out.2.2.2 k hk).2.1, (HG1.out.2.2.2 k hk).2.2.1, (HG1.out.2.2.2 k hk).2.2.2.1, hwt.out k hk⟩⟩
        obtain ⟨N, rfl⟩ : ∃ N : Nat, a0_0 = N := ⟨a0_0.toNat, by have := HGf.out.1; omega⟩
        have hN : N ≤ 300 := by have := HGf.out.2.1; omega
        go_wp2_with fail
        refine (pwrong_any N l1 len0 c1 (affF f 1 a1) _ hr1 (by omega)).mono ?_
        rintro e w' ⟨rfl, os3, d3, rfl⟩
        rw [gWrong_ok HG1.out]
        go_wp2_with fail
        refine (pwrong_any N l2 len0 c2 (affF f 2 0) _ (by repeat (first | (with_reducible assumption) | (with_reducible exact RowC.nil) | (with_reducible apply RowC.drewN) | (with_reducible apply RowC.drew) | (with_reducible apply RowC.more) | (with_reducible apply RowC.alloc))) (by omega)).mono ?_
        rintro e w' ⟨rfl, os4, d4, rfl⟩
        rw [gWrong_ok HG2.out]
        go_upto_region 17 with fail
        have HM4 : Hid (Below G w ((wr.more os3 d3).more os4 d4)) := (HBe.out.trans (below_more wr os3 d3 G (by omega))).trans (below_more _ os4 d4 G (by simp; omega))
        have hMB4 := (hMB.more os3 d3).more os4 d4
        have hTB4 := (hTB.more os3 d3).more os4 d4
        have hF4 := (hFr.more os3 d3).more os4 d4
        have hr14 := (hr1.more os3 d3).more os4 d4
        have hr24 := (hr2.more os3 d3).more os4 d4
        have lG4 : G < ((wr.more os3 d3).more os4 d4).heap.size := by simp; omega
        clear hMB hTB hFr hr1 hr2 m0 m1 m2 m3 lM lT lGr
        generalize (wr.more os3 d3).more os4 d4 = w4 at *
        have m0 : w4.cell? ⟨MB, 0, none⟩ = some (.int .i64 N) := hMB4.cell 0
        have m1 : w4.cell? ⟨MB, 1, none⟩ = some (.slice l1 len0 c1) := hMB4.cell 1
        have lM := hMB4.lt
        go_wp2_with fail
        refine (greatest_one N l1 len0 c1 (affF f 1 a1) _ hr14 HG1.out).mono ?_
        rintro e w5 ⟨p1, q1, er1, rfl, HP1, hm5⟩
        go_upto_region 18 with fail
        have hF1 : Blk (w5.alloc (.cells #[.int .i64 p1, .int .i64 q1] 27)) w5.heap.size 27 #[.int .i64 p1, .int .i64 q1] := Blk.new _ _ _
        have hTB5 := (hTB4.below hm5.below hTB4.lt).alloc (.cells #[.int .i64 p1, .int .i64 q1] 27)
        have hF5 := (hF4.below hm5.below hF4.lt).alloc (.cells #[.int .i64 p1, .int .i64 q1] 27)
        have hr25 := (hr24.below hm5.below (Nat.le_refl _)).alloc (.cells #[.int .i64 p1, .int .i64 q1] 27)
        have HM5 : Hid (Below G w (w5.alloc (.cells #[.int .i64 p1, .int .i64 q1] 27))) := (HM4.out.trans (hm5.below.mono (by omega))).alloc (by have := hm5.below.size; omega) _
        have lG5 : G < (w5.alloc (.cells #[.int .i64 p1, .int .i64 q1] 27)).heap.size := by have := hm5.below.size; simp; omega
        clear hMB4 hTB4 hF4 hr14 hr24 m0 m1 lM hm5 HM4 lG4
        generalize w5.alloc (.cells #[.int .i64 p1, .int .i64 q1] 27) = w6 at *
        generalize w5.heap.size = FM at *
        have m0 : w6.cell? ⟨TB, 0, none⟩ = some (.int .i64 N) := hTB5.cell 0
        have m1 : w6.cell? ⟨TB, 1, none⟩ = some (.slice l2 len0 c2) := hTB5.cell 1
        have lT := hTB5.lt
        go_wp2_with fail
        refine (greatest_one N l2 len0 c2 (affF f 2 0) _ hr25 HG2.out).mono ?_
        rintro e w7 ⟨p2, q2, er2, rfl, HP2, hm7⟩
        go_upto_region 19 with fail
        have hF2 : Blk (w7.alloc (.cells #[.int .i64 p2, .int .i64 q2] 27)) w7.heap.size 27 #[.int .i64 p2, .int .i64 q2] := Blk.new _ _ _
        have hF18 := (hF1.below hm7.below hF1.lt).alloc (.cells #[.int .i64 p2, .int .i64 q2] 27)
        have hF8 := (hF5.below hm7.below hF5.lt).alloc (.cells #[.int .i64 p2, .int .i64 q2] 27)
        have HM8 : Hid (Below G w (w7.alloc (.cells #[.int .i64 p2, .int .i64 q2] 27))) := (HM5.out.trans (hm7.below.mono (by omega))).alloc (by have := hm7.below.size; omega) _
        clear hTB5 hF1 hF5 hr25 m0 m1 lT hm7 HM5 lG5
        generalize w7.alloc (.cells #[.int .i64 p2, .int .i64 q2] 27) = w8 at *
        generalize w7.heap.size = FT at *
        have a0 : w8.cell? ⟨FM, 0, none⟩ = some (.int .i64 p1) := hF18.cell 0
        have a1_ : w8.cell? ⟨FM, 1, none⟩ = some (.int .i64 q1) := hF18.cell 1
        have a2 : w8.cell? ⟨FB, 0, none⟩ = some (.int .i64 p) := hF8.cell 0
        have a3 : w8.cell? ⟨FB, 1, none⟩ = some (.int .i64 q) := hF8.cell 1
        have a4 : w8.cell? ⟨FT, 0, none⟩ = some (.int .i64 p2) := hF2.cell 0
        have a5 : w8.cell? ⟨FT, 1, none⟩ = some (.int .i64 q2) := hF2.cell 1
        have z1 := hF18.lt
        have z2 := hF8.lt
        have z3 := hF2.lt
        have hal1 : (best (affF f 1 a1) len0 N).2 = (best f len0 N).2 := aff_none (.inl rfl) hby HGf.out
        have hal2 : (best (affF f 2 0) len0 N).2 = (best f len0 N).2 := aff_none (.inr rfl) (by omega) HGf.out
        have HGA : Hid (((best f len0 N).2 = 0 ∧ er = 3) ∨ ((best f len0 N).2 ≠ 0 ∧ er = 0 ∧ p = bP f len0 N ∧ q = bQ f len0 N)) := by
          rcases HP.out with ⟨h, _⟩ | ⟨_, h⟩
          · exact absurd HGf.out h
          · rw [Int.toNat_natCast] at h; exact h
        by_cases h0 : (best f len0 N).2 = 0
        · have he : er = 3 := by
            rcases HGA.out with ⟨_, h⟩ | ⟨h, _⟩
            · exact h
            · exact absurd h0 h
          have he1 : er1 = 3 := by
            rcases HP1.out with ⟨_, h, _⟩ | ⟨h, _⟩
            · exact h
            · rw [hal1] at h; exact absurd h0 h
          have he2 : er2 = 3 := by
            rcases HP2.out with ⟨_, h, _⟩ | ⟨h, _⟩
            · exact h
            · rw [hal2] at h; exact absurd h0 h
          subst he he1 he2
          clear HGA HP HP1 HP2 hal1 hal2 h0
          go_wp2
          go_ret
          rw [HGe.out]
          exact ⟨rfl, HM8.out⟩
        · have L1 := aff_law (.inl rfl) hby HGf.out h0
          have L2 := aff_law (al := 2) (be := 0) (.inr rfl) (by omega) HGf.out h0
          have B0 := low_in HGf.out
          have B1 := low_in HG1.out
          have B2 := low_in HG2.out
          obtain ⟨_, _, _, _, C1, C2⟩ := low_facts hN h0
          obtain ⟨_, _, _, _, C3, C4⟩ := low_facts (f := affF f 1 a1) hN (by rw [hal1]; exact h0)
          obtain ⟨_, _, _, _, C5, C6⟩ := low_facts (f := affF f 2 0) hN (by rw [hal2]; exact h0)
          obtain ⟨rfl, rfl, rfl⟩ : er = 0 ∧ p = bP f len0 N ∧ q = bQ f len0 N := by
            rcases HGA.out with ⟨h, _⟩ | ⟨_, h⟩
            · exact absurd h h0
            · exact h
          obtain ⟨rfl, rfl, rfl⟩ : er1 = 0 ∧ p1 = bP (affF f 1 a1) len0 N ∧ q1 = bQ (affF f 1 a1) len0 N := by
            rcases HP1.out with ⟨h, _⟩ | ⟨_, h⟩
            · rw [hal1] at h; exact absurd h h0
            · exact h
          obtain ⟨rfl, rfl, rfl⟩ : er2 = 0 ∧ p2 = bP (affF f 2 0) len0 N ∧ q2 = bQ (affF f 2 0) len0 N := by
            rcases HP2.out with ⟨h, _⟩ | ⟨_, h⟩
            · rw [hal2] at h; exact absurd h h0
            · exact h
          clear HGA HP HP1 HP2 hal1 hal2 h0 hF18 hF8 hF2 hFBc
          generalize bP (affF f 1 a1) len0 N = P1 at *
          generalize bQ (affF f 1 a1) len0 N = Q1 at *
          generalize bP (affF f 2 0) len0 N = P2 at *
          generalize bQ (affF f 2 0) len0 N = Q2 at *
          generalize bP f len0 N = P at *
          generalize bQ f len0 N = Q at *
          rw [Int.one_mul] at L1
          rw [Int.zero_mul, Int.add_zero] at L2
          have M1 := mul_in (d := Q) B1 ⟨by omega, C2⟩
          have M2 := mul_in (a := a1) (d := Q) (by omega) ⟨by omega, C2⟩
          have M2' : -314572800 ≤ a1 * Q ∧ a1 * Q ≤ 314572800 := by
            have h1 : a1 * Q ≤ 1048576 * Q := Int.mul_le_mul_of_nonneg_right hby.2 (by omega)
            have h2 : -1048576 * Q ≤ a1 * Q := Int.mul_le_mul_of_nonneg_right hby.1 (by omega)
            omega
          have M5 := mul_in (d := Q) B2 ⟨by omega, C2⟩
          obtain ⟨k1, hk1⟩ : ∃ k1, P1 * Q = k1 := ⟨_, rfl⟩
          obtain ⟨k2, hk2⟩ : ∃ k2, a1 * Q = k2 := ⟨_, rfl⟩
          obtain ⟨k3, hk3⟩ : ∃ k3, P + k2 = k3 := ⟨_, rfl⟩
          obtain ⟨k5, hk5⟩ : ∃ k5, P2 * Q = k5 := ⟨_, rfl⟩
          obtain ⟨k6, hk6⟩ : ∃ k6, 2 * P = k6 := ⟨_, rfl⟩
          rw [hk1, hk2, hk3] at L1
          rw [hk5, hk6] at L2
          rw [hk1] at M1
          rw [hk2] at M2'
          rw [hk5] at M5
          have i1 : IntKind.i64.wrap (P1 * Q) = k1 := by rw [hk1]; exact IntWalk.i64_in _ (by omega)
          have i2 : IntKind.i64.wrap (a1 * Q) = k2 := by rw [hk2]; exact IntWalk.i64_in _ (by omega)
          have i3 : IntKind.i64.wrap (P + k2) = k3 := by rw [hk3]; exact IntWalk.i64_in _ (by omega)
          have i4 : IntKind.i64.wrap (k3 * Q1) = k1 := by rw [← L1]; exact IntWalk.i64_in _ (by omega)
          have i5 : IntKind.i64.wrap (P2 * Q) = k5 := by rw [hk5]; exact IntWalk.i64_in _ (by omega)
          have i6 : IntKind.i64.wrap (2 * P) = k6 := by rw [hk6]; exact IntWalk.i64_in _ (by omega)
          have i7 : IntKind.i64.wrap (k6 * Q2) = k5 := by rw [← L2]; exact IntWalk.i64_in _ (by omega)
          clear L1 L2 hk1 hk2 hk3 hk5 hk6 M1 M2 M2' M5
          go_wp2
          go_ret
          rw [HGe.out]
          exact ⟨rfl, HM8.out⟩
end Go.Proofs.Ytnbjcohkkaijaaa
