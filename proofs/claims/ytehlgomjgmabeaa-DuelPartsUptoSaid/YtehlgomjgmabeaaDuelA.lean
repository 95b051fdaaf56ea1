/- The duel's laws are alive. Conditions: none. -/
import Derived.Test.YtehlgomjgmabeaaDuelY
set_option linter.unusedVariables false
set_option linter.unusedSimpArgs false
namespace Go.Proofs.Ytehlgomjgmabeaa
open Go.RowKit Go.Tide
set_option linter.unusedVariables false
set_option linter.unusedSimpArgs false
theorem mk3 (W : World) : (Instr.makeSlice 25 (.int .i64 3) (.int .i64 3)).run Try.prog W = .ok (.slice (some ⟨W.heap.size, 0, none⟩) 3 3) (W.alloc (.cells #[.int .i64 0, .int .i64 0, .int .i64 0, .int .i64 0, .int .i64 0, .int .i64 0] 22)) := by kernel_rfl
theorem row3 {W : World} {b : Nat} (hB : Blk W b 22 #[.int .i64 0, .int .i64 0, .int .i64 0, .int .i64 0, .int .i64 0, .int .i64 0]) : RowC W 2 (some ⟨b, 0, none⟩) 3 (fun _ _ => 0) := fun _ => ⟨b, 0, rfl, hB.lt, fun k j hk hj => by
  rcases (show k = 0 ∨ k = 1 ∨ k = 2 by omega) with rfl | rfl | rfl <;> rcases (show j = 0 ∨ j = 1 by omega) with rfl | rfl <;> exact hB.cell _⟩
theorem play3 (W : World) (b : Nat) (hB : Blk W b 22 #[.int .i64 0, .int .i64 0, .int .i64 0, .int .i64 0, .int .i64 0, .int .i64 0]) :
    Calls Try.prog 12 #[.agg #[.int .i64 1, .int .i64 1, .int .i64 2, .int .i64 4, .int .i64 0], .slice (some ⟨b, 0, none⟩) 3 3] W fun e w' => ∃ g co os d, e = .returned (.tuple #[.slice (some ⟨g, 0, none⟩) 3 co, .agg #[.int .i64 1, .int .i64 3, .int .i64 0, .int .i64 0, .int .i64 0, .int .i64 0, .int .i64 1, .int .i64 3, .int .i64 0, .int .i64 0, .int .i64 0, .int .i64 0, .int .i64 2, .int .i64 2], .int .i64 0]) ∧ w' = W.more os d ∧
      (W.more os d).cell? ⟨g, 2, none⟩ = some (.int .i64 1) ∧ (W.more os d).cell? ⟨g, 3, none⟩ = some (.int .i64 1) ∧ W.heap.size ≤ g := by
  have hd : dAll ⟨1, 1, 2, 4, 0⟩ (fun _ _ => 0) 3 := fun k _ => ⟨⟨Int.le_refl _, Int.le_refl _⟩, Int.le_refl _, Int.le_refl _⟩
  have hst : dRun ⟨1, 1, 2, 4, 0⟩ (fun _ _ => 0) 3 = ⟨⟨1, 3, 0, 0, 0, 0⟩, ⟨1, 3, 0, 0, 0, 0⟩, 2, 2⟩ := by rfl
  refine (play_ok ⟨1, 1, 2, 4, 0⟩ (some ⟨b, 0, none⟩) 3 3 (fun _ _ => 0) W (row3 hB) (by omega) ⟨.inl rfl, .inl rfl, ⟨by decide, by decide, by decide, by decide, by decide, by decide⟩⟩ hd).mono ?_
  rintro e w' ⟨ao, co, he, hown, hb⟩
  have hrc := RowC.of_own (by omega) hown (by omega)
  obtain ⟨g, off, hao, hg, hc⟩ := hrc
  have hoff : off = 0 ∧ W.heap.size ≤ g := by
    rcases hown.2 with ⟨h, _⟩ | ⟨g', cap, cur, h, h3, _⟩
    · cases h
    · rw [hao] at h
      injection h with h1 h2 h3'
      injection h1 with h1
      injection h1 with h1 h4
      exact ⟨h4, by omega⟩
  obtain ⟨rfl, hco⟩ := hoff
  obtain ⟨os, d, rfl⟩ := More.of_below hb
  rw [hst] at he
  refine ⟨g, co, os, d, by rw [he, hao]; rfl, rfl, ?_, ?_, hco⟩
  · have := hc 0 2 (by omega) (by omega)
    exact this
  · have := hc 0 3 (by omega) (by omega)
    exact this
theorem far14 {w : World} {p : Addr} {u : Value} {O : Nat} {v0 v1 v2 v3 v4 v5 v6 v7 v8 v9 v10 v11 v12 v13 : Value} (h : w.cell? p = some u) (hne : O ≠ p.block) : ((((((((((((((w.setCell ⟨O, 0, none⟩ v0).setCell ⟨O, 1, none⟩ v1).setCell ⟨O, 2, none⟩ v2).setCell ⟨O, 3, none⟩ v3).setCell ⟨O, 4, none⟩ v4).setCell ⟨O, 5, none⟩ v5).setCell ⟨O, 6, none⟩ v6).setCell ⟨O, 7, none⟩ v7).setCell ⟨O, 8, none⟩ v8).setCell ⟨O, 9, none⟩ v9).setCell ⟨O, 10, none⟩ v10).setCell ⟨O, 11, none⟩ v11).setCell ⟨O, 12, none⟩ v12).setCell ⟨O, 13, none⟩ v13).cell? p = some u := by
  rw [World.cell?_setCell_far _ _ _ _ hne, World.cell?_setCell_far _ _ _ _ hne, World.cell?_setCell_far _ _ _ _ hne, World.cell?_setCell_far _ _ _ _ hne, World.cell?_setCell_far _ _ _ _ hne, World.cell?_setCell_far _ _ _ _ hne, World.cell?_setCell_far _ _ _ _ hne, World.cell?_setCell_far _ _ _ _ hne, World.cell?_setCell_far _ _ _ _ hne, World.cell?_setCell_far _ _ _ _ hne, World.cell?_setCell_far _ _ _ _ hne, World.cell?_setCell_far _ _ _ _ hne, World.cell?_setCell_far _ _ _ _ hne, World.cell?_setCell_far _ _ _ _ hne]
  exact h
set_option maxRecDepth 20000 in
set_option maxHeartbeats 3000000 in
theorem duel_alive (w : World) : Calls Try.prog 11 #[] w fun e w' => e = .returned (.bool true) ∧ More w w' := by
  have hdr : dRight 1 1 2 4 0 1 3 0 0 0 0 1 3 0 0 0 0 2 2 := ⟨by decide, by decide, by decide, by decide, by decide⟩
  have HD := Lib.hid hdr
  clear hdr
  go_enter Try.func11, Try.ntmps11
  go_wp2_with fail
  have hB := Blk.new w 24 #[.int .i64 1, .int .i64 1, .int .i64 2, .int .i64 4, .int .i64 0]
  have hm : More w (w.alloc (.cells #[.int .i64 1, .int .i64 1, .int .i64 2, .int .i64 4, .int .i64 0] 24)) := (by repeat (first | (with_reducible assumption) | (with_reducible exact More.refl _) | (with_reducible refine More.alloc ?_ _) | (with_reducible refine More.more ?_ _ _) | (with_reducible refine More.drewN ?_ _) | (with_reducible refine More.drew ?_)))
  have e0 : (w.alloc (.cells #[.int .i64 1, .int .i64 1, .int .i64 2, .int .i64 4, .int .i64 0] 24)).cell? ⟨w.heap.size, 0, none⟩ = some (.int .i64 1) := hB.cell 0
  have e1 : (w.alloc (.cells #[.int .i64 1, .int .i64 1, .int .i64 2, .int .i64 4, .int .i64 0] 24)).cell? ⟨w.heap.size, 1, none⟩ = some (.int .i64 1) := hB.cell 1
  have e2 : (w.alloc (.cells #[.int .i64 1, .int .i64 1, .int .i64 2, .int .i64 4, .int .i64 0] 24)).cell? ⟨w.heap.size, 2, none⟩ = some (.int .i64 2) := hB.cell 2
  have e3 : (w.alloc (.cells #[.int .i64 1, .int .i64 1, .int .i64 2, .int .i64 4, .int .i64 0] 24)).cell? ⟨w.heap.size, 3, none⟩ = some (.int .i64 4) := hB.cell 3
  have e4 : (w.alloc (.cells #[.int .i64 1, .int .i64 1, .int .i64 2, .int .i64 4, .int .i64 0] 24)).cell? ⟨w.heap.size, 4, none⟩ = some (.int .i64 0) := hB.cell 4
  have hGl := hB.lt
  have hB0 := hB
  clear hB
  generalize w.alloc (.cells #[.int .i64 1, .int .i64 1, .int .i64 2, .int .i64 4, .int .i64 0] 24) = wq at *
  generalize w.heap.size = G at *
  refine wp_region_held_drew (S := (fun w' => Blk w' G 24 #[.int .i64 1, .int .i64 1, .int .i64 2, .int .i64 4, .int .i64 0])) (by kernel_rfl) ?_ (fun hHeld => ?_)
  · exact hB0.drew
  refine wpAnyH_take (i := 0) (v := ?_) rfl (by kernel_rfl) (by kernel_rfl) (by kernel_rfl) (fun _ _ _ h => h) (Or.inl ⟨by rfl, ?_⟩) (by assumption) ?_
  rotate_left 1
  · intro w' hSw
    have hl0 : w'.cell? ⟨G, 0, none⟩ = some (.int .i64 1) := Blk.cell (t := 24) (cs := #[.int .i64 1, .int .i64 1, .int .i64 2, .int .i64 4, .int .i64 0]) hSw 0
    have hl1 : w'.cell? ⟨G, 1, none⟩ = some (.int .i64 1) := Blk.cell (t := 24) (cs := #[.int .i64 1, .int .i64 1, .int .i64 2, .int .i64 4, .int .i64 0]) hSw 1
    have hl2 : w'.cell? ⟨G, 2, none⟩ = some (.int .i64 2) := Blk.cell (t := 24) (cs := #[.int .i64 1, .int .i64 1, .int .i64 2, .int .i64 4, .int .i64 0]) hSw 2
    have hl3 : w'.cell? ⟨G, 3, none⟩ = some (.int .i64 4) := Blk.cell (t := 24) (cs := #[.int .i64 1, .int .i64 1, .int .i64 2, .int .i64 4, .int .i64 0]) hSw 3
    have hl4 : w'.cell? ⟨G, 4, none⟩ = some (.int .i64 0) := Blk.cell (t := 24) (cs := #[.int .i64 1, .int .i64 1, .int .i64 2, .int .i64 4, .int .i64 0]) hSw 4
    go_simp
    try (with_reducible rfl)
  try simp only [List.getElem_toArray, List.getElem_cons_zero, List.getElem_cons_succ, Act.put, List.setIfInBounds_toArray, List.set_cons_zero, List.set_cons_succ]
  refine wpAnyH_ready (rs := [1, 7]) (by kernel_rfl) (by simp) ?_
  refine AllReadyH.cons rfl (fun K hK => ?_) (AllReadyH.cons rfl (fun K hK => ?_) AllReadyH.nil)
  ·
    go_simp
    rw [mk3]
    refine hK.out _ _ ?_ (fun hHeld => ?_)
    · exact Blk.alloc hHeld _
    clear hK K
    try simp only [List.getElem_toArray, List.getElem_cons_zero, List.getElem_cons_succ, Act.put, List.setIfInBounds_toArray, List.set_cons_zero, List.set_cons_succ]
    refine wpAnyH_ready (rs := [2, 7]) (by kernel_rfl) (by simp) ?_
    refine AllReadyH.cons rfl (fun K hK => ?_) (AllReadyH.cons rfl (fun K hK => ?_) AllReadyH.nil)
    ·
      go_simp
      refine (play3 _ _ (show Blk (wq.drew.alloc (.cells #[.int .i64 0, .int .i64 0, .int .i64 0, .int .i64 0, .int .i64 0, .int .i64 0] 22)) wq.heap.size 22 #[.int .i64 0, .int .i64 0, .int .i64 0, .int .i64 0, .int .i64 0, .int .i64 0] from Blk.new wq.drew _ _)).mono ?_
      rintro e w' ⟨g, co, os, d, rfl, rfl, hg2, hg3, hgn⟩
      refine hK.out _ _ ?_ (fun hHeld => ?_)
      · exact Blk.more hHeld _ _
      clear hK K
      try simp only [List.getElem_toArray, List.getElem_cons_zero, List.getElem_cons_succ, Act.put, List.setIfInBounds_toArray, List.set_cons_zero, List.set_cons_succ]
      refine wpAnyH_take (i := 3) (v := ?_) rfl (by kernel_rfl) (by kernel_rfl) (by kernel_rfl) (fun _ _ _ h => h) (Or.inl ⟨by rfl, ?_⟩) (by assumption) ?_
      rotate_left 1
      · intro w' hSw
        have hl0 : w'.cell? ⟨G, 0, none⟩ = some (.int .i64 1) := Blk.cell (t := 24) (cs := #[.int .i64 1, .int .i64 1, .int .i64 2, .int .i64 4, .int .i64 0]) hSw 0
        have hl1 : w'.cell? ⟨G, 1, none⟩ = some (.int .i64 1) := Blk.cell (t := 24) (cs := #[.int .i64 1, .int .i64 1, .int .i64 2, .int .i64 4, .int .i64 0]) hSw 1
        have hl2 : w'.cell? ⟨G, 2, none⟩ = some (.int .i64 2) := Blk.cell (t := 24) (cs := #[.int .i64 1, .int .i64 1, .int .i64 2, .int .i64 4, .int .i64 0]) hSw 2
        have hl3 : w'.cell? ⟨G, 3, none⟩ = some (.int .i64 4) := Blk.cell (t := 24) (cs := #[.int .i64 1, .int .i64 1, .int .i64 2, .int .i64 4, .int .i64 0]) hSw 3
        have hl4 : w'.cell? ⟨G, 4, none⟩ = some (.int .i64 0) := Blk.cell (t := 24) (cs := #[.int .i64 1, .int .i64 1, .int .i64 2, .int .i64 4, .int .i64 0]) hSw 4
        go_simp
        try (with_reducible rfl)
      try simp only [List.getElem_toArray, List.getElem_cons_zero, List.getElem_cons_succ, Act.put, List.setIfInBounds_toArray, List.set_cons_zero, List.set_cons_succ]
      refine wpAnyH_take (i := 4) (v := ?_) rfl (by kernel_rfl) (by kernel_rfl) (by kernel_rfl) (fun _ _ _ h => h) (Or.inl ⟨by rfl, ?_⟩) (by assumption) ?_
      rotate_left 1
      · intro w' hSw
        have hl0 : w'.cell? ⟨G, 0, none⟩ = some (.int .i64 1) := Blk.cell (t := 24) (cs := #[.int .i64 1, .int .i64 1, .int .i64 2, .int .i64 4, .int .i64 0]) hSw 0
        have hl1 : w'.cell? ⟨G, 1, none⟩ = some (.int .i64 1) := Blk.cell (t := 24) (cs := #[.int .i64 1, .int .i64 1, .int .i64 2, .int .i64 4, .int .i64 0]) hSw 1
        have hl2 : w'.cell? ⟨G, 2, none⟩ = some (.int .i64 2) := Blk.cell (t := 24) (cs := #[.int .i64 1, .int .i64 1, .int .i64 2, .int .i64 4, .int .i64 0]) hSw 2
        have hl3 : w'.cell? ⟨G, 3, none⟩ = some (.int .i64 4) := Blk.cell (t := 24) (cs := #[.int .i64 1, .int .i64 1, .int .i64 2, .int .i64 4, .int .i64 0]) hSw 3
        have hl4 : w'.cell? ⟨G, 4, none⟩ = some (.int .i64 0) := Blk.cell (t := 24) (cs := #[.int .i64 1, .int .i64 1, .int .i64 2, .int .i64 4, .int .i64 0]) hSw 4
        go_simp
        try (with_reducible rfl)
      try simp only [List.getElem_toArray, List.getElem_cons_zero, List.getElem_cons_succ, Act.put, List.setIfInBounds_toArray, List.set_cons_zero, List.set_cons_succ]
      refine wpAnyH_take (i := 5) (v := ?_) rfl (by kernel_rfl) (by kernel_rfl) (by kernel_rfl) (fun _ _ _ h => h) (Or.inl ⟨by rfl, ?_⟩) (by assumption) ?_
      rotate_left 1
      · intro w' hSw
        have hl0 : w'.cell? ⟨G, 0, none⟩ = some (.int .i64 1) := Blk.cell (t := 24) (cs := #[.int .i64 1, .int .i64 1, .int .i64 2, .int .i64 4, .int .i64 0]) hSw 0
        have hl1 : w'.cell? ⟨G, 1, none⟩ = some (.int .i64 1) := Blk.cell (t := 24) (cs := #[.int .i64 1, .int .i64 1, .int .i64 2, .int .i64 4, .int .i64 0]) hSw 1
        have hl2 : w'.cell? ⟨G, 2, none⟩ = some (.int .i64 2) := Blk.cell (t := 24) (cs := #[.int .i64 1, .int .i64 1, .int .i64 2, .int .i64 4, .int .i64 0]) hSw 2
        have hl3 : w'.cell? ⟨G, 3, none⟩ = some (.int .i64 4) := Blk.cell (t := 24) (cs := #[.int .i64 1, .int .i64 1, .int .i64 2, .int .i64 4, .int .i64 0]) hSw 3
        have hl4 : w'.cell? ⟨G, 4, none⟩ = some (.int .i64 0) := Blk.cell (t := 24) (cs := #[.int .i64 1, .int .i64 1, .int .i64 2, .int .i64 4, .int .i64 0]) hSw 4
        go_simp
        try (with_reducible rfl)
      try simp only [List.getElem_toArray, List.getElem_cons_zero, List.getElem_cons_succ, Act.put, List.setIfInBounds_toArray, List.set_cons_zero, List.set_cons_succ]
      refine wpAnyH_take (i := 6) (v := ?_) rfl (by kernel_rfl) (by kernel_rfl) (by kernel_rfl) (fun _ _ _ h => h) (Or.inl ⟨by rfl, ?_⟩) (by assumption) ?_
      rotate_left 1
      · intro w' hSw
        have hl0 : w'.cell? ⟨G, 0, none⟩ = some (.int .i64 1) := Blk.cell (t := 24) (cs := #[.int .i64 1, .int .i64 1, .int .i64 2, .int .i64 4, .int .i64 0]) hSw 0
        have hl1 : w'.cell? ⟨G, 1, none⟩ = some (.int .i64 1) := Blk.cell (t := 24) (cs := #[.int .i64 1, .int .i64 1, .int .i64 2, .int .i64 4, .int .i64 0]) hSw 1
        have hl2 : w'.cell? ⟨G, 2, none⟩ = some (.int .i64 2) := Blk.cell (t := 24) (cs := #[.int .i64 1, .int .i64 1, .int .i64 2, .int .i64 4, .int .i64 0]) hSw 2
        have hl3 : w'.cell? ⟨G, 3, none⟩ = some (.int .i64 4) := Blk.cell (t := 24) (cs := #[.int .i64 1, .int .i64 1, .int .i64 2, .int .i64 4, .int .i64 0]) hSw 3
        have hl4 : w'.cell? ⟨G, 4, none⟩ = some (.int .i64 0) := Blk.cell (t := 24) (cs := #[.int .i64 1, .int .i64 1, .int .i64 2, .int .i64 4, .int .i64 0]) hSw 4
        go_simp
        try (with_reducible rfl)
      try simp only [List.getElem_toArray, List.getElem_cons_zero, List.getElem_cons_succ, Act.put, List.setIfInBounds_toArray, List.set_cons_zero, List.set_cons_succ]
      refine wpAnyH_ready (rs := [7]) (by kernel_rfl) (by simp) ?_
      refine AllReadyH.cons rfl (fun K hK => ?_) AllReadyH.nil
      go_simp
      refine hK.out _ _ ?_ (fun hHeld => ?_)
      · exact Blk.alloc hHeld _
      clear hK K
      try simp only [List.getElem_toArray, List.getElem_cons_zero, List.getElem_cons_succ, Act.put, List.setIfInBounds_toArray, List.set_cons_zero, List.set_cons_succ]
      refine wpAnyH_take (i := 8) (v := ?_) rfl (by kernel_rfl) (by kernel_rfl) (by kernel_rfl) (fun _ _ _ h => h) (Or.inl ⟨by rfl, ?_⟩) (by assumption) ?_
      rotate_left 1
      · intro w' hSw
        have hl0 : w'.cell? ⟨G, 0, none⟩ = some (.int .i64 1) := Blk.cell (t := 24) (cs := #[.int .i64 1, .int .i64 1, .int .i64 2, .int .i64 4, .int .i64 0]) hSw 0
        have hl1 : w'.cell? ⟨G, 1, none⟩ = some (.int .i64 1) := Blk.cell (t := 24) (cs := #[.int .i64 1, .int .i64 1, .int .i64 2, .int .i64 4, .int .i64 0]) hSw 1
        have hl2 : w'.cell? ⟨G, 2, none⟩ = some (.int .i64 2) := Blk.cell (t := 24) (cs := #[.int .i64 1, .int .i64 1, .int .i64 2, .int .i64 4, .int .i64 0]) hSw 2
        have hl3 : w'.cell? ⟨G, 3, none⟩ = some (.int .i64 4) := Blk.cell (t := 24) (cs := #[.int .i64 1, .int .i64 1, .int .i64 2, .int .i64 4, .int .i64 0]) hSw 3
        have hl4 : w'.cell? ⟨G, 4, none⟩ = some (.int .i64 0) := Blk.cell (t := 24) (cs := #[.int .i64 1, .int .i64 1, .int .i64 2, .int .i64 4, .int .i64 0]) hSw 4
        go_simp
        try (with_reducible rfl)
      try simp only [List.getElem_toArray, List.getElem_cons_zero, List.getElem_cons_succ, Act.put, List.setIfInBounds_toArray, List.set_cons_zero, List.set_cons_succ]
      have hST : Blk (((wq.alloc (.cells #[.int .i64 0, .int .i64 0, .int .i64 0, .int .i64 0, .int .i64 0, .int .i64 0] 22)).more os d).alloc (.cells #[.int .i64 0, .int .i64 0, .int .i64 0, .int .i64 0, .int .i64 0, .int .i64 0, .int .i64 0, .int .i64 0, .int .i64 0, .int .i64 0, .int .i64 0, .int .i64 0, .int .i64 0, .int .i64 0] 32)) (wq.heap.size + (1 + os.size)) 32 #[.int .i64 0, .int .i64 0, .int .i64 0, .int .i64 0, .int .i64 0, .int .i64 0, .int .i64 0, .int .i64 0, .int .i64 0, .int .i64 0, .int .i64 0, .int .i64 0, .int .i64 0, .int .i64 0] := Blk.new' (by simp; omega)
      have hmq : More wq (((wq.alloc (.cells #[.int .i64 0, .int .i64 0, .int .i64 0, .int .i64 0, .int .i64 0, .int .i64 0] 22)).more os d).alloc (.cells #[.int .i64 0, .int .i64 0, .int .i64 0, .int .i64 0, .int .i64 0, .int .i64 0, .int .i64 0, .int .i64 0, .int .i64 0, .int .i64 0, .int .i64 0, .int .i64 0, .int .i64 0, .int .i64 0] 32)) := (by repeat (first | (with_reducible assumption) | (with_reducible exact More.refl _) | (with_reducible refine More.alloc ?_ _) | (with_reducible refine More.more ?_ _ _) | (with_reducible refine More.drewN ?_ _) | (with_reducible refine More.drew ?_)))
      have hc2 : (((wq.alloc (.cells #[.int .i64 0, .int .i64 0, .int .i64 0, .int .i64 0, .int .i64 0, .int .i64 0] 22)).more os d).alloc (.cells #[.int .i64 0, .int .i64 0, .int .i64 0, .int .i64 0, .int .i64 0, .int .i64 0, .int .i64 0, .int .i64 0, .int .i64 0, .int .i64 0, .int .i64 0, .int .i64 0, .int .i64 0, .int .i64 0] 32)).cell? ⟨g, 2, none⟩ = some (.int .i64 1) := (World.cell?_alloc_some _ _ _ (Option.isSome_iff_exists.2 ⟨_, hg2⟩)).trans hg2
      have hc3 : (((wq.alloc (.cells #[.int .i64 0, .int .i64 0, .int .i64 0, .int .i64 0, .int .i64 0, .int .i64 0] 22)).more os d).alloc (.cells #[.int .i64 0, .int .i64 0, .int .i64 0, .int .i64 0, .int .i64 0, .int .i64 0, .int .i64 0, .int .i64 0, .int .i64 0, .int .i64 0, .int .i64 0, .int .i64 0, .int .i64 0, .int .i64 0] 32)).cell? ⟨g, 3, none⟩ = some (.int .i64 1) := (World.cell?_alloc_some _ _ _ (Option.isSome_iff_exists.2 ⟨_, hg3⟩)).trans hg3
      obtain ⟨B0, hBe⟩ : ∃ B0, B0 = wq.heap.size := ⟨_, rfl⟩
      have hle : w.heap.size ≤ B0 := by have := hm.below.size; omega
      have hGB : G < B0 := by omega
      have hGs : B0 ≤ (wq.heap.size + (1 + os.size)) := by omega
      have hgs : g ≠ (wq.heap.size + (1 + os.size)) := by have := World.block_lt_of_cell? _ _ hg2; simp at this; omega
      clear hg2 hg3
      generalize (((wq.alloc (.cells #[.int .i64 0, .int .i64 0, .int .i64 0, .int .i64 0, .int .i64 0, .int .i64 0] 22)).more os d).alloc (.cells #[.int .i64 0, .int .i64 0, .int .i64 0, .int .i64 0, .int .i64 0, .int .i64 0, .int .i64 0, .int .i64 0, .int .i64 0, .int .i64 0, .int .i64 0, .int .i64 0, .int .i64 0, .int .i64 0] 32)) = wx at *
      generalize hSe : (wq.heap.size + (1 + os.size)) = ST at *
      have t0 : wx.cell? ⟨ST, 0, none⟩ = some (.int .i64 0) := hST.cell 0
      have t1 : wx.cell? ⟨ST, 1, none⟩ = some (.int .i64 0) := hST.cell 1
      have t2 : wx.cell? ⟨ST, 2, none⟩ = some (.int .i64 0) := hST.cell 2
      have t3 : wx.cell? ⟨ST, 3, none⟩ = some (.int .i64 0) := hST.cell 3
      have t4 : wx.cell? ⟨ST, 4, none⟩ = some (.int .i64 0) := hST.cell 4
      have t5 : wx.cell? ⟨ST, 5, none⟩ = some (.int .i64 0) := hST.cell 5
      have t6 : wx.cell? ⟨ST, 6, none⟩ = some (.int .i64 0) := hST.cell 6
      have t7 : wx.cell? ⟨ST, 7, none⟩ = some (.int .i64 0) := hST.cell 7
      have t8 : wx.cell? ⟨ST, 8, none⟩ = some (.int .i64 0) := hST.cell 8
      have t9 : wx.cell? ⟨ST, 9, none⟩ = some (.int .i64 0) := hST.cell 9
      have t10 : wx.cell? ⟨ST, 10, none⟩ = some (.int .i64 0) := hST.cell 10
      have t11 : wx.cell? ⟨ST, 11, none⟩ = some (.int .i64 0) := hST.cell 11
      have t12 : wx.cell? ⟨ST, 12, none⟩ = some (.int .i64 0) := hST.cell 12
      have t13 : wx.cell? ⟨ST, 13, none⟩ = some (.int .i64 0) := hST.cell 13
      have u0 : wx.frozen? ⟨ST, 0, none⟩ = false := hST.frozen 0
      have u1 : wx.frozen? ⟨ST, 1, none⟩ = false := hST.frozen 1
      have u2 : wx.frozen? ⟨ST, 2, none⟩ = false := hST.frozen 2
      have u3 : wx.frozen? ⟨ST, 3, none⟩ = false := hST.frozen 3
      have u4 : wx.frozen? ⟨ST, 4, none⟩ = false := hST.frozen 4
      have u5 : wx.frozen? ⟨ST, 5, none⟩ = false := hST.frozen 5
      have u6 : wx.frozen? ⟨ST, 6, none⟩ = false := hST.frozen 6
      have u7 : wx.frozen? ⟨ST, 7, none⟩ = false := hST.frozen 7
      have u8 : wx.frozen? ⟨ST, 8, none⟩ = false := hST.frozen 8
      have u9 : wx.frozen? ⟨ST, 9, none⟩ = false := hST.frozen 9
      have u10 : wx.frozen? ⟨ST, 10, none⟩ = false := hST.frozen 10
      have u11 : wx.frozen? ⟨ST, 11, none⟩ = false := hST.frozen 11
      have u12 : wx.frozen? ⟨ST, 12, none⟩ = false := hST.frozen 12
      have u13 : wx.frozen? ⟨ST, 13, none⟩ = false := hST.frozen 13
      refine wpAnyH_ready (rs := [9]) (by kernel_rfl) (by simp) ?_
      refine AllReadyH.cons rfl (fun K hK => ?_) AllReadyH.nil
      go_simp
      refine hK.out _ _ ?_ (fun hHeld => ?_)
      · exact (Blk.far (Blk.far (Blk.far (Blk.far (Blk.far (Blk.far (Blk.far (Blk.far (Blk.far (Blk.far (Blk.far (Blk.far (Blk.far (Blk.far hHeld (p := ⟨ST, 0, none⟩) (by simp only [ne_eq]; omega) (.int .i64 1)) (p := ⟨ST, 1, none⟩) (by simp only [ne_eq]; omega) (.int .i64 3)) (p := ⟨ST, 2, none⟩) (by simp only [ne_eq]; omega) (.int .i64 0)) (p := ⟨ST, 3, none⟩) (by simp only [ne_eq]; omega) (.int .i64 0)) (p := ⟨ST, 4, none⟩) (by simp only [ne_eq]; omega) (.int .i64 0)) (p := ⟨ST, 5, none⟩) (by simp only [ne_eq]; omega) (.int .i64 0)) (p := ⟨ST, 6, none⟩) (by simp only [ne_eq]; omega) (.int .i64 1)) (p := ⟨ST, 7, none⟩) (by simp only [ne_eq]; omega) (.int .i64 3)) (p := ⟨ST, 8, none⟩) (by simp only [ne_eq]; omega) (.int .i64 0)) (p := ⟨ST, 9, none⟩) (by simp only [ne_eq]; omega) (.int .i64 0)) (p := ⟨ST, 10, none⟩) (by simp only [ne_eq]; omega) (.int .i64 0)) (p := ⟨ST, 11, none⟩) (by simp only [ne_eq]; omega) (.int .i64 0)) (p := ⟨ST, 12, none⟩) (by simp only [ne_eq]; omega) (.int .i64 2)) (p := ⟨ST, 13, none⟩) (by simp only [ne_eq]; omega) (.int .i64 2))
      clear hK K
      try simp only [List.getElem_toArray, List.getElem_cons_zero, List.getElem_cons_succ, Act.put, List.setIfInBounds_toArray, List.set_cons_zero, List.set_cons_succ]
      refine wpAnyH_take (i := 10) (v := ?_) rfl (by kernel_rfl) (by kernel_rfl) (by kernel_rfl) (fun _ _ _ h => h) (Or.inl ⟨by rfl, ?_⟩) (by assumption) ?_
      rotate_left 1
      · intro w' hSw
        have hl0 : w'.cell? ⟨G, 0, none⟩ = some (.int .i64 1) := Blk.cell (t := 24) (cs := #[.int .i64 1, .int .i64 1, .int .i64 2, .int .i64 4, .int .i64 0]) hSw 0
        have hl1 : w'.cell? ⟨G, 1, none⟩ = some (.int .i64 1) := Blk.cell (t := 24) (cs := #[.int .i64 1, .int .i64 1, .int .i64 2, .int .i64 4, .int .i64 0]) hSw 1
        have hl2 : w'.cell? ⟨G, 2, none⟩ = some (.int .i64 2) := Blk.cell (t := 24) (cs := #[.int .i64 1, .int .i64 1, .int .i64 2, .int .i64 4, .int .i64 0]) hSw 2
        have hl3 : w'.cell? ⟨G, 3, none⟩ = some (.int .i64 4) := Blk.cell (t := 24) (cs := #[.int .i64 1, .int .i64 1, .int .i64 2, .int .i64 4, .int .i64 0]) hSw 3
        have hl4 : w'.cell? ⟨G, 4, none⟩ = some (.int .i64 0) := Blk.cell (t := 24) (cs := #[.int .i64 1, .int .i64 1, .int .i64 2, .int .i64 4, .int .i64 0]) hSw 4
        go_simp
        try (with_reducible rfl)
      try simp only [List.getElem_toArray, List.getElem_cons_zero, List.getElem_cons_succ, Act.put, List.setIfInBounds_toArray, List.set_cons_zero, List.set_cons_succ]
      refine wpAnyH_done (by kernel_rfl) ?_ _
      have hSy : Blk ((((((((((((((wx.setCell ⟨ST, 0, none⟩ (.int .i64 1)).setCell ⟨ST, 1, none⟩ (.int .i64 3)).setCell ⟨ST, 2, none⟩ (.int .i64 0)).setCell ⟨ST, 3, none⟩ (.int .i64 0)).setCell ⟨ST, 4, none⟩ (.int .i64 0)).setCell ⟨ST, 5, none⟩ (.int .i64 0)).setCell ⟨ST, 6, none⟩ (.int .i64 1)).setCell ⟨ST, 7, none⟩ (.int .i64 3)).setCell ⟨ST, 8, none⟩ (.int .i64 0)).setCell ⟨ST, 9, none⟩ (.int .i64 0)).setCell ⟨ST, 10, none⟩ (.int .i64 0)).setCell ⟨ST, 11, none⟩ (.int .i64 0)).setCell ⟨ST, 12, none⟩ (.int .i64 2)).setCell ⟨ST, 13, none⟩ (.int .i64 2)) ST 32 #[.int .i64 1, .int .i64 3, .int .i64 0, .int .i64 0, .int .i64 0, .int .i64 0, .int .i64 1, .int .i64 3, .int .i64 0, .int .i64 0, .int .i64 0, .int .i64 0, .int .i64 2, .int .i64 2] := by
        have hh := ((((((((((((((hST.put 0 (.int .i64 1)).put 1 (.int .i64 3)).put 2 (.int .i64 0)).put 3 (.int .i64 0)).put 4 (.int .i64 0)).put 5 (.int .i64 0)).put 6 (.int .i64 1)).put 7 (.int .i64 3)).put 8 (.int .i64 0)).put 9 (.int .i64 0)).put 10 (.int .i64 0)).put 11 (.int .i64 0)).put 12 (.int .i64 2)).put 13 (.int .i64 2))
        simpa only [List.setIfInBounds_toArray, List.set_cons_zero, List.set_cons_succ] using hh
      have hby : Below B0 wx ((((((((((((((wx.setCell ⟨ST, 0, none⟩ (.int .i64 1)).setCell ⟨ST, 1, none⟩ (.int .i64 3)).setCell ⟨ST, 2, none⟩ (.int .i64 0)).setCell ⟨ST, 3, none⟩ (.int .i64 0)).setCell ⟨ST, 4, none⟩ (.int .i64 0)).setCell ⟨ST, 5, none⟩ (.int .i64 0)).setCell ⟨ST, 6, none⟩ (.int .i64 1)).setCell ⟨ST, 7, none⟩ (.int .i64 3)).setCell ⟨ST, 8, none⟩ (.int .i64 0)).setCell ⟨ST, 9, none⟩ (.int .i64 0)).setCell ⟨ST, 10, none⟩ (.int .i64 0)).setCell ⟨ST, 11, none⟩ (.int .i64 0)).setCell ⟨ST, 12, none⟩ (.int .i64 2)).setCell ⟨ST, 13, none⟩ (.int .i64 2)) := (((((((((((((((Below.refl B0 wx).setCell (p := ⟨ST, 0, none⟩) hGs (.int .i64 1)).setCell (p := ⟨ST, 1, none⟩) hGs (.int .i64 3)).setCell (p := ⟨ST, 2, none⟩) hGs (.int .i64 0)).setCell (p := ⟨ST, 3, none⟩) hGs (.int .i64 0)).setCell (p := ⟨ST, 4, none⟩) hGs (.int .i64 0)).setCell (p := ⟨ST, 5, none⟩) hGs (.int .i64 0)).setCell (p := ⟨ST, 6, none⟩) hGs (.int .i64 1)).setCell (p := ⟨ST, 7, none⟩) hGs (.int .i64 3)).setCell (p := ⟨ST, 8, none⟩) hGs (.int .i64 0)).setCell (p := ⟨ST, 9, none⟩) hGs (.int .i64 0)).setCell (p := ⟨ST, 10, none⟩) hGs (.int .i64 0)).setCell (p := ⟨ST, 11, none⟩) hGs (.int .i64 0)).setCell (p := ⟨ST, 12, none⟩) hGs (.int .i64 2)).setCell (p := ⟨ST, 13, none⟩) hGs (.int .i64 2))
      have d2 : ((((((((((((((wx.setCell ⟨ST, 0, none⟩ (.int .i64 1)).setCell ⟨ST, 1, none⟩ (.int .i64 3)).setCell ⟨ST, 2, none⟩ (.int .i64 0)).setCell ⟨ST, 3, none⟩ (.int .i64 0)).setCell ⟨ST, 4, none⟩ (.int .i64 0)).setCell ⟨ST, 5, none⟩ (.int .i64 0)).setCell ⟨ST, 6, none⟩ (.int .i64 1)).setCell ⟨ST, 7, none⟩ (.int .i64 3)).setCell ⟨ST, 8, none⟩ (.int .i64 0)).setCell ⟨ST, 9, none⟩ (.int .i64 0)).setCell ⟨ST, 10, none⟩ (.int .i64 0)).setCell ⟨ST, 11, none⟩ (.int .i64 0)).setCell ⟨ST, 12, none⟩ (.int .i64 2)).setCell ⟨ST, 13, none⟩ (.int .i64 2)).cell? ⟨g, 2, none⟩ = some (.int .i64 1) := far14 hc2 (Ne.symm hgs)
      have d3 : ((((((((((((((wx.setCell ⟨ST, 0, none⟩ (.int .i64 1)).setCell ⟨ST, 1, none⟩ (.int .i64 3)).setCell ⟨ST, 2, none⟩ (.int .i64 0)).setCell ⟨ST, 3, none⟩ (.int .i64 0)).setCell ⟨ST, 4, none⟩ (.int .i64 0)).setCell ⟨ST, 5, none⟩ (.int .i64 0)).setCell ⟨ST, 6, none⟩ (.int .i64 1)).setCell ⟨ST, 7, none⟩ (.int .i64 3)).setCell ⟨ST, 8, none⟩ (.int .i64 0)).setCell ⟨ST, 9, none⟩ (.int .i64 0)).setCell ⟨ST, 10, none⟩ (.int .i64 0)).setCell ⟨ST, 11, none⟩ (.int .i64 0)).setCell ⟨ST, 12, none⟩ (.int .i64 2)).setCell ⟨ST, 13, none⟩ (.int .i64 2)).cell? ⟨g, 3, none⟩ = some (.int .i64 1) := far14 hc3 (Ne.symm hgs)
      have f0 : ((((((((((((((wx.setCell ⟨ST, 0, none⟩ (.int .i64 1)).setCell ⟨ST, 1, none⟩ (.int .i64 3)).setCell ⟨ST, 2, none⟩ (.int .i64 0)).setCell ⟨ST, 3, none⟩ (.int .i64 0)).setCell ⟨ST, 4, none⟩ (.int .i64 0)).setCell ⟨ST, 5, none⟩ (.int .i64 0)).setCell ⟨ST, 6, none⟩ (.int .i64 1)).setCell ⟨ST, 7, none⟩ (.int .i64 3)).setCell ⟨ST, 8, none⟩ (.int .i64 0)).setCell ⟨ST, 9, none⟩ (.int .i64 0)).setCell ⟨ST, 10, none⟩ (.int .i64 0)).setCell ⟨ST, 11, none⟩ (.int .i64 0)).setCell ⟨ST, 12, none⟩ (.int .i64 2)).setCell ⟨ST, 13, none⟩ (.int .i64 2)).cell? ⟨G, 0, none⟩ = some (.int .i64 1) := Blk.cell hHeld 0
      have f1 : ((((((((((((((wx.setCell ⟨ST, 0, none⟩ (.int .i64 1)).setCell ⟨ST, 1, none⟩ (.int .i64 3)).setCell ⟨ST, 2, none⟩ (.int .i64 0)).setCell ⟨ST, 3, none⟩ (.int .i64 0)).setCell ⟨ST, 4, none⟩ (.int .i64 0)).setCell ⟨ST, 5, none⟩ (.int .i64 0)).setCell ⟨ST, 6, none⟩ (.int .i64 1)).setCell ⟨ST, 7, none⟩ (.int .i64 3)).setCell ⟨ST, 8, none⟩ (.int .i64 0)).setCell ⟨ST, 9, none⟩ (.int .i64 0)).setCell ⟨ST, 10, none⟩ (.int .i64 0)).setCell ⟨ST, 11, none⟩ (.int .i64 0)).setCell ⟨ST, 12, none⟩ (.int .i64 2)).setCell ⟨ST, 13, none⟩ (.int .i64 2)).cell? ⟨G, 1, none⟩ = some (.int .i64 1) := Blk.cell hHeld 1
      have f2 : ((((((((((((((wx.setCell ⟨ST, 0, none⟩ (.int .i64 1)).setCell ⟨ST, 1, none⟩ (.int .i64 3)).setCell ⟨ST, 2, none⟩ (.int .i64 0)).setCell ⟨ST, 3, none⟩ (.int .i64 0)).setCell ⟨ST, 4, none⟩ (.int .i64 0)).setCell ⟨ST, 5, none⟩ (.int .i64 0)).setCell ⟨ST, 6, none⟩ (.int .i64 1)).setCell ⟨ST, 7, none⟩ (.int .i64 3)).setCell ⟨ST, 8, none⟩ (.int .i64 0)).setCell ⟨ST, 9, none⟩ (.int .i64 0)).setCell ⟨ST, 10, none⟩ (.int .i64 0)).setCell ⟨ST, 11, none⟩ (.int .i64 0)).setCell ⟨ST, 12, none⟩ (.int .i64 2)).setCell ⟨ST, 13, none⟩ (.int .i64 2)).cell? ⟨G, 2, none⟩ = some (.int .i64 2) := Blk.cell hHeld 2
      have f3 : ((((((((((((((wx.setCell ⟨ST, 0, none⟩ (.int .i64 1)).setCell ⟨ST, 1, none⟩ (.int .i64 3)).setCell ⟨ST, 2, none⟩ (.int .i64 0)).setCell ⟨ST, 3, none⟩ (.int .i64 0)).setCell ⟨ST, 4, none⟩ (.int .i64 0)).setCell ⟨ST, 5, none⟩ (.int .i64 0)).setCell ⟨ST, 6, none⟩ (.int .i64 1)).setCell ⟨ST, 7, none⟩ (.int .i64 3)).setCell ⟨ST, 8, none⟩ (.int .i64 0)).setCell ⟨ST, 9, none⟩ (.int .i64 0)).setCell ⟨ST, 10, none⟩ (.int .i64 0)).setCell ⟨ST, 11, none⟩ (.int .i64 0)).setCell ⟨ST, 12, none⟩ (.int .i64 2)).setCell ⟨ST, 13, none⟩ (.int .i64 2)).cell? ⟨G, 3, none⟩ = some (.int .i64 4) := Blk.cell hHeld 3
      have f4 : ((((((((((((((wx.setCell ⟨ST, 0, none⟩ (.int .i64 1)).setCell ⟨ST, 1, none⟩ (.int .i64 3)).setCell ⟨ST, 2, none⟩ (.int .i64 0)).setCell ⟨ST, 3, none⟩ (.int .i64 0)).setCell ⟨ST, 4, none⟩ (.int .i64 0)).setCell ⟨ST, 5, none⟩ (.int .i64 0)).setCell ⟨ST, 6, none⟩ (.int .i64 1)).setCell ⟨ST, 7, none⟩ (.int .i64 3)).setCell ⟨ST, 8, none⟩ (.int .i64 0)).setCell ⟨ST, 9, none⟩ (.int .i64 0)).setCell ⟨ST, 10, none⟩ (.int .i64 0)).setCell ⟨ST, 11, none⟩ (.int .i64 0)).setCell ⟨ST, 12, none⟩ (.int .i64 2)).setCell ⟨ST, 13, none⟩ (.int .i64 2)).cell? ⟨G, 4, none⟩ = some (.int .i64 0) := Blk.cell hHeld 4
      clear hHeld
      generalize ((((((((((((((wx.setCell ⟨ST, 0, none⟩ (.int .i64 1)).setCell ⟨ST, 1, none⟩ (.int .i64 3)).setCell ⟨ST, 2, none⟩ (.int .i64 0)).setCell ⟨ST, 3, none⟩ (.int .i64 0)).setCell ⟨ST, 4, none⟩ (.int .i64 0)).setCell ⟨ST, 5, none⟩ (.int .i64 0)).setCell ⟨ST, 6, none⟩ (.int .i64 1)).setCell ⟨ST, 7, none⟩ (.int .i64 3)).setCell ⟨ST, 8, none⟩ (.int .i64 0)).setCell ⟨ST, 9, none⟩ (.int .i64 0)).setCell ⟨ST, 10, none⟩ (.int .i64 0)).setCell ⟨ST, 11, none⟩ (.int .i64 0)).setCell ⟨ST, 12, none⟩ (.int .i64 2)).setCell ⟨ST, 13, none⟩ (.int .i64 2)) = wy at *
      have g0 : wy.cell? ⟨ST, 0, none⟩ = some (.int .i64 1) := hSy.cell 0
      have g1 : wy.cell? ⟨ST, 1, none⟩ = some (.int .i64 3) := hSy.cell 1
      have g2 : wy.cell? ⟨ST, 2, none⟩ = some (.int .i64 0) := hSy.cell 2
      have g3 : wy.cell? ⟨ST, 3, none⟩ = some (.int .i64 0) := hSy.cell 3
      have g4 : wy.cell? ⟨ST, 4, none⟩ = some (.int .i64 0) := hSy.cell 4
      have g5 : wy.cell? ⟨ST, 5, none⟩ = some (.int .i64 0) := hSy.cell 5
      have g6 : wy.cell? ⟨ST, 6, none⟩ = some (.int .i64 1) := hSy.cell 6
      have g7 : wy.cell? ⟨ST, 7, none⟩ = some (.int .i64 3) := hSy.cell 7
      have g8 : wy.cell? ⟨ST, 8, none⟩ = some (.int .i64 0) := hSy.cell 8
      have g9 : wy.cell? ⟨ST, 9, none⟩ = some (.int .i64 0) := hSy.cell 9
      have g10 : wy.cell? ⟨ST, 10, none⟩ = some (.int .i64 0) := hSy.cell 10
      have g11 : wy.cell? ⟨ST, 11, none⟩ = some (.int .i64 0) := hSy.cell 11
      have g12 : wy.cell? ⟨ST, 12, none⟩ = some (.int .i64 2) := hSy.cell 12
      have g13 : wy.cell? ⟨ST, 13, none⟩ = some (.int .i64 2) := hSy.cell 13
      have hbw : Below w.heap.size w wy := hm.below.trans ((hmq.below.mono hm.below.size).trans (hby.mono hle))
      have hGw : G < wy.heap.size := World.block_lt_of_cell? _ _ f0
      have hTw : ST < wy.heap.size := hSy.lt
      clear hm hmq hST hby hGl
      go_wp2_with fail
      refine (wrong_kind0 0 0 0 0 0 _ (fun h => by rcases h with h | h | h <;> cases h)).mono ?_
      rintro e w1 ⟨rfl, os5, d5, rfl⟩
      go_wp2_with fail
      refine (right_yes 1 1 2 4 0 1 3 0 0 0 0 1 3 0 0 0 0 2 2 _ (Or.inl rfl) (Or.inl rfl) ⟨by decide, by decide, by decide, by decide, by decide, by decide⟩ HD.out).mono ?_
      rintro e w1 ⟨rfl, os6, d6, rfl⟩
      go_wp2
      go_ret
      exact ⟨rfl, (More.of_below hbw).trans (by repeat (first | (with_reducible assumption) | (with_reducible exact More.refl _) | (with_reducible refine More.alloc ?_ _) | (with_reducible refine More.more ?_ _ _) | (with_reducible refine More.drewN ?_ _) | (with_reducible refine More.drew ?_)))⟩
    ·
      go_simp
      refine hK.out _ _ ?_ (fun hHeld => ?_)
      · exact Blk.alloc hHeld _
      clear hK K
      try simp only [List.getElem_toArray, List.getElem_cons_zero, List.getElem_cons_succ, Act.put, List.setIfInBounds_toArray, List.set_cons_zero, List.set_cons_succ]
      refine wpAnyH_ready (rs := [2]) (by kernel_rfl) (by simp) ?_
      refine AllReadyH.cons rfl (fun K hK => ?_) AllReadyH.nil
      go_simp
      refine (play3 _ _ (show Blk ((wq.drew.alloc (.cells #[.int .i64 0, .int .i64 0, .int .i64 0, .int .i64 0, .int .i64 0, .int .i64 0] 22)).alloc (.cells #[.int .i64 0, .int .i64 0, .int .i64 0, .int .i64 0, .int .i64 0, .int .i64 0, .int .i64 0, .int .i64 0, .int .i64 0, .int .i64 0, .int .i64 0, .int .i64 0, .int .i64 0, .int .i64 0] 32)) wq.heap.size 22 #[.int .i64 0, .int .i64 0, .int .i64 0, .int .i64 0, .int .i64 0, .int .i64 0] from (Blk.new wq.drew _ _).alloc _)).mono ?_
      rintro e w' ⟨g, co, os, d, rfl, rfl, hg2, hg3, hgn⟩
      refine hK.out _ _ ?_ (fun hHeld => ?_)
      · exact Blk.more hHeld _ _
      clear hK K
      try simp only [List.getElem_toArray, List.getElem_cons_zero, List.getElem_cons_succ, Act.put, List.setIfInBounds_toArray, List.set_cons_zero, List.set_cons_succ]
      refine wpAnyH_take (i := 3) (v := ?_) rfl (by kernel_rfl) (by kernel_rfl) (by kernel_rfl) (fun _ _ _ h => h) (Or.inl ⟨by rfl, ?_⟩) (by assumption) ?_
      rotate_left 1
      · intro w' hSw
        have hl0 : w'.cell? ⟨G, 0, none⟩ = some (.int .i64 1) := Blk.cell (t := 24) (cs := #[.int .i64 1, .int .i64 1, .int .i64 2, .int .i64 4, .int .i64 0]) hSw 0
        have hl1 : w'.cell? ⟨G, 1, none⟩ = some (.int .i64 1) := Blk.cell (t := 24) (cs := #[.int .i64 1, .int .i64 1, .int .i64 2, .int .i64 4, .int .i64 0]) hSw 1
        have hl2 : w'.cell? ⟨G, 2, none⟩ = some (.int .i64 2) := Blk.cell (t := 24) (cs := #[.int .i64 1, .int .i64 1, .int .i64 2, .int .i64 4, .int .i64 0]) hSw 2
        have hl3 : w'.cell? ⟨G, 3, none⟩ = some (.int .i64 4) := Blk.cell (t := 24) (cs := #[.int .i64 1, .int .i64 1, .int .i64 2, .int .i64 4, .int .i64 0]) hSw 3
        have hl4 : w'.cell? ⟨G, 4, none⟩ = some (.int .i64 0) := Blk.cell (t := 24) (cs := #[.int .i64 1, .int .i64 1, .int .i64 2, .int .i64 4, .int .i64 0]) hSw 4
        go_simp
        try (with_reducible rfl)
      try simp only [List.getElem_toArray, List.getElem_cons_zero, List.getElem_cons_succ, Act.put, List.setIfInBounds_toArray, List.set_cons_zero, List.set_cons_succ]
      refine wpAnyH_take (i := 4) (v := ?_) rfl (by kernel_rfl) (by kernel_rfl) (by kernel_rfl) (fun _ _ _ h => h) (Or.inl ⟨by rfl, ?_⟩) (by assumption) ?_
      rotate_left 1
      · intro w' hSw
        have hl0 : w'.cell? ⟨G, 0, none⟩ = some (.int .i64 1) := Blk.cell (t := 24) (cs := #[.int .i64 1, .int .i64 1, .int .i64 2, .int .i64 4, .int .i64 0]) hSw 0
        have hl1 : w'.cell? ⟨G, 1, none⟩ = some (.int .i64 1) := Blk.cell (t := 24) (cs := #[.int .i64 1, .int .i64 1, .int .i64 2, .int .i64 4, .int .i64 0]) hSw 1
        have hl2 : w'.cell? ⟨G, 2, none⟩ = some (.int .i64 2) := Blk.cell (t := 24) (cs := #[.int .i64 1, .int .i64 1, .int .i64 2, .int .i64 4, .int .i64 0]) hSw 2
        have hl3 : w'.cell? ⟨G, 3, none⟩ = some (.int .i64 4) := Blk.cell (t := 24) (cs := #[.int .i64 1, .int .i64 1, .int .i64 2, .int .i64 4, .int .i64 0]) hSw 3
        have hl4 : w'.cell? ⟨G, 4, none⟩ = some (.int .i64 0) := Blk.cell (t := 24) (cs := #[.int .i64 1, .int .i64 1, .int .i64 2, .int .i64 4, .int .i64 0]) hSw 4
        go_simp
        try (with_reducible rfl)
      try simp only [List.getElem_toArray, List.getElem_cons_zero, List.getElem_cons_succ, Act.put, List.setIfInBounds_toArray, List.set_cons_zero, List.set_cons_succ]
      refine wpAnyH_take (i := 5) (v := ?_) rfl (by kernel_rfl) (by kernel_rfl) (by kernel_rfl) (fun _ _ _ h => h) (Or.inl ⟨by rfl, ?_⟩) (by assumption) ?_
      rotate_left 1
      · intro w' hSw
        have hl0 : w'.cell? ⟨G, 0, none⟩ = some (.int .i64 1) := Blk.cell (t := 24) (cs := #[.int .i64 1, .int .i64 1, .int .i64 2, .int .i64 4, .int .i64 0]) hSw 0
        have hl1 : w'.cell? ⟨G, 1, none⟩ = some (.int .i64 1) := Blk.cell (t := 24) (cs := #[.int .i64 1, .int .i64 1, .int .i64 2, .int .i64 4, .int .i64 0]) hSw 1
        have hl2 : w'.cell? ⟨G, 2, none⟩ = some (.int .i64 2) := Blk.cell (t := 24) (cs := #[.int .i64 1, .int .i64 1, .int .i64 2, .int .i64 4, .int .i64 0]) hSw 2
        have hl3 : w'.cell? ⟨G, 3, none⟩ = some (.int .i64 4) := Blk.cell (t := 24) (cs := #[.int .i64 1, .int .i64 1, .int .i64 2, .int .i64 4, .int .i64 0]) hSw 3
        have hl4 : w'.cell? ⟨G, 4, none⟩ = some (.int .i64 0) := Blk.cell (t := 24) (cs := #[.int .i64 1, .int .i64 1, .int .i64 2, .int .i64 4, .int .i64 0]) hSw 4
        go_simp
        try (with_reducible rfl)
      try simp only [List.getElem_toArray, List.getElem_cons_zero, List.getElem_cons_succ, Act.put, List.setIfInBounds_toArray, List.set_cons_zero, List.set_cons_succ]
      refine wpAnyH_take (i := 6) (v := ?_) rfl (by kernel_rfl) (by kernel_rfl) (by kernel_rfl) (fun _ _ _ h => h) (Or.inl ⟨by rfl, ?_⟩) (by assumption) ?_
      rotate_left 1
      · intro w' hSw
        have hl0 : w'.cell? ⟨G, 0, none⟩ = some (.int .i64 1) := Blk.cell (t := 24) (cs := #[.int .i64 1, .int .i64 1, .int .i64 2, .int .i64 4, .int .i64 0]) hSw 0
        have hl1 : w'.cell? ⟨G, 1, none⟩ = some (.int .i64 1) := Blk.cell (t := 24) (cs := #[.int .i64 1, .int .i64 1, .int .i64 2, .int .i64 4, .int .i64 0]) hSw 1
        have hl2 : w'.cell? ⟨G, 2, none⟩ = some (.int .i64 2) := Blk.cell (t := 24) (cs := #[.int .i64 1, .int .i64 1, .int .i64 2, .int .i64 4, .int .i64 0]) hSw 2
        have hl3 : w'.cell? ⟨G, 3, none⟩ = some (.int .i64 4) := Blk.cell (t := 24) (cs := #[.int .i64 1, .int .i64 1, .int .i64 2, .int .i64 4, .int .i64 0]) hSw 3
        have hl4 : w'.cell? ⟨G, 4, none⟩ = some (.int .i64 0) := Blk.cell (t := 24) (cs := #[.int .i64 1, .int .i64 1, .int .i64 2, .int .i64 4, .int .i64 0]) hSw 4
        go_simp
        try (with_reducible rfl)
      try simp only [List.getElem_toArray, List.getElem_cons_zero, List.getElem_cons_succ, Act.put, List.setIfInBounds_toArray, List.set_cons_zero, List.set_cons_succ]
      refine wpAnyH_take (i := 8) (v := ?_) rfl (by kernel_rfl) (by kernel_rfl) (by kernel_rfl) (fun _ _ _ h => h) (Or.inl ⟨by rfl, ?_⟩) (by assumption) ?_
      rotate_left 1
      · intro w' hSw
        have hl0 : w'.cell? ⟨G, 0, none⟩ = some (.int .i64 1) := Blk.cell (t := 24) (cs := #[.int .i64 1, .int .i64 1, .int .i64 2, .int .i64 4, .int .i64 0]) hSw 0
        have hl1 : w'.cell? ⟨G, 1, none⟩ = some (.int .i64 1) := Blk.cell (t := 24) (cs := #[.int .i64 1, .int .i64 1, .int .i64 2, .int .i64 4, .int .i64 0]) hSw 1
        have hl2 : w'.cell? ⟨G, 2, none⟩ = some (.int .i64 2) := Blk.cell (t := 24) (cs := #[.int .i64 1, .int .i64 1, .int .i64 2, .int .i64 4, .int .i64 0]) hSw 2
        have hl3 : w'.cell? ⟨G, 3, none⟩ = some (.int .i64 4) := Blk.cell (t := 24) (cs := #[.int .i64 1, .int .i64 1, .int .i64 2, .int .i64 4, .int .i64 0]) hSw 3
        have hl4 : w'.cell? ⟨G, 4, none⟩ = some (.int .i64 0) := Blk.cell (t := 24) (cs := #[.int .i64 1, .int .i64 1, .int .i64 2, .int .i64 4, .int .i64 0]) hSw 4
        go_simp
        try (with_reducible rfl)
      try simp only [List.getElem_toArray, List.getElem_cons_zero, List.getElem_cons_succ, Act.put, List.setIfInBounds_toArray, List.set_cons_zero, List.set_cons_succ]
      have hST : Blk (((wq.drew.alloc (.cells #[.int .i64 0, .int .i64 0, .int .i64 0, .int .i64 0, .int .i64 0, .int .i64 0] 22)).alloc (.cells #[.int .i64 0, .int .i64 0, .int .i64 0, .int .i64 0, .int .i64 0, .int .i64 0, .int .i64 0, .int .i64 0, .int .i64 0, .int .i64 0, .int .i64 0, .int .i64 0, .int .i64 0, .int .i64 0] 32)).more os d) (wq.heap.size + 1) 32 #[.int .i64 0, .int .i64 0, .int .i64 0, .int .i64 0, .int .i64 0, .int .i64 0, .int .i64 0, .int .i64 0, .int .i64 0, .int .i64 0, .int .i64 0, .int .i64 0, .int .i64 0, .int .i64 0] := (Blk.new' (by simp)).more _ _
      have hmq : More wq (((wq.drew.alloc (.cells #[.int .i64 0, .int .i64 0, .int .i64 0, .int .i64 0, .int .i64 0, .int .i64 0] 22)).alloc (.cells #[.int .i64 0, .int .i64 0, .int .i64 0, .int .i64 0, .int .i64 0, .int .i64 0, .int .i64 0, .int .i64 0, .int .i64 0, .int .i64 0, .int .i64 0, .int .i64 0, .int .i64 0, .int .i64 0] 32)).more os d) := (by repeat (first | (with_reducible assumption) | (with_reducible exact More.refl _) | (with_reducible refine More.alloc ?_ _) | (with_reducible refine More.more ?_ _ _) | (with_reducible refine More.drewN ?_ _) | (with_reducible refine More.drew ?_)))
      have hc2 : (((wq.drew.alloc (.cells #[.int .i64 0, .int .i64 0, .int .i64 0, .int .i64 0, .int .i64 0, .int .i64 0] 22)).alloc (.cells #[.int .i64 0, .int .i64 0, .int .i64 0, .int .i64 0, .int .i64 0, .int .i64 0, .int .i64 0, .int .i64 0, .int .i64 0, .int .i64 0, .int .i64 0, .int .i64 0, .int .i64 0, .int .i64 0] 32)).more os d).cell? ⟨g, 2, none⟩ = some (.int .i64 1) := hg2
      have hc3 : (((wq.drew.alloc (.cells #[.int .i64 0, .int .i64 0, .int .i64 0, .int .i64 0, .int .i64 0, .int .i64 0] 22)).alloc (.cells #[.int .i64 0, .int .i64 0, .int .i64 0, .int .i64 0, .int .i64 0, .int .i64 0, .int .i64 0, .int .i64 0, .int .i64 0, .int .i64 0, .int .i64 0, .int .i64 0, .int .i64 0, .int .i64 0] 32)).more os d).cell? ⟨g, 3, none⟩ = some (.int .i64 1) := hg3
      obtain ⟨B0, hBe⟩ : ∃ B0, B0 = wq.heap.size := ⟨_, rfl⟩
      have hle : w.heap.size ≤ B0 := by have := hm.below.size; omega
      have hGB : G < B0 := by omega
      have hGs : B0 ≤ (wq.heap.size + 1) := by omega
      have hgs : g ≠ (wq.heap.size + 1) := by have := hgn; simp at this; omega
      clear hg2 hg3
      generalize (((wq.drew.alloc (.cells #[.int .i64 0, .int .i64 0, .int .i64 0, .int .i64 0, .int .i64 0, .int .i64 0] 22)).alloc (.cells #[.int .i64 0, .int .i64 0, .int .i64 0, .int .i64 0, .int .i64 0, .int .i64 0, .int .i64 0, .int .i64 0, .int .i64 0, .int .i64 0, .int .i64 0, .int .i64 0, .int .i64 0, .int .i64 0] 32)).more os d) = wx at *
      generalize hSe : (wq.heap.size + 1) = ST at *
      have t0 : wx.cell? ⟨ST, 0, none⟩ = some (.int .i64 0) := hST.cell 0
      have t1 : wx.cell? ⟨ST, 1, none⟩ = some (.int .i64 0) := hST.cell 1
      have t2 : wx.cell? ⟨ST, 2, none⟩ = some (.int .i64 0) := hST.cell 2
      have t3 : wx.cell? ⟨ST, 3, none⟩ = some (.int .i64 0) := hST.cell 3
      have t4 : wx.cell? ⟨ST, 4, none⟩ = some (.int .i64 0) := hST.cell 4
      have t5 : wx.cell? ⟨ST, 5, none⟩ = some (.int .i64 0) := hST.cell 5
      have t6 : wx.cell? ⟨ST, 6, none⟩ = some (.int .i64 0) := hST.cell 6
      have t7 : wx.cell? ⟨ST, 7, none⟩ = some (.int .i64 0) := hST.cell 7
      have t8 : wx.cell? ⟨ST, 8, none⟩ = some (.int .i64 0) := hST.cell 8
      have t9 : wx.cell? ⟨ST, 9, none⟩ = some (.int .i64 0) := hST.cell 9
      have t10 : wx.cell? ⟨ST, 10, none⟩ = some (.int .i64 0) := hST.cell 10
      have t11 : wx.cell? ⟨ST, 11, none⟩ = some (.int .i64 0) := hST.cell 11
      have t12 : wx.cell? ⟨ST, 12, none⟩ = some (.int .i64 0) := hST.cell 12
      have t13 : wx.cell? ⟨ST, 13, none⟩ = some (.int .i64 0) := hST.cell 13
      have u0 : wx.frozen? ⟨ST, 0, none⟩ = false := hST.frozen 0
      have u1 : wx.frozen? ⟨ST, 1, none⟩ = false := hST.frozen 1
      have u2 : wx.frozen? ⟨ST, 2, none⟩ = false := hST.frozen 2
      have u3 : wx.frozen? ⟨ST, 3, none⟩ = false := hST.frozen 3
      have u4 : wx.frozen? ⟨ST, 4, none⟩ = false := hST.frozen 4
      have u5 : wx.frozen? ⟨ST, 5, none⟩ = false := hST.frozen 5
      have u6 : wx.frozen? ⟨ST, 6, none⟩ = false := hST.frozen 6
      have u7 : wx.frozen? ⟨ST, 7, none⟩ = false := hST.frozen 7
      have u8 : wx.frozen? ⟨ST, 8, none⟩ = false := hST.frozen 8
      have u9 : wx.frozen? ⟨ST, 9, none⟩ = false := hST.frozen 9
      have u10 : wx.frozen? ⟨ST, 10, none⟩ = false := hST.frozen 10
      have u11 : wx.frozen? ⟨ST, 11, none⟩ = false := hST.frozen 11
      have u12 : wx.frozen? ⟨ST, 12, none⟩ = false := hST.frozen 12
      have u13 : wx.frozen? ⟨ST, 13, none⟩ = false := hST.frozen 13
      refine wpAnyH_ready (rs := [9]) (by kernel_rfl) (by simp) ?_
      refine AllReadyH.cons rfl (fun K hK => ?_) AllReadyH.nil
      go_simp
      refine hK.out _ _ ?_ (fun hHeld => ?_)
      · exact (Blk.far (Blk.far (Blk.far (Blk.far (Blk.far (Blk.far (Blk.far (Blk.far (Blk.far (Blk.far (Blk.far (Blk.far (Blk.far (Blk.far hHeld (p := ⟨ST, 0, none⟩) (by simp only [ne_eq]; omega) (.int .i64 1)) (p := ⟨ST, 1, none⟩) (by simp only [ne_eq]; omega) (.int .i64 3)) (p := ⟨ST, 2, none⟩) (by simp only [ne_eq]; omega) (.int .i64 0)) (p := ⟨ST, 3, none⟩) (by simp only [ne_eq]; omega) (.int .i64 0)) (p := ⟨ST, 4, none⟩) (by simp only [ne_eq]; omega) (.int .i64 0)) (p := ⟨ST, 5, none⟩) (by simp only [ne_eq]; omega) (.int .i64 0)) (p := ⟨ST, 6, none⟩) (by simp only [ne_eq]; omega) (.int .i64 1)) (p := ⟨ST, 7, none⟩) (by simp only [ne_eq]; omega) (.int .i64 3)) (p := ⟨ST, 8, none⟩) (by simp only [ne_eq]; omega) (.int .i64 0)) (p := ⟨ST, 9, none⟩) (by simp only [ne_eq]; omega) (.int .i64 0)) (p := ⟨ST, 10, none⟩) (by simp only [ne_eq]; omega) (.int .i64 0)) (p := ⟨ST, 11, none⟩) (by simp only [ne_eq]; omega) (.int .i64 0)) (p := ⟨ST, 12, none⟩) (by simp only [ne_eq]; omega) (.int .i64 2)) (p := ⟨ST, 13, none⟩) (by simp only [ne_eq]; omega) (.int .i64 2))
      clear hK K
      try simp only [List.getElem_toArray, List.getElem_cons_zero, List.getElem_cons_succ, Act.put, List.setIfInBounds_toArray, List.set_cons_zero, List.set_cons_succ]
      refine wpAnyH_take (i := 10) (v := ?_) rfl (by kernel_rfl) (by kernel_rfl) (by kernel_rfl) (fun _ _ _ h => h) (Or.inl ⟨by rfl, ?_⟩) (by assumption) ?_
      rotate_left 1
      · intro w' hSw
        have hl0 : w'.cell? ⟨G, 0, none⟩ = some (.int .i64 1) := Blk.cell (t := 24) (cs := #[.int .i64 1, .int .i64 1, .int .i64 2, .int .i64 4, .int .i64 0]) hSw 0
        have hl1 : w'.cell? ⟨G, 1, none⟩ = some (.int .i64 1) := Blk.cell (t := 24) (cs := #[.int .i64 1, .int .i64 1, .int .i64 2, .int .i64 4, .int .i64 0]) hSw 1
        have hl2 : w'.cell? ⟨G, 2, none⟩ = some (.int .i64 2) := Blk.cell (t := 24) (cs := #[.int .i64 1, .int .i64 1, .int .i64 2, .int .i64 4, .int .i64 0]) hSw 2
        have hl3 : w'.cell? ⟨G, 3, none⟩ = some (.int .i64 4) := Blk.cell (t := 24) (cs := #[.int .i64 1, .int .i64 1, .int .i64 2, .int .i64 4, .int .i64 0]) hSw 3
        have hl4 : w'.cell? ⟨G, 4, none⟩ = some (.int .i64 0) := Blk.cell (t := 24) (cs := #[.int .i64 1, .int .i64 1, .int .i64 2, .int .i64 4, .int .i64 0]) hSw 4
        go_simp
        try (with_reducible rfl)
      try simp only [List.getElem_toArray, List.getElem_cons_zero, List.getElem_cons_succ, Act.put, List.setIfInBounds_toArray, List.set_cons_zero, List.set_cons_succ]
      refine wpAnyH_done (by kernel_rfl) ?_ _
      have hSy : Blk ((((((((((((((wx.setCell ⟨ST, 0, none⟩ (.int .i64 1)).setCell ⟨ST, 1, none⟩ (.int .i64 3)).setCell ⟨ST, 2, none⟩ (.int .i64 0)).setCell ⟨ST, 3, none⟩ (.int .i64 0)).setCell ⟨ST, 4, none⟩ (.int .i64 0)).setCell ⟨ST, 5, none⟩ (.int .i64 0)).setCell ⟨ST, 6, none⟩ (.int .i64 1)).setCell ⟨ST, 7, none⟩ (.int .i64 3)).setCell ⟨ST, 8, none⟩ (.int .i64 0)).setCell ⟨ST, 9, none⟩ (.int .i64 0)).setCell ⟨ST, 10, none⟩ (.int .i64 0)).setCell ⟨ST, 11, none⟩ (.int .i64 0)).setCell ⟨ST, 12, none⟩ (.int .i64 2)).setCell ⟨ST, 13, none⟩ (.int .i64 2)) ST 32 #[.int .i64 1, .int .i64 3, .int .i64 0, .int .i64 0, .int .i64 0, .int .i64 0, .int .i64 1, .int .i64 3, .int .i64 0, .int .i64 0, .int .i64 0, .int .i64 0, .int .i64 2, .int .i64 2] := by
        have hh := ((((((((((((((hST.put 0 (.int .i64 1)).put 1 (.int .i64 3)).put 2 (.int .i64 0)).put 3 (.int .i64 0)).put 4 (.int .i64 0)).put 5 (.int .i64 0)).put 6 (.int .i64 1)).put 7 (.int .i64 3)).put 8 (.int .i64 0)).put 9 (.int .i64 0)).put 10 (.int .i64 0)).put 11 (.int .i64 0)).put 12 (.int .i64 2)).put 13 (.int .i64 2))
        simpa only [List.setIfInBounds_toArray, List.set_cons_zero, List.set_cons_succ] using hh
      have hby : Below B0 wx ((((((((((((((wx.setCell ⟨ST, 0, none⟩ (.int .i64 1)).setCell ⟨ST, 1, none⟩ (.int .i64 3)).setCell ⟨ST, 2, none⟩ (.int .i64 0)).setCell ⟨ST, 3, none⟩ (.int .i64 0)).setCell ⟨ST, 4, none⟩ (.int .i64 0)).setCell ⟨ST, 5, none⟩ (.int .i64 0)).setCell ⟨ST, 6, none⟩ (.int .i64 1)).setCell ⟨ST, 7, none⟩ (.int .i64 3)).setCell ⟨ST, 8, none⟩ (.int .i64 0)).setCell ⟨ST, 9, none⟩ (.int .i64 0)).setCell ⟨ST, 10, none⟩ (.int .i64 0)).setCell ⟨ST, 11, none⟩ (.int .i64 0)).setCell ⟨ST, 12, none⟩ (.int .i64 2)).setCell ⟨ST, 13, none⟩ (.int .i64 2)) := (((((((((((((((Below.refl B0 wx).setCell (p := ⟨ST, 0, none⟩) hGs (.int .i64 1)).setCell (p := ⟨ST, 1, none⟩) hGs (.int .i64 3)).setCell (p := ⟨ST, 2, none⟩) hGs (.int .i64 0)).setCell (p := ⟨ST, 3, none⟩) hGs (.int .i64 0)).setCell (p := ⟨ST, 4, none⟩) hGs (.int .i64 0)).setCell (p := ⟨ST, 5, none⟩) hGs (.int .i64 0)).setCell (p := ⟨ST, 6, none⟩) hGs (.int .i64 1)).setCell (p := ⟨ST, 7, none⟩) hGs (.int .i64 3)).setCell (p := ⟨ST, 8, none⟩) hGs (.int .i64 0)).setCell (p := ⟨ST, 9, none⟩) hGs (.int .i64 0)).setCell (p := ⟨ST, 10, none⟩) hGs (.int .i64 0)).setCell (p := ⟨ST, 11, none⟩) hGs (.int .i64 0)).setCell (p := ⟨ST, 12, none⟩) hGs (.int .i64 2)).setCell (p := ⟨ST, 13, none⟩) hGs (.int .i64 2))
      have d2 : ((((((((((((((wx.setCell ⟨ST, 0, none⟩ (.int .i64 1)).setCell ⟨ST, 1, none⟩ (.int .i64 3)).setCell ⟨ST, 2, none⟩ (.int .i64 0)).setCell ⟨ST, 3, none⟩ (.int .i64 0)).setCell ⟨ST, 4, none⟩ (.int .i64 0)).setCell ⟨ST, 5, none⟩ (.int .i64 0)).setCell ⟨ST, 6, none⟩ (.int .i64 1)).setCell ⟨ST, 7, none⟩ (.int .i64 3)).setCell ⟨ST, 8, none⟩ (.int .i64 0)).setCell ⟨ST, 9, none⟩ (.int .i64 0)).setCell ⟨ST, 10, none⟩ (.int .i64 0)).setCell ⟨ST, 11, none⟩ (.int .i64 0)).setCell ⟨ST, 12, none⟩ (.int .i64 2)).setCell ⟨ST, 13, none⟩ (.int .i64 2)).cell? ⟨g, 2, none⟩ = some (.int .i64 1) := far14 hc2 (Ne.symm hgs)
      have d3 : ((((((((((((((wx.setCell ⟨ST, 0, none⟩ (.int .i64 1)).setCell ⟨ST, 1, none⟩ (.int .i64 3)).setCell ⟨ST, 2, none⟩ (.int .i64 0)).setCell ⟨ST, 3, none⟩ (.int .i64 0)).setCell ⟨ST, 4, none⟩ (.int .i64 0)).setCell ⟨ST, 5, none⟩ (.int .i64 0)).setCell ⟨ST, 6, none⟩ (.int .i64 1)).setCell ⟨ST, 7, none⟩ (.int .i64 3)).setCell ⟨ST, 8, none⟩ (.int .i64 0)).setCell ⟨ST, 9, none⟩ (.int .i64 0)).setCell ⟨ST, 10, none⟩ (.int .i64 0)).setCell ⟨ST, 11, none⟩ (.int .i64 0)).setCell ⟨ST, 12, none⟩ (.int .i64 2)).setCell ⟨ST, 13, none⟩ (.int .i64 2)).cell? ⟨g, 3, none⟩ = some (.int .i64 1) := far14 hc3 (Ne.symm hgs)
      have f0 : ((((((((((((((wx.setCell ⟨ST, 0, none⟩ (.int .i64 1)).setCell ⟨ST, 1, none⟩ (.int .i64 3)).setCell ⟨ST, 2, none⟩ (.int .i64 0)).setCell ⟨ST, 3, none⟩ (.int .i64 0)).setCell ⟨ST, 4, none⟩ (.int .i64 0)).setCell ⟨ST, 5, none⟩ (.int .i64 0)).setCell ⟨ST, 6, none⟩ (.int .i64 1)).setCell ⟨ST, 7, none⟩ (.int .i64 3)).setCell ⟨ST, 8, none⟩ (.int .i64 0)).setCell ⟨ST, 9, none⟩ (.int .i64 0)).setCell ⟨ST, 10, none⟩ (.int .i64 0)).setCell ⟨ST, 11, none⟩ (.int .i64 0)).setCell ⟨ST, 12, none⟩ (.int .i64 2)).setCell ⟨ST, 13, none⟩ (.int .i64 2)).cell? ⟨G, 0, none⟩ = some (.int .i64 1) := Blk.cell hHeld 0
      have f1 : ((((((((((((((wx.setCell ⟨ST, 0, none⟩ (.int .i64 1)).setCell ⟨ST, 1, none⟩ (.int .i64 3)).setCell ⟨ST, 2, none⟩ (.int .i64 0)).setCell ⟨ST, 3, none⟩ (.int .i64 0)).setCell ⟨ST, 4, none⟩ (.int .i64 0)).setCell ⟨ST, 5, none⟩ (.int .i64 0)).setCell ⟨ST, 6, none⟩ (.int .i64 1)).setCell ⟨ST, 7, none⟩ (.int .i64 3)).setCell ⟨ST, 8, none⟩ (.int .i64 0)).setCell ⟨ST, 9, none⟩ (.int .i64 0)).setCell ⟨ST, 10, none⟩ (.int .i64 0)).setCell ⟨ST, 11, none⟩ (.int .i64 0)).setCell ⟨ST, 12, none⟩ (.int .i64 2)).setCell ⟨ST, 13, none⟩ (.int .i64 2)).cell? ⟨G, 1, none⟩ = some (.int .i64 1) := Blk.cell hHeld 1
      have f2 : ((((((((((((((wx.setCell ⟨ST, 0, none⟩ (.int .i64 1)).setCell ⟨ST, 1, none⟩ (.int .i64 3)).setCell ⟨ST, 2, none⟩ (.int .i64 0)).setCell ⟨ST, 3, none⟩ (.int .i64 0)).setCell ⟨ST, 4, none⟩ (.int .i64 0)).setCell ⟨ST, 5, none⟩ (.int .i64 0)).setCell ⟨ST, 6, none⟩ (.int .i64 1)).setCell ⟨ST, 7, none⟩ (.int .i64 3)).setCell ⟨ST, 8, none⟩ (.int .i64 0)).setCell ⟨ST, 9, none⟩ (.int .i64 0)).setCell ⟨ST, 10, none⟩ (.int .i64 0)).setCell ⟨ST, 11, none⟩ (.int .i64 0)).setCell ⟨ST, 12, none⟩ (.int .i64 2)).setCell ⟨ST, 13, none⟩ (.int .i64 2)).cell? ⟨G, 2, none⟩ = some (.int .i64 2) := Blk.cell hHeld 2
      have f3 : ((((((((((((((wx.setCell ⟨ST, 0, none⟩ (.int .i64 1)).setCell ⟨ST, 1, none⟩ (.int .i64 3)).setCell ⟨ST, 2, none⟩ (.int .i64 0)).setCell ⟨ST, 3, none⟩ (.int .i64 0)).setCell ⟨ST, 4, none⟩ (.int .i64 0)).setCell ⟨ST, 5, none⟩ (.int .i64 0)).setCell ⟨ST, 6, none⟩ (.int .i64 1)).setCell ⟨ST, 7, none⟩ (.int .i64 3)).setCell ⟨ST, 8, none⟩ (.int .i64 0)).setCell ⟨ST, 9, none⟩ (.int .i64 0)).setCell ⟨ST, 10, none⟩ (.int .i64 0)).setCell ⟨ST, 11, none⟩ (.int .i64 0)).setCell ⟨ST, 12, none⟩ (.int .i64 2)).setCell ⟨ST, 13, none⟩ (.int .i64 2)).cell? ⟨G, 3, none⟩ = some (.int .i64 4) := Blk.cell hHeld 3
      have f4 : ((((((((((((((wx.setCell ⟨ST, 0, none⟩ (.int .i64 1)).setCell ⟨ST, 1, none⟩ (.int .i64 3)).setCell ⟨ST, 2, none⟩ (.int .i64 0)).setCell ⟨ST, 3, none⟩ (.int .i64 0)).setCell ⟨ST, 4, none⟩ (.int .i64 0)).setCell ⟨ST, 5, none⟩ (.int .i64 0)).setCell ⟨ST, 6, none⟩ (.int .i64 1)).setCell ⟨ST, 7, none⟩ (.int .i64 3)).setCell ⟨ST, 8, none⟩ (.int .i64 0)).setCell ⟨ST, 9, none⟩ (.int .i64 0)).setCell ⟨ST, 10, none⟩ (.int .i64 0)).setCell ⟨ST, 11, none⟩ (.int .i64 0)).setCell ⟨ST, 12, none⟩ (.int .i64 2)).setCell ⟨ST, 13, none⟩ (.int .i64 2)).cell? ⟨G, 4, none⟩ = some (.int .i64 0) := Blk.cell hHeld 4
      clear hHeld
      generalize ((((((((((((((wx.setCell ⟨ST, 0, none⟩ (.int .i64 1)).setCell ⟨ST, 1, none⟩ (.int .i64 3)).setCell ⟨ST, 2, none⟩ (.int .i64 0)).setCell ⟨ST, 3, none⟩ (.int .i64 0)).setCell ⟨ST, 4, none⟩ (.int .i64 0)).setCell ⟨ST, 5, none⟩ (.int .i64 0)).setCell ⟨ST, 6, none⟩ (.int .i64 1)).setCell ⟨ST, 7, none⟩ (.int .i64 3)).setCell ⟨ST, 8, none⟩ (.int .i64 0)).setCell ⟨ST, 9, none⟩ (.int .i64 0)).setCell ⟨ST, 10, none⟩ (.int .i64 0)).setCell ⟨ST, 11, none⟩ (.int .i64 0)).setCell ⟨ST, 12, none⟩ (.int .i64 2)).setCell ⟨ST, 13, none⟩ (.int .i64 2)) = wy at *
      have g0 : wy.cell? ⟨ST, 0, none⟩ = some (.int .i64 1) := hSy.cell 0
      have g1 : wy.cell? ⟨ST, 1, none⟩ = some (.int .i64 3) := hSy.cell 1
      have g2 : wy.cell? ⟨ST, 2, none⟩ = some (.int .i64 0) := hSy.cell 2
      have g3 : wy.cell? ⟨ST, 3, none⟩ = some (.int .i64 0) := hSy.cell 3
      have g4 : wy.cell? ⟨ST, 4, none⟩ = some (.int .i64 0) := hSy.cell 4
      have g5 : wy.cell? ⟨ST, 5, none⟩ = some (.int .i64 0) := hSy.cell 5
      have g6 : wy.cell? ⟨ST, 6, none⟩ = some (.int .i64 1) := hSy.cell 6
      have g7 : wy.cell? ⟨ST, 7, none⟩ = some (.int .i64 3) := hSy.cell 7
      have g8 : wy.cell? ⟨ST, 8, none⟩ = some (.int .i64 0) := hSy.cell 8
      have g9 : wy.cell? ⟨ST, 9, none⟩ = some (.int .i64 0) := hSy.cell 9
      have g10 : wy.cell? ⟨ST, 10, none⟩ = some (.int .i64 0) := hSy.cell 10
      have g11 : wy.cell? ⟨ST, 11, none⟩ = some (.int .i64 0) := hSy.cell 11
      have g12 : wy.cell? ⟨ST, 12, none⟩ = some (.int .i64 2) := hSy.cell 12
      have g13 : wy.cell? ⟨ST, 13, none⟩ = some (.int .i64 2) := hSy.cell 13
      have hbw : Below w.heap.size w wy := hm.below.trans ((hmq.below.mono hm.below.size).trans (hby.mono hle))
      have hGw : G < wy.heap.size := World.block_lt_of_cell? _ _ f0
      have hTw : ST < wy.heap.size := hSy.lt
      clear hm hmq hST hby hGl
      go_wp2_with fail
      refine (wrong_kind0 0 0 0 0 0 _ (fun h => by rcases h with h | h | h <;> cases h)).mono ?_
      rintro e w1 ⟨rfl, os5, d5, rfl⟩
      go_wp2_with fail
      refine (right_yes 1 1 2 4 0 1 3 0 0 0 0 1 3 0 0 0 0 2 2 _ (Or.inl rfl) (Or.inl rfl) ⟨by decide, by decide, by decide, by decide, by decide, by decide⟩ HD.out).mono ?_
      rintro e w1 ⟨rfl, os6, d6, rfl⟩
      go_wp2
      go_ret
      exact ⟨rfl, (More.of_below hbw).trans (by repeat (first | (with_reducible assumption) | (with_reducible exact More.refl _) | (with_reducible refine More.alloc ?_ _) | (with_reducible refine More.more ?_ _ _) | (with_reducible refine More.drewN ?_ _) | (with_reducible refine More.drew ?_)))⟩
  ·
    go_simp
    refine hK.out _ _ ?_ (fun hHeld => ?_)
    · exact Blk.alloc hHeld _
    clear hK K
    try simp only [List.getElem_toArray, List.getElem_cons_zero, List.getElem_cons_succ, Act.put, List.setIfInBounds_toArray, List.set_cons_zero, List.set_cons_succ]
    refine wpAnyH_ready (rs := [1]) (by kernel_rfl) (by simp) ?_
    refine AllReadyH.cons rfl (fun K hK => ?_) AllReadyH.nil
    go_simp
    rw [mk3]
    refine hK.out _ _ ?_ (fun hHeld => ?_)
    · exact Blk.alloc hHeld _
    clear hK K
    try simp only [List.getElem_toArray, List.getElem_cons_zero, List.getElem_cons_succ, Act.put, List.setIfInBounds_toArray, List.set_cons_zero, List.set_cons_succ]
    refine wpAnyH_ready (rs := [2]) (by kernel_rfl) (by simp) ?_
    refine AllReadyH.cons rfl (fun K hK => ?_) AllReadyH.nil
    go_simp
    refine (play3 _ _ (show Blk ((wq.drew.alloc (.cells #[.int .i64 0, .int .i64 0, .int .i64 0, .int .i64 0, .int .i64 0, .int .i64 0, .int .i64 0, .int .i64 0, .int .i64 0, .int .i64 0, .int .i64 0, .int .i64 0, .int .i64 0, .int .i64 0] 32)).alloc (.cells #[.int .i64 0, .int .i64 0, .int .i64 0, .int .i64 0, .int .i64 0, .int .i64 0] 22)) (wq.heap.size + 1) 22 #[.int .i64 0, .int .i64 0, .int .i64 0, .int .i64 0, .int .i64 0, .int .i64 0] from Blk.new' (by simp))).mono ?_
    rintro e w' ⟨g, co, os, d, rfl, rfl, hg2, hg3, hgn⟩
    refine hK.out _ _ ?_ (fun hHeld => ?_)
    · exact Blk.more hHeld _ _
    clear hK K
    try simp only [List.getElem_toArray, List.getElem_cons_zero, List.getElem_cons_succ, Act.put, List.setIfInBounds_toArray, List.set_cons_zero, List.set_cons_succ]
    refine wpAnyH_take (i := 3) (v := ?_) rfl (by kernel_rfl) (by kernel_rfl) (by kernel_rfl) (fun _ _ _ h => h) (Or.inl ⟨by rfl, ?_⟩) (by assumption) ?_
    rotate_left 1
    · intro w' hSw
      have hl0 : w'.cell? ⟨G, 0, none⟩ = some (.int .i64 1) := Blk.cell (t := 24) (cs := #[.int .i64 1, .int .i64 1, .int .i64 2, .int .i64 4, .int .i64 0]) hSw 0
      have hl1 : w'.cell? ⟨G, 1, none⟩ = some (.int .i64 1) := Blk.cell (t := 24) (cs := #[.int .i64 1, .int .i64 1, .int .i64 2, .int .i64 4, .int .i64 0]) hSw 1
      have hl2 : w'.cell? ⟨G, 2, none⟩ = some (.int .i64 2) := Blk.cell (t := 24) (cs := #[.int .i64 1, .int .i64 1, .int .i64 2, .int .i64 4, .int .i64 0]) hSw 2
      have hl3 : w'.cell? ⟨G, 3, none⟩ = some (.int .i64 4) := Blk.cell (t := 24) (cs := #[.int .i64 1, .int .i64 1, .int .i64 2, .int .i64 4, .int .i64 0]) hSw 3
      have hl4 : w'.cell? ⟨G, 4, none⟩ = some (.int .i64 0) := Blk.cell (t := 24) (cs := #[.int .i64 1, .int .i64 1, .int .i64 2, .int .i64 4, .int .i64 0]) hSw 4
      go_simp
      try (with_reducible rfl)
    try simp only [List.getElem_toArray, List.getElem_cons_zero, List.getElem_cons_succ, Act.put, List.setIfInBounds_toArray, List.set_cons_zero, List.set_cons_succ]
    refine wpAnyH_take (i := 4) (v := ?_) rfl (by kernel_rfl) (by kernel_rfl) (by kernel_rfl) (fun _ _ _ h => h) (Or.inl ⟨by rfl, ?_⟩) (by assumption) ?_
    rotate_left 1
    · intro w' hSw
      have hl0 : w'.cell? ⟨G, 0, none⟩ = some (.int .i64 1) := Blk.cell (t := 24) (cs := #[.int .i64 1, .int .i64 1, .int .i64 2, .int .i64 4, .int .i64 0]) hSw 0
      have hl1 : w'.cell? ⟨G, 1, none⟩ = some (.int .i64 1) := Blk.cell (t := 24) (cs := #[.int .i64 1, .int .i64 1, .int .i64 2, .int .i64 4, .int .i64 0]) hSw 1
      have hl2 : w'.cell? ⟨G, 2, none⟩ = some (.int .i64 2) := Blk.cell (t := 24) (cs := #[.int .i64 1, .int .i64 1, .int .i64 2, .int .i64 4, .int .i64 0]) hSw 2
      have hl3 : w'.cell? ⟨G, 3, none⟩ = some (.int .i64 4) := Blk.cell (t := 24) (cs := #[.int .i64 1, .int .i64 1, .int .i64 2, .int .i64 4, .int .i64 0]) hSw 3
      have hl4 : w'.cell? ⟨G, 4, none⟩ = some (.int .i64 0) := Blk.cell (t := 24) (cs := #[.int .i64 1, .int .i64 1, .int .i64 2, .int .i64 4, .int .i64 0]) hSw 4
      go_simp
      try (with_reducible rfl)
    try simp only [List.getElem_toArray, List.getElem_cons_zero, List.getElem_cons_succ, Act.put, List.setIfInBounds_toArray, List.set_cons_zero, List.set_cons_succ]
    refine wpAnyH_take (i := 5) (v := ?_) rfl (by kernel_rfl) (by kernel_rfl) (by kernel_rfl) (fun _ _ _ h => h) (Or.inl ⟨by rfl, ?_⟩) (by assumption) ?_
    rotate_left 1
    · intro w' hSw
      have hl0 : w'.cell? ⟨G, 0, none⟩ = some (.int .i64 1) := Blk.cell (t := 24) (cs := #[.int .i64 1, .int .i64 1, .int .i64 2, .int .i64 4, .int .i64 0]) hSw 0
      have hl1 : w'.cell? ⟨G, 1, none⟩ = some (.int .i64 1) := Blk.cell (t := 24) (cs := #[.int .i64 1, .int .i64 1, .int .i64 2, .int .i64 4, .int .i64 0]) hSw 1
      have hl2 : w'.cell? ⟨G, 2, none⟩ = some (.int .i64 2) := Blk.cell (t := 24) (cs := #[.int .i64 1, .int .i64 1, .int .i64 2, .int .i64 4, .int .i64 0]) hSw 2
      have hl3 : w'.cell? ⟨G, 3, none⟩ = some (.int .i64 4) := Blk.cell (t := 24) (cs := #[.int .i64 1, .int .i64 1, .int .i64 2, .int .i64 4, .int .i64 0]) hSw 3
      have hl4 : w'.cell? ⟨G, 4, none⟩ = some (.int .i64 0) := Blk.cell (t := 24) (cs := #[.int .i64 1, .int .i64 1, .int .i64 2, .int .i64 4, .int .i64 0]) hSw 4
      go_simp
      try (with_reducible rfl)
    try simp only [List.getElem_toArray, List.getElem_cons_zero, List.getElem_cons_succ, Act.put, List.setIfInBounds_toArray, List.set_cons_zero, List.set_cons_succ]
    refine wpAnyH_take (i := 6) (v := ?_) rfl (by kernel_rfl) (by kernel_rfl) (by kernel_rfl) (fun _ _ _ h => h) (Or.inl ⟨by rfl, ?_⟩) (by assumption) ?_
    rotate_left 1
    · intro w' hSw
      have hl0 : w'.cell? ⟨G, 0, none⟩ = some (.int .i64 1) := Blk.cell (t := 24) (cs := #[.int .i64 1, .int .i64 1, .int .i64 2, .int .i64 4, .int .i64 0]) hSw 0
      have hl1 : w'.cell? ⟨G, 1, none⟩ = some (.int .i64 1) := Blk.cell (t := 24) (cs := #[.int .i64 1, .int .i64 1, .int .i64 2, .int .i64 4, .int .i64 0]) hSw 1
      have hl2 : w'.cell? ⟨G, 2, none⟩ = some (.int .i64 2) := Blk.cell (t := 24) (cs := #[.int .i64 1, .int .i64 1, .int .i64 2, .int .i64 4, .int .i64 0]) hSw 2
      have hl3 : w'.cell? ⟨G, 3, none⟩ = some (.int .i64 4) := Blk.cell (t := 24) (cs := #[.int .i64 1, .int .i64 1, .int .i64 2, .int .i64 4, .int .i64 0]) hSw 3
      have hl4 : w'.cell? ⟨G, 4, none⟩ = some (.int .i64 0) := Blk.cell (t := 24) (cs := #[.int .i64 1, .int .i64 1, .int .i64 2, .int .i64 4, .int .i64 0]) hSw 4
      go_simp
      try (with_reducible rfl)
    try simp only [List.getElem_toArray, List.getElem_cons_zero, List.getElem_cons_succ, Act.put, List.setIfInBounds_toArray, List.set_cons_zero, List.set_cons_succ]
    refine wpAnyH_take (i := 8) (v := ?_) rfl (by kernel_rfl) (by kernel_rfl) (by kernel_rfl) (fun _ _ _ h => h) (Or.inl ⟨by rfl, ?_⟩) (by assumption) ?_
    rotate_left 1
    · intro w' hSw
      have hl0 : w'.cell? ⟨G, 0, none⟩ = some (.int .i64 1) := Blk.cell (t := 24) (cs := #[.int .i64 1, .int .i64 1, .int .i64 2, .int .i64 4, .int .i64 0]) hSw 0
      have hl1 : w'.cell? ⟨G, 1, none⟩ = some (.int .i64 1) := Blk.cell (t := 24) (cs := #[.int .i64 1, .int .i64 1, .int .i64 2, .int .i64 4, .int .i64 0]) hSw 1
      have hl2 : w'.cell? ⟨G, 2, none⟩ = some (.int .i64 2) := Blk.cell (t := 24) (cs := #[.int .i64 1, .int .i64 1, .int .i64 2, .int .i64 4, .int .i64 0]) hSw 2
      have hl3 : w'.cell? ⟨G, 3, none⟩ = some (.int .i64 4) := Blk.cell (t := 24) (cs := #[.int .i64 1, .int .i64 1, .int .i64 2, .int .i64 4, .int .i64 0]) hSw 3
      have hl4 : w'.cell? ⟨G, 4, none⟩ = some (.int .i64 0) := Blk.cell (t := 24) (cs := #[.int .i64 1, .int .i64 1, .int .i64 2, .int .i64 4, .int .i64 0]) hSw 4
      go_simp
      try (with_reducible rfl)
    try simp only [List.getElem_toArray, List.getElem_cons_zero, List.getElem_cons_succ, Act.put, List.setIfInBounds_toArray, List.set_cons_zero, List.set_cons_succ]
    have hST : Blk (((wq.drew.alloc (.cells #[.int .i64 0, .int .i64 0, .int .i64 0, .int .i64 0, .int .i64 0, .int .i64 0, .int .i64 0, .int .i64 0, .int .i64 0, .int .i64 0, .int .i64 0, .int .i64 0, .int .i64 0, .int .i64 0] 32)).alloc (.cells #[.int .i64 0, .int .i64 0, .int .i64 0, .int .i64 0, .int .i64 0, .int .i64 0] 22)).more os d) wq.heap.size 32 #[.int .i64 0, .int .i64 0, .int .i64 0, .int .i64 0, .int .i64 0, .int .i64 0, .int .i64 0, .int .i64 0, .int .i64 0, .int .i64 0, .int .i64 0, .int .i64 0, .int .i64 0, .int .i64 0] := ((Blk.new' (by simp)).alloc _).more _ _
    have hmq : More wq (((wq.drew.alloc (.cells #[.int .i64 0, .int .i64 0, .int .i64 0, .int .i64 0, .int .i64 0, .int .i64 0, .int .i64 0, .int .i64 0, .int .i64 0, .int .i64 0, .int .i64 0, .int .i64 0, .int .i64 0, .int .i64 0] 32)).alloc (.cells #[.int .i64 0, .int .i64 0, .int .i64 0, .int .i64 0, .int .i64 0, .int .i64 0] 22)).more os d) := (by repeat (first | (with_reducible assumption) | (with_reducible exact More.refl _) | (with_reducible refine More.alloc ?_ _) | (with_reducible refine More.more ?_ _ _) | (with_reducible refine More.drewN ?_ _) | (with_reducible refine More.drew ?_)))
    have hc2 : (((wq.drew.alloc (.cells #[.int .i64 0, .int .i64 0, .int .i64 0, .int .i64 0, .int .i64 0, .int .i64 0, .int .i64 0, .int .i64 0, .int .i64 0, .int .i64 0, .int .i64 0, .int .i64 0, .int .i64 0, .int .i64 0] 32)).alloc (.cells #[.int .i64 0, .int .i64 0, .int .i64 0, .int .i64 0, .int .i64 0, .int .i64 0] 22)).more os d).cell? ⟨g, 2, none⟩ = some (.int .i64 1) := hg2
    have hc3 : (((wq.drew.alloc (.cells #[.int .i64 0, .int .i64 0, .int .i64 0, .int .i64 0, .int .i64 0, .int .i64 0, .int .i64 0, .int .i64 0, .int .i64 0, .int .i64 0, .int .i64 0, .int .i64 0, .int .i64 0, .int .i64 0] 32)).alloc (.cells #[.int .i64 0, .int .i64 0, .int .i64 0, .int .i64 0, .int .i64 0, .int .i64 0] 22)).more os d).cell? ⟨g, 3, none⟩ = some (.int .i64 1) := hg3
    obtain ⟨B0, hBe⟩ : ∃ B0, B0 = wq.heap.size := ⟨_, rfl⟩
    have hle : w.heap.size ≤ B0 := by have := hm.below.size; omega
    have hGB : G < B0 := by omega
    have hGs : B0 ≤ wq.heap.size := by omega
    have hgs : g ≠ wq.heap.size := by have := hgn; simp at this; omega
    clear hg2 hg3
    generalize (((wq.drew.alloc (.cells #[.int .i64 0, .int .i64 0, .int .i64 0, .int .i64 0, .int .i64 0, .int .i64 0, .int .i64 0, .int .i64 0, .int .i64 0, .int .i64 0, .int .i64 0, .int .i64 0, .int .i64 0, .int .i64 0] 32)).alloc (.cells #[.int .i64 0, .int .i64 0, .int .i64 0, .int .i64 0, .int .i64 0, .int .i64 0] 22)).more os d) = wx at *
    generalize hSe : wq.heap.size = ST at *
    have t0 : wx.cell? ⟨ST, 0, none⟩ = some (.int .i64 0) := hST.cell 0
    have t1 : wx.cell? ⟨ST, 1, none⟩ = some (.int .i64 0) := hST.cell 1
    have t2 : wx.cell? ⟨ST, 2, none⟩ = some (.int .i64 0) := hST.cell 2
    have t3 : wx.cell? ⟨ST, 3, none⟩ = some (.int .i64 0) := hST.cell 3
    have t4 : wx.cell? ⟨ST, 4, none⟩ = some (.int .i64 0) := hST.cell 4
    have t5 : wx.cell? ⟨ST, 5, none⟩ = some (.int .i64 0) := hST.cell 5
    have t6 : wx.cell? ⟨ST, 6, none⟩ = some (.int .i64 0) := hST.cell 6
    have t7 : wx.cell? ⟨ST, 7, none⟩ = some (.int .i64 0) := hST.cell 7
    have t8 : wx.cell? ⟨ST, 8, none⟩ = some (.int .i64 0) := hST.cell 8
    have t9 : wx.cell? ⟨ST, 9, none⟩ = some (.int .i64 0) := hST.cell 9
    have t10 : wx.cell? ⟨ST, 10, none⟩ = some (.int .i64 0) := hST.cell 10
    have t11 : wx.cell? ⟨ST, 11, none⟩ = some (.int .i64 0) := hST.cell 11
    have t12 : wx.cell? ⟨ST, 12, none⟩ = some (.int .i64 0) := hST.cell 12
    have t13 : wx.cell? ⟨ST, 13, none⟩ = some (.int .i64 0) := hST.cell 13
    have u0 : wx.frozen? ⟨ST, 0, none⟩ = false := hST.frozen 0
    have u1 : wx.frozen? ⟨ST, 1, none⟩ = false := hST.frozen 1
    have u2 : wx.frozen? ⟨ST, 2, none⟩ = false := hST.frozen 2
    have u3 : wx.frozen? ⟨ST, 3, none⟩ = false := hST.frozen 3
    have u4 : wx.frozen? ⟨ST, 4, none⟩ = false := hST.frozen 4
    have u5 : wx.frozen? ⟨ST, 5, none⟩ = false := hST.frozen 5
    have u6 : wx.frozen? ⟨ST, 6, none⟩ = false := hST.frozen 6
    have u7 : wx.frozen? ⟨ST, 7, none⟩ = false := hST.frozen 7
    have u8 : wx.frozen? ⟨ST, 8, none⟩ = false := hST.frozen 8
    have u9 : wx.frozen? ⟨ST, 9, none⟩ = false := hST.frozen 9
    have u10 : wx.frozen? ⟨ST, 10, none⟩ = false := hST.frozen 10
    have u11 : wx.frozen? ⟨ST, 11, none⟩ = false := hST.frozen 11
    have u12 : wx.frozen? ⟨ST, 12, none⟩ = false := hST.frozen 12
    have u13 : wx.frozen? ⟨ST, 13, none⟩ = false := hST.frozen 13
    refine wpAnyH_ready (rs := [9]) (by kernel_rfl) (by simp) ?_
    refine AllReadyH.cons rfl (fun K hK => ?_) AllReadyH.nil
    go_simp
    refine hK.out _ _ ?_ (fun hHeld => ?_)
    · exact (Blk.far (Blk.far (Blk.far (Blk.far (Blk.far (Blk.far (Blk.far (Blk.far (Blk.far (Blk.far (Blk.far (Blk.far (Blk.far (Blk.far hHeld (p := ⟨ST, 0, none⟩) (by simp only [ne_eq]; omega) (.int .i64 1)) (p := ⟨ST, 1, none⟩) (by simp only [ne_eq]; omega) (.int .i64 3)) (p := ⟨ST, 2, none⟩) (by simp only [ne_eq]; omega) (.int .i64 0)) (p := ⟨ST, 3, none⟩) (by simp only [ne_eq]; omega) (.int .i64 0)) (p := ⟨ST, 4, none⟩) (by simp only [ne_eq]; omega) (.int .i64 0)) (p := ⟨ST, 5, none⟩) (by simp only [ne_eq]; omega) (.int .i64 0)) (p := ⟨ST, 6, none⟩) (by simp only [ne_eq]; omega) (.int .i64 1)) (p := ⟨ST, 7, none⟩) (by simp only [ne_eq]; omega) (.int .i64 3)) (p := ⟨ST, 8, none⟩) (by simp only [ne_eq]; omega) (.int .i64 0)) (p := ⟨ST, 9, none⟩) (by simp only [ne_eq]; omega) (.int .i64 0)) (p := ⟨ST, 10, none⟩) (by simp only [ne_eq]; omega) (.int .i64 0)) (p := ⟨ST, 11, none⟩) (by simp only [ne_eq]; omega) (.int .i64 0)) (p := ⟨ST, 12, none⟩) (by simp only [ne_eq]; omega) (.int .i64 2)) (p := ⟨ST, 13, none⟩) (by simp only [ne_eq]; omega) (.int .i64 2))
    clear hK K
    try simp only [List.getElem_toArray, List.getElem_cons_zero, List.getElem_cons_succ, Act.put, List.setIfInBounds_toArray, List.set_cons_zero, List.set_cons_succ]
    refine wpAnyH_take (i := 10) (v := ?_) rfl (by kernel_rfl) (by kernel_rfl) (by kernel_rfl) (fun _ _ _ h => h) (Or.inl ⟨by rfl, ?_⟩) (by assumption) ?_
    rotate_left 1
    · intro w' hSw
      have hl0 : w'.cell? ⟨G, 0, none⟩ = some (.int .i64 1) := Blk.cell (t := 24) (cs := #[.int .i64 1, .int .i64 1, .int .i64 2, .int .i64 4, .int .i64 0]) hSw 0
      have hl1 : w'.cell? ⟨G, 1, none⟩ = some (.int .i64 1) := Blk.cell (t := 24) (cs := #[.int .i64 1, .int .i64 1, .int .i64 2, .int .i64 4, .int .i64 0]) hSw 1
      have hl2 : w'.cell? ⟨G, 2, none⟩ = some (.int .i64 2) := Blk.cell (t := 24) (cs := #[.int .i64 1, .int .i64 1, .int .i64 2, .int .i64 4, .int .i64 0]) hSw 2
      have hl3 : w'.cell? ⟨G, 3, none⟩ = some (.int .i64 4) := Blk.cell (t := 24) (cs := #[.int .i64 1, .int .i64 1, .int .i64 2, .int .i64 4, .int .i64 0]) hSw 3
      have hl4 : w'.cell? ⟨G, 4, none⟩ = some (.int .i64 0) := Blk.cell (t := 24) (cs := #[.int .i64 1, .int .i64 1, .int .i64 2, .int .i64 4, .int .i64 0]) hSw 4
      go_simp
      try (with_reducible rfl)
    try simp only [List.getElem_toArray, List.getElem_cons_zero, List.getElem_cons_succ, Act.put, List.setIfInBounds_toArray, List.set_cons_zero, List.set_cons_succ]
    refine wpAnyH_done (by kernel_rfl) ?_ _
    have hSy : Blk ((((((((((((((wx.setCell ⟨ST, 0, none⟩ (.int .i64 1)).setCell ⟨ST, 1, none⟩ (.int .i64 3)).setCell ⟨ST, 2, none⟩ (.int .i64 0)).setCell ⟨ST, 3, none⟩ (.int .i64 0)).setCell ⟨ST, 4, none⟩ (.int .i64 0)).setCell ⟨ST, 5, none⟩ (.int .i64 0)).setCell ⟨ST, 6, none⟩ (.int .i64 1)).setCell ⟨ST, 7, none⟩ (.int .i64 3)).setCell ⟨ST, 8, none⟩ (.int .i64 0)).setCell ⟨ST, 9, none⟩ (.int .i64 0)).setCell ⟨ST, 10, none⟩ (.int .i64 0)).setCell ⟨ST, 11, none⟩ (.int .i64 0)).setCell ⟨ST, 12, none⟩ (.int .i64 2)).setCell ⟨ST, 13, none⟩ (.int .i64 2)) ST 32 #[.int .i64 1, .int .i64 3, .int .i64 0, .int .i64 0, .int .i64 0, .int .i64 0, .int .i64 1, .int .i64 3, .int .i64 0, .int .i64 0, .int .i64 0, .int .i64 0, .int .i64 2, .int .i64 2] := by
      have hh := ((((((((((((((hST.put 0 (.int .i64 1)).put 1 (.int .i64 3)).put 2 (.int .i64 0)).put 3 (.int .i64 0)).put 4 (.int .i64 0)).put 5 (.int .i64 0)).put 6 (.int .i64 1)).put 7 (.int .i64 3)).put 8 (.int .i64 0)).put 9 (.int .i64 0)).put 10 (.int .i64 0)).put 11 (.int .i64 0)).put 12 (.int .i64 2)).put 13 (.int .i64 2))
      simpa only [List.setIfInBounds_toArray, List.set_cons_zero, List.set_cons_succ] using hh
    have hby : Below B0 wx ((((((((((((((wx.setCell ⟨ST, 0, none⟩ (.int .i64 1)).setCell ⟨ST, 1, none⟩ (.int .i64 3)).setCell ⟨ST, 2, none⟩ (.int .i64 0)).setCell ⟨ST, 3, none⟩ (.int .i64 0)).setCell ⟨ST, 4, none⟩ (.int .i64 0)).setCell ⟨ST, 5, none⟩ (.int .i64 0)).setCell ⟨ST, 6, none⟩ (.int .i64 1)).setCell ⟨ST, 7, none⟩ (.int .i64 3)).setCell ⟨ST, 8, none⟩ (.int .i64 0)).setCell ⟨ST, 9, none⟩ (.int .i64 0)).setCell ⟨ST, 10, none⟩ (.int .i64 0)).setCell ⟨ST, 11, none⟩ (.int .i64 0)).setCell ⟨ST, 12, none⟩ (.int .i64 2)).setCell ⟨ST, 13, none⟩ (.int .i64 2)) := (((((((((((((((Below.refl B0 wx).setCell (p := ⟨ST, 0, none⟩) hGs (.int .i64 1)).setCell (p := ⟨ST, 1, none⟩) hGs (.int .i64 3)).setCell (p := ⟨ST, 2, none⟩) hGs (.int .i64 0)).setCell (p := ⟨ST, 3, none⟩) hGs (.int .i64 0)).setCell (p := ⟨ST, 4, none⟩) hGs (.int .i64 0)).setCell (p := ⟨ST, 5, none⟩) hGs (.int .i64 0)).setCell (p := ⟨ST, 6, none⟩) hGs (.int .i64 1)).setCell (p := ⟨ST, 7, none⟩) hGs (.int .i64 3)).setCell (p := ⟨ST, 8, none⟩) hGs (.int .i64 0)).setCell (p := ⟨ST, 9, none⟩) hGs (.int .i64 0)).setCell (p := ⟨ST, 10, none⟩) hGs (.int .i64 0)).setCell (p := ⟨ST, 11, none⟩) hGs (.int .i64 0)).setCell (p := ⟨ST, 12, none⟩) hGs (.int .i64 2)).setCell (p := ⟨ST, 13, none⟩) hGs (.int .i64 2))
    have d2 : ((((((((((((((wx.setCell ⟨ST, 0, none⟩ (.int .i64 1)).setCell ⟨ST, 1, none⟩ (.int .i64 3)).setCell ⟨ST, 2, none⟩ (.int .i64 0)).setCell ⟨ST, 3, none⟩ (.int .i64 0)).setCell ⟨ST, 4, none⟩ (.int .i64 0)).setCell ⟨ST, 5, none⟩ (.int .i64 0)).setCell ⟨ST, 6, none⟩ (.int .i64 1)).setCell ⟨ST, 7, none⟩ (.int .i64 3)).setCell ⟨ST, 8, none⟩ (.int .i64 0)).setCell ⟨ST, 9, none⟩ (.int .i64 0)).setCell ⟨ST, 10, none⟩ (.int .i64 0)).setCell ⟨ST, 11, none⟩ (.int .i64 0)).setCell ⟨ST, 12, none⟩ (.int .i64 2)).setCell ⟨ST, 13, none⟩ (.int .i64 2)).cell? ⟨g, 2, none⟩ = some (.int .i64 1) := far14 hc2 (Ne.symm hgs)
    have d3 : ((((((((((((((wx.setCell ⟨ST, 0, none⟩ (.int .i64 1)).setCell ⟨ST, 1, none⟩ (.int .i64 3)).setCell ⟨ST, 2, none⟩ (.int .i64 0)).setCell ⟨ST, 3, none⟩ (.int .i64 0)).setCell ⟨ST, 4, none⟩ (.int .i64 0)).setCell ⟨ST, 5, none⟩ (.int .i64 0)).setCell ⟨ST, 6, none⟩ (.int .i64 1)).setCell ⟨ST, 7, none⟩ (.int .i64 3)).setCell ⟨ST, 8, none⟩ (.int .i64 0)).setCell ⟨ST, 9, none⟩ (.int .i64 0)).setCell ⟨ST, 10, none⟩ (.int .i64 0)).setCell ⟨ST, 11, none⟩ (.int .i64 0)).setCell ⟨ST, 12, none⟩ (.int .i64 2)).setCell ⟨ST, 13, none⟩ (.int .i64 2)).cell? ⟨g, 3, none⟩ = some (.int .i64 1) := far14 hc3 (Ne.symm hgs)
    have f0 : ((((((((((((((wx.setCell ⟨ST, 0, none⟩ (.int .i64 1)).setCell ⟨ST, 1, none⟩ (.int .i64 3)).setCell ⟨ST, 2, none⟩ (.int .i64 0)).setCell ⟨ST, 3, none⟩ (.int .i64 0)).setCell ⟨ST, 4, none⟩ (.int .i64 0)).setCell ⟨ST, 5, none⟩ (.int .i64 0)).setCell ⟨ST, 6, none⟩ (.int .i64 1)).setCell ⟨ST, 7, none⟩ (.int .i64 3)).setCell ⟨ST, 8, none⟩ (.int .i64 0)).setCell ⟨ST, 9, none⟩ (.int .i64 0)).setCell ⟨ST, 10, none⟩ (.int .i64 0)).setCell ⟨ST, 11, none⟩ (.int .i64 0)).setCell ⟨ST, 12, none⟩ (.int .i64 2)).setCell ⟨ST, 13, none⟩ (.int .i64 2)).cell? ⟨G, 0, none⟩ = some (.int .i64 1) := Blk.cell hHeld 0
    have f1 : ((((((((((((((wx.setCell ⟨ST, 0, none⟩ (.int .i64 1)).setCell ⟨ST, 1, none⟩ (.int .i64 3)).setCell ⟨ST, 2, none⟩ (.int .i64 0)).setCell ⟨ST, 3, none⟩ (.int .i64 0)).setCell ⟨ST, 4, none⟩ (.int .i64 0)).setCell ⟨ST, 5, none⟩ (.int .i64 0)).setCell ⟨ST, 6, none⟩ (.int .i64 1)).setCell ⟨ST, 7, none⟩ (.int .i64 3)).setCell ⟨ST, 8, none⟩ (.int .i64 0)).setCell ⟨ST, 9, none⟩ (.int .i64 0)).setCell ⟨ST, 10, none⟩ (.int .i64 0)).setCell ⟨ST, 11, none⟩ (.int .i64 0)).setCell ⟨ST, 12, none⟩ (.int .i64 2)).setCell ⟨ST, 13, none⟩ (.int .i64 2)).cell? ⟨G, 1, none⟩ = some (.int .i64 1) := Blk.cell hHeld 1
    have f2 : ((((((((((((((wx.setCell ⟨ST, 0, none⟩ (.int .i64 1)).setCell ⟨ST, 1, none⟩ (.int .i64 3)).setCell ⟨ST, 2, none⟩ (.int .i64 0)).setCell ⟨ST, 3, none⟩ (.int .i64 0)).setCell ⟨ST, 4, none⟩ (.int .i64 0)).setCell ⟨ST, 5, none⟩ (.int .i64 0)).setCell ⟨ST, 6, none⟩ (.int .i64 1)).setCell ⟨ST, 7, none⟩ (.int .i64 3)).setCell ⟨ST, 8, none⟩ (.int .i64 0)).setCell ⟨ST, 9, none⟩ (.int .i64 0)).setCell ⟨ST, 10, none⟩ (.int .i64 0)).setCell ⟨ST, 11, none⟩ (.int .i64 0)).setCell ⟨ST, 12, none⟩ (.int .i64 2)).setCell ⟨ST, 13, none⟩ (.int .i64 2)).cell? ⟨G, 2, none⟩ = some (.int .i64 2) := Blk.cell hHeld 2
    have f3 : ((((((((((((((wx.setCell ⟨ST, 0, none⟩ (.int .i64 1)).setCell ⟨ST, 1, none⟩ (.int .i64 3)).setCell ⟨ST, 2, none⟩ (.int .i64 0)).setCell ⟨ST, 3, none⟩ (.int .i64 0)).setCell ⟨ST, 4, none⟩ (.int .i64 0)).setCell ⟨ST, 5, none⟩ (.int .i64 0)).setCell ⟨ST, 6, none⟩ (.int .i64 1)).setCell ⟨ST, 7, none⟩ (.int .i64 3)).setCell ⟨ST, 8, none⟩ (.int .i64 0)).setCell ⟨ST, 9, none⟩ (.int .i64 0)).setCell ⟨ST, 10, none⟩ (.int .i64 0)).setCell ⟨ST, 11, none⟩ (.int .i64 0)).setCell ⟨ST, 12, none⟩ (.int .i64 2)).setCell ⟨ST, 13, none⟩ (.int .i64 2)).cell? ⟨G, 3, none⟩ = some (.int .i64 4) := Blk.cell hHeld 3
    have f4 : ((((((((((((((wx.setCell ⟨ST, 0, none⟩ (.int .i64 1)).setCell ⟨ST, 1, none⟩ (.int .i64 3)).setCell ⟨ST, 2, none⟩ (.int .i64 0)).setCell ⟨ST, 3, none⟩ (.int .i64 0)).setCell ⟨ST, 4, none⟩ (.int .i64 0)).setCell ⟨ST, 5, none⟩ (.int .i64 0)).setCell ⟨ST, 6, none⟩ (.int .i64 1)).setCell ⟨ST, 7, none⟩ (.int .i64 3)).setCell ⟨ST, 8, none⟩ (.int .i64 0)).setCell ⟨ST, 9, none⟩ (.int .i64 0)).setCell ⟨ST, 10, none⟩ (.int .i64 0)).setCell ⟨ST, 11, none⟩ (.int .i64 0)).setCell ⟨ST, 12, none⟩ (.int .i64 2)).setCell ⟨ST, 13, none⟩ (.int .i64 2)).cell? ⟨G, 4, none⟩ = some (.int .i64 0) := Blk.cell hHeld 4
    clear hHeld
    generalize ((((((((((((((wx.setCell ⟨ST, 0, none⟩ (.int .i64 1)).setCell ⟨ST, 1, none⟩ (.int .i64 3)).setCell ⟨ST, 2, none⟩ (.int .i64 0)).setCell ⟨ST, 3, none⟩ (.int .i64 0)).setCell ⟨ST, 4, none⟩ (.int .i64 0)).setCell ⟨ST, 5, none⟩ (.int .i64 0)).setCell ⟨ST, 6, none⟩ (.int .i64 1)).setCell ⟨ST, 7, none⟩ (.int .i64 3)).setCell ⟨ST, 8, none⟩ (.int .i64 0)).setCell ⟨ST, 9, none⟩ (.int .i64 0)).setCell ⟨ST, 10, none⟩ (.int .i64 0)).setCell ⟨ST, 11, none⟩ (.int .i64 0)).setCell ⟨ST, 12, none⟩ (.int .i64 2)).setCell ⟨ST, 13, none⟩ (.int .i64 2)) = wy at *
    have g0 : wy.cell? ⟨ST, 0, none⟩ = some (.int .i64 1) := hSy.cell 0
    have g1 : wy.cell? ⟨ST, 1, none⟩ = some (.int .i64 3) := hSy.cell 1
    have g2 : wy.cell? ⟨ST, 2, none⟩ = some (.int .i64 0) := hSy.cell 2
    have g3 : wy.cell? ⟨ST, 3, none⟩ = some (.int .i64 0) := hSy.cell 3
    have g4 : wy.cell? ⟨ST, 4, none⟩ = some (.int .i64 0) := hSy.cell 4
    have g5 : wy.cell? ⟨ST, 5, none⟩ = some (.int .i64 0) := hSy.cell 5
    have g6 : wy.cell? ⟨ST, 6, none⟩ = some (.int .i64 1) := hSy.cell 6
    have g7 : wy.cell? ⟨ST, 7, none⟩ = some (.int .i64 3) := hSy.cell 7
    have g8 : wy.cell? ⟨ST, 8, none⟩ = some (.int .i64 0) := hSy.cell 8
    have g9 : wy.cell? ⟨ST, 9, none⟩ = some (.int .i64 0) := hSy.cell 9
    have g10 : wy.cell? ⟨ST, 10, none⟩ = some (.int .i64 0) := hSy.cell 10
    have g11 : wy.cell? ⟨ST, 11, none⟩ = some (.int .i64 0) := hSy.cell 11
    have g12 : wy.cell? ⟨ST, 12, none⟩ = some (.int .i64 2) := hSy.cell 12
    have g13 : wy.cell? ⟨ST, 13, none⟩ = some (.int .i64 2) := hSy.cell 13
    have hbw : Below w.heap.size w wy := hm.below.trans ((hmq.below.mono hm.below.size).trans (hby.mono hle))
    have hGw : G < wy.heap.size := World.block_lt_of_cell? _ _ f0
    have hTw : ST < wy.heap.size := hSy.lt
    clear hm hmq hST hby hGl
    go_wp2_with fail
    refine (wrong_kind0 0 0 0 0 0 _ (fun h => by rcases h with h | h | h <;> cases h)).mono ?_
    rintro e w1 ⟨rfl, os5, d5, rfl⟩
    go_wp2_with fail
    refine (right_yes 1 1 2 4 0 1 3 0 0 0 0 1 3 0 0 0 0 2 2 _ (Or.inl rfl) (Or.inl rfl) ⟨by decide, by decide, by decide, by decide, by decide, by decide⟩ HD.out).mono ?_
    rintro e w1 ⟨rfl, os6, d6, rfl⟩
    go_wp2
    go_ret
    exact ⟨rfl, (More.of_below hbw).trans (by repeat (first | (with_reducible assumption) | (with_reducible exact More.refl _) | (with_reducible refine More.alloc ?_ _) | (with_reducible refine More.more ?_ _ _) | (with_reducible refine More.drewN ?_ _) | (with_reducible refine More.drew ?_)))⟩
end Go.Proofs.Ytehlgomjgmabeaa
