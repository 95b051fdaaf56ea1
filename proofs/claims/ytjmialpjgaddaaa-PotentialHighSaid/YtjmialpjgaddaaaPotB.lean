/- alive17 answers true. Conditions: none. -/
import Derived.Test.YtjmialpjgaddaaaPotA
set_option linter.unusedVariables false
set_option linter.unusedSimpArgs false
namespace Go.Proofs.Ytjmialpjgaddaaa
open Go.RowKit Go.Tide
set_option linter.unusedVariables false
set_option linter.unusedSimpArgs false
set_option maxRecDepth 20000 in
set_option maxHeartbeats 4000000 in
theorem pot_alive (w : World) : Calls Try.prog 12 #[] w fun e w' => e = .returned (.bool true) ∧ Below w.heap.size w w' := by
  obtain ⟨v, m, V, hv, hR⟩ := cycle_round gB_right gB_L
  obtain rfl := gB_m hv hR
  have HV := Lib.hid hv
  have HR := Lib.hid hR
  clear hv hR
  have hE0 := (Blk.new w 38 #[.int .i64 0, .int .i64 1, .int .i64 5, .int .i64 1, .int .i64 2, .int .i64 (-2), .int .i64 2, .int .i64 0, .int .i64 (-3)]).alloc (.cells #[.int .i64 3, .slice (some ⟨w.heap.size, 0, none⟩) 3 3] 34)
  have hG0 : Blk _ (w.heap.size + 1) _ _ := Blk.new' (w := w.alloc (.cells #[.int .i64 0, .int .i64 1, .int .i64 5, .int .i64 1, .int .i64 2, .int .i64 (-2), .int .i64 2, .int .i64 0, .int .i64 (-3)] 38)) (t := 34) (cs := #[.int .i64 3, .slice (some ⟨w.heap.size, 0, none⟩) 3 3]) (by simp)
  have HB : Hid (Below w.heap.size w ((w.alloc (.cells #[.int .i64 0, .int .i64 1, .int .i64 5, .int .i64 1, .int .i64 2, .int .i64 (-2), .int .i64 2, .int .i64 0, .int .i64 (-3)] 38)).alloc (.cells #[.int .i64 3, .slice (some ⟨w.heap.size, 0, none⟩) 3 3] 34))) := (More.below (by repeat (first | (with_reducible assumption) | (with_reducible exact More.refl _) | (with_reducible refine More.alloc ?_ _) | (with_reducible refine More.more ?_ _ _) | (with_reducible refine More.drewN ?_ _) | (with_reducible refine More.drew ?_))))
  go_enter Try.func12, Try.ntmps12
  go_wp2_with fail
  generalize (w.alloc (.cells #[.int .i64 0, .int .i64 1, .int .i64 5, .int .i64 1, .int .i64 2, .int .i64 (-2), .int .i64 2, .int .i64 0, .int .i64 (-3)] 38)).alloc (.cells #[.int .i64 3, .slice (some ⟨w.heap.size, 0, none⟩) 3 3] 34) = w0 at *
  have hgE : w.heap.size < w0.heap.size := hE0.lt
  have hgG : w.heap.size + 1 < w0.heap.size := hG0.lt
  obtain ⟨E, hEe⟩ : ∃ E, Hid (E = w.heap.size) := ⟨_, rfl⟩
  have HEl : Hid (w.heap.size ≤ E) := by show _ ≤ _; have := hEe.out; omega
  generalize w.heap.size = E' at hE0 hG0 hgE hgG hEe ⊢
  obtain rfl : E = E' := hEe.out
  clear hEe
  refine (most_any 3 _ 3 _ gA _ (RowC.of_blk [0, 1, 5, 1, 2, -2, 2, 0, -3] hE0 rfl) gA_right).mono ?_
  rintro e w1 ⟨h1, hb1⟩
  have h1' : ∃ g, e = .returned (.tuple #[.slice (some ⟨g, 0, none⟩) 3 3, .int .i64 0]) ∧ w0.heap.size ≤ g ∧ Row w1 (some ⟨g, 0, none⟩) 3 (solved gA 3 3).M := by
    rcases h1 with ⟨h, _⟩ | ⟨_, h⟩
    · rw [gA_L] at h; omega
    · exact h
  obtain ⟨gm, rfl, hgm, hm⟩ := h1'
  have hne : E ≠ gm := by omega
  have hE1 := hE0.below hb1 hgE
  have hG1 := hG0.below hb1 hgG
  have hs1 := hb1.size
  obtain ⟨b1, o1, x1, hx, hlt1, hc1, hx1⟩ := hm.at_ (show 1 < 3 by omega)
  obtain ⟨rfl, rfl⟩ : gm = b1 ∧ 0 = o1 := by
    injection hx with hx
    injection hx with e1 e2
    exact ⟨e1, e2⟩
  obtain ⟨b2, o2, x2, hx', hlt2, hc2, hx2⟩ := hm.at_ (show 2 < 3 by omega)
  obtain ⟨rfl, rfl⟩ : gm = b2 ∧ 0 = o2 := by
    injection hx' with hx
    injection hx with e1 e2
    exact ⟨e1, e2⟩
  rw [hx1.out, gA_1] at hc1
  rw [hx2.out, gA_2] at hc2
  have HB1 : Hid (Below w.heap.size w w1) := HB.out.trans (hb1.mono HB.out.size)
  have hg1 := hG1.cell 0
  have hg2 := hG1.cell 1
  simp at hg1 hg2
  clear hm hx hx' hx1 hx2 h1 hb1 hE0 hG0 hgE hgG
  go_wp2_with fail
  refine (cycle_none 3 _ 3 _ gA _ (RowC.of_blk [0, 1, 5, 1, 2, -2, 2, 0, -3] hE1 rfl) gA_right (by rw [gA_L]; omega)).mono ?_
  rintro e w2 ⟨rfl, hb2⟩
  have hE2 := hE1.below hb2 hE1.lt
  have hG2 := hG1.below hb2 hG1.lt
  have hd1 := (hb2.cell (p := ⟨gm, 0 + 1, none⟩) hlt1).trans hc1
  have hd2 := (hb2.cell (p := ⟨gm, 0 + 2, none⟩) hlt1).trans hc2
  have hlt3 : gm < w2.heap.size := by have := hb2.size; omega
  have HB2 : Hid (Below w.heap.size w w2) := HB1.out.trans (hb2.mono HB1.out.size)
  have hi1 := hG2.cell 0
  have hi2 := hG2.cell 1
  have hi3 := hE2.cell 8
  have hi4 := hE2.frozen 8
  simp at hi1 hi2 hi3
  have hE3 := hE2.put 8 (.int .i64 (-2))
  have hG3 := hG2.far (p := ⟨E, 8, none⟩) (by simp) (.int .i64 (-2))
  have hf1 := (World.cell?_setCell_far w2 ⟨E, 8, none⟩ ⟨gm, 0 + 1, none⟩ (.int .i64 (-2)) hne).trans hd1
  have hf2 := (World.cell?_setCell_far w2 ⟨E, 8, none⟩ ⟨gm, 0 + 2, none⟩ (.int .i64 (-2)) hne).trans hd2
  have HB3 : Hid (Below w.heap.size w (w2.setCell ⟨E, 8, none⟩ (.int .i64 (-2)))) := HB2.out.setCell (p := ⟨E, 8, none⟩) HEl.out _
  have hlt4 : gm < (w2.setCell ⟨E, 8, none⟩ (.int .i64 (-2))).heap.size := by simpa [World.setCell] using hlt3
  clear hg1 hg2 hc1 hc2 hE1 hG1 hb2
  go_wp2_with fail
  clear hi1 hi2 hi3 hi4 hE2 hG2 hd1 hd2 HB2
  generalize w2.setCell ⟨E, 8, none⟩ (.int .i64 (-2)) = w3 at *
  refine (cycle_any 3 _ 3 _ gB _ (RowC.of_blk [0, 1, 5, 1, 2, -2, 2, 0, -2] hE3 rfl) gB_right v 3 _ V HV.out rfl HR.out.at_ HR.out.right (by omega) HR.out.round HR.out.once).mono ?_
  rintro e w4 ⟨g9, c9, rfl, _, _, hb4⟩
  have hk1 := (hb4.cell (p := ⟨gm, 0 + 1, none⟩) hlt4).trans hf1
  have hk2 := (hb4.cell (p := ⟨gm, 0 + 2, none⟩) hlt4).trans hf2
  have HB4 : Hid (Below w.heap.size w w4) := HB3.out.trans (hb4.mono HB3.out.size)
  clear hE3 hG3 hf1 hf2 hb4 HR HV
  go_wp2_with fail
  go_ret
  exact ⟨rfl, HB4.out⟩
end Go.Proofs.Ytjmialpjgaddaaa
