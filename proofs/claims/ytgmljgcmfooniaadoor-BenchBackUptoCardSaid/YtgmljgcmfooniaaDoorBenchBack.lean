/- BenchBack: the law returns true. Conditions: what the package-level variables hold (BTabs); a text of at most 1048576 bytes. -/
import Derived.Test.YtgmljgcmfooniaaDoorBnEq
import Derived.Test.YtgmljgcmfooniaaDoorOpen
set_option linter.unusedVariables false
set_option linter.unusedSimpArgs false
namespace Go.Proofs.YtgmljgcmfooniaaDoor
open Go.RowKit Go.Shelf Go.Tide
set_option linter.unusedVariables false
set_option linter.unusedSimpArgs false
theorem ppr_size {k0 k1 a b c er : Int} {t : ByteArray} (h : PPr k0 k1 a b c t er) : t.size < 4294967281 := by
  rcases h with ⟨a, b, c, rfl, rfl, rfl, ⟨_, _, hn⟩, rfl, _⟩ | ⟨_, rfl, _⟩
  · unfold dNums at hn
    have := bnText_len (k0 := k0) (k1 := k1) (rate := a) (buf := b) (jit := c) (by omega) (by omega) (by omega)
    show (bnText k0 k1 a b c).toArray.size < _
    simp only [List.size_toArray]
    omega
  · decide
/-- What is read is written as it was. -/
theorem ppr_back {s u : ByteArray} {k0 k1 a b c g h : Int} (hg : PPa s k0 k1 a b c g) (hu : PPr k0 k1 a b c u h) : g = 1 ∨ (g = 0 ∧ h = 0 ∧ u = s) := by
  rcases hg with ⟨rfl, hk, hs⟩ | ⟨rfl, _⟩
  · rcases hu with ⟨x, y, z, rfl, rfl, rfl, _, hu, rfl⟩ | ⟨hn, _⟩
    · refine .inr ⟨rfl, rfl, ?_⟩
      rw [hu, hs]
      rfl
    · exact absurd hk hn
  · exact .inl rfl
set_option maxRecDepth 20000 in
set_option maxHeartbeats 8000000 in
theorem benchBack_walk (a0_0 a0_1 a0_2 a0_3 a0_4 : Int) (s1 : ByteArray) (w : World) (hT0 : BTabs w) (u1 : s1.size ≤ 1048576) :
    Calls Tryd.prog 3 #[.agg #[.int .i64 a0_0, .int .i64 a0_1, .int .i64 a0_2, .int .i64 a0_3, .int .i64 a0_4], .string s1] w fun e w' => e = .returned (.bool true) ∧ Below w.heap.size w w' := by
  have hT : Hid (BTabs w) := hT0
  clear hT0
  go_enter Tryd.func3, Tryd.ntmps3
  go_wp2_with fail
  refine (bench_alive _ (hT.out.more (by repeat (first | (with_reducible exact More.refl _) | (with_reducible refine More.alloc ?_ _) | (with_reducible refine More.more ?_ _ _) | (with_reducible refine More.drewN ?_ _) | (with_reducible refine More.drew ?_))))).mono ?_
  rintro e w' ⟨rfl, os1, d1, rfl⟩
  go_wp2_with fail
  have hM : More w ((w.alloc (.cells #[.int .i64 a0_0, .int .i64 a0_1, .int .i64 a0_2, .int .i64 a0_3, .int .i64 a0_4] 24)).more os1 d1) := (by repeat (first | (with_reducible exact More.refl _) | (with_reducible refine More.alloc ?_ _) | (with_reducible refine More.more ?_ _ _) | (with_reducible refine More.drewN ?_ _) | (with_reducible refine More.drew ?_)))
  have hR : Blk ((w.alloc (.cells #[.int .i64 a0_0, .int .i64 a0_1, .int .i64 a0_2, .int .i64 a0_3, .int .i64 a0_4] 24)).more os1 d1) w.heap.size 24 #[.int .i64 a0_0, .int .i64 a0_1, .int .i64 a0_2, .int .i64 a0_3, .int .i64 a0_4] := (by repeat (first | (with_reducible assumption) | ((with_reducible refine Blk.new' ?_); (simp [Nat.add_assoc]; done)) | (with_reducible refine Blk.alloc ?_ _) | (with_reducible refine Blk.more ?_ _ _) | (with_reducible refine Blk.drew ?_) | (with_reducible refine Blk.drewN ?_ _)))
  generalize ((w.alloc (.cells #[.int .i64 a0_0, .int .i64 a0_1, .int .i64 a0_2, .int .i64 a0_3, .int .i64 a0_4] 24)).more os1 d1) = wa at *
  refine (print_any a0_0 a0_1 a0_2 a0_3 a0_4 wa (hT.out.more hM)).mono ?_
  rintro e w' ⟨t, er, rfl, HP, os2, d2, rfl⟩
  replace hM := hM.trans (show More wa (wa.more os2 d2) from (by repeat (first | (with_reducible exact More.refl _) | (with_reducible refine More.alloc ?_ _) | (with_reducible refine More.more ?_ _ _) | (with_reducible refine More.drewN ?_ _) | (with_reducible refine More.drew ?_))))
  replace hR := hR.more os2 d2
  generalize wa.more os2 d2 = wb at *
  go_wp2_with fail
  refine (parse_any t (ppr_size HP.out) _ (hT.out.more hM)).mono ?_
  rintro e w' ⟨x0, x1, x2, x3, x4, fr, rfl, HQ, os3, d3, rfl⟩
  replace hM := hM.trans (show More wb (wb.more os3 d3) from (by repeat (first | (with_reducible exact More.refl _) | (with_reducible refine More.alloc ?_ _) | (with_reducible refine More.more ?_ _ _) | (with_reducible refine More.drewN ?_ _) | (with_reducible refine More.drew ?_))))
  replace hR := hR.more os3 d3
  generalize wb.more os3 d3 = wc at *
  by_cases hk : BOk a0_0 a0_1 a0_2 a0_3 a0_4
  · have hall : er = 0 ∧ fr = 0 ∧ x0 = a0_0 ∧ x1 = a0_1 ∧ x2 = a0_2 ∧ x3 = a0_3 ∧ x4 = a0_4 := by
      rcases HP.out with ⟨a, b, c, rfl, rfl, rfl, _, ht, he⟩ | ⟨hn, _⟩
      · have hq := HQ.out
        rw [ht] at hq
        obtain ⟨h1, h2, h3, h4, h5, h6⟩ := ppa_text hk hq
        exact ⟨he, h1, h2, h3, h4, h5, h6⟩
      · exact absurd hk hn
    obtain ⟨rfl, rfl, rfl, rfl, rfl, rfl, rfl⟩ := hall
    clear HP HQ hk
    have r0 : wc.cell? ⟨w.heap.size, 0, none⟩ = some (.int .i64 x0) := hR.cell 0
    have r1 : wc.cell? ⟨w.heap.size, 1, none⟩ = some (.int .i64 x1) := hR.cell 1
    have r2 : wc.cell? ⟨w.heap.size, 2, none⟩ = some (.int .i64 x2) := hR.cell 2
    have r3 : wc.cell? ⟨w.heap.size, 3, none⟩ = some (.int .i64 x3) := hR.cell 3
    have r4 : wc.cell? ⟨w.heap.size, 4, none⟩ = some (.int .i64 x4) := hR.cell 4
    have lR := hR.lt
    clear hR
    go_wp2_with fail
    refine (parse_any s1 (by omega) _ (hT.out.more (hM.trans (by repeat (first | (with_reducible exact More.refl _) | (with_reducible refine More.alloc ?_ _) | (with_reducible refine More.more ?_ _ _) | (with_reducible refine More.drewN ?_ _) | (with_reducible refine More.drew ?_)))))).mono ?_
    rintro e w' ⟨y0, y1, y2, y3, y4, gr, rfl, HG, os4, d4, rfl⟩
    go_wp2_with fail
    refine (print_any y0 y1 y2 y3 y4 _ (hT.out.more (hM.trans (by repeat (first | (with_reducible exact More.refl _) | (with_reducible refine More.alloc ?_ _) | (with_reducible refine More.more ?_ _ _) | (with_reducible refine More.drewN ?_ _) | (with_reducible refine More.drew ?_)))))).mono ?_
    rintro e w' ⟨u, hr, rfl, HU, os5, d5, rfl⟩
    have hF := Lib.hid (ppr_back HG.out HU.out)
    clear HG HU
    rcases hF.out with rfl | ⟨rfl, rfl, rfl⟩
    · go_wp2
      go_ret
      exact ⟨rfl, More.below (hM.trans (by repeat (first | (with_reducible exact More.refl _) | (with_reducible refine More.alloc ?_ _) | (with_reducible refine More.more ?_ _ _) | (with_reducible refine More.drewN ?_ _) | (with_reducible refine More.drew ?_))))⟩
    · go_wp2
      go_ret
      exact ⟨rfl, More.below (hM.trans (by repeat (first | (with_reducible exact More.refl _) | (with_reducible refine More.alloc ?_ _) | (with_reducible refine More.more ?_ _ _) | (with_reducible refine More.drewN ?_ _) | (with_reducible refine More.drew ?_))))⟩
  · have hall : er = wErr a0_0 a0_1 a0_2 a0_3 a0_4 ∧ er ≠ 0 := by
      rcases HP.out with ⟨a, b, c, _, _, _, hk', _⟩ | ⟨_, _, h1, h2⟩
      · exact absurd hk' hk
      · exact ⟨h1, h2⟩
    have HA := Lib.hid hall
    have q0 : (er != 0) = true := by simpa using hall.2
    have q1 : (er == 0) = false := by simpa using hall.2
    have hW : ∀ W, Calls Tryd.prog 7 #[.agg #[.int .i64 a0_0, .int .i64 a0_1, .int .i64 a0_2, .int .i64 a0_3, .int .i64 a0_4]] W fun e w' => e = .returned (.int .i64 er) ∧ More W w' := by
      intro W
      rw [hall.1]
      exact wrong_fn _ _ _ _ _ W
    have HW := Lib.hid hW
    clear hall HP HQ hk hW
    have r0 : wc.cell? ⟨w.heap.size, 0, none⟩ = some (.int .i64 a0_0) := hR.cell 0
    have r1 : wc.cell? ⟨w.heap.size, 1, none⟩ = some (.int .i64 a0_1) := hR.cell 1
    have r2 : wc.cell? ⟨w.heap.size, 2, none⟩ = some (.int .i64 a0_2) := hR.cell 2
    have r3 : wc.cell? ⟨w.heap.size, 3, none⟩ = some (.int .i64 a0_3) := hR.cell 3
    have r4 : wc.cell? ⟨w.heap.size, 4, none⟩ = some (.int .i64 a0_4) := hR.cell 4
    have lR := hR.lt
    clear hR
    go_wp2_with fail
    refine (HW.out _).mono ?_
    rintro e w' ⟨rfl, os9, d9, rfl⟩
    go_wp2_with fail
    refine (parse_any s1 (by omega) _ (hT.out.more (hM.trans (by repeat (first | (with_reducible exact More.refl _) | (with_reducible refine More.alloc ?_ _) | (with_reducible refine More.more ?_ _ _) | (with_reducible refine More.drewN ?_ _) | (with_reducible refine More.drew ?_)))))).mono ?_
    rintro e w' ⟨y0, y1, y2, y3, y4, gr, rfl, HG, os4, d4, rfl⟩
    go_wp2_with fail
    refine (print_any y0 y1 y2 y3 y4 _ (hT.out.more (hM.trans (by repeat (first | (with_reducible exact More.refl _) | (with_reducible refine More.alloc ?_ _) | (with_reducible refine More.more ?_ _ _) | (with_reducible refine More.drewN ?_ _) | (with_reducible refine More.drew ?_)))))).mono ?_
    rintro e w' ⟨u, hr, rfl, HU, os5, d5, rfl⟩
    have hF := Lib.hid (ppr_back HG.out HU.out)
    clear HG HU
    rcases hF.out with rfl | ⟨rfl, rfl, rfl⟩
    · go_wp2
      go_ret
      exact ⟨rfl, More.below (hM.trans (by repeat (first | (with_reducible exact More.refl _) | (with_reducible refine More.alloc ?_ _) | (with_reducible refine More.more ?_ _ _) | (with_reducible refine More.drewN ?_ _) | (with_reducible refine More.drew ?_))))⟩
    · go_wp2
      go_ret
      exact ⟨rfl, More.below (hM.trans (by repeat (first | (with_reducible exact More.refl _) | (with_reducible refine More.alloc ?_ _) | (with_reducible refine More.more ?_ _ _) | (with_reducible refine More.drewN ?_ _) | (with_reducible refine More.drew ?_))))⟩
end Go.Proofs.YtgmljgcmfooniaaDoor
