/- potential.solve. Conditions: the graph is right. -/
import Derived.Test.YtnbjcohkkaijaaaPotS
import Derived.Test.YtnbjcohkkaijaaaRepeat
import Derived.Deep.OwnRows
set_option linter.unusedVariables false
set_option linter.unusedSimpArgs false
namespace Go.Tide
theorem solve_step {f : Nat → Nat → Int} {n t N : Nat} {s : PSt} (ht : t ≤ N) (h : solveAt f n (N + 1 - t) s = solved f n N) :
    ((rnd f n s).L < 0 → rnd f n s = solved f n N) ∧ (¬ (rnd f n s).L < 0 → solveAt f n (N + 1 - (t + 1)) (rnd f n s) = solved f n N) := by
  rw [show N + 1 - t = (N + 1 - (t + 1)) + 1 from by omega] at h
  unfold solveAt at h
  by_cases hc : (rnd f n s).L < 0
  · rw [if_pos hc] at h
    exact ⟨fun _ => h, fun h' => absurd hc h'⟩
  · rw [if_neg hc] at h
    exact ⟨fun h' => absurd h' hc, fun _ => h⟩
end Go.Tide
namespace Go.Proofs.Ytnbjcohkkaijaaa
open Go.RowKit Go.Tide
set_option linter.unusedVariables false
set_option linter.unusedSimpArgs false
theorem more_cell {w w' : World} {b i : Nat} (h : More w w') (hb : b < w.heap.size) : w'.cell? ⟨b, i, none⟩ = w.cell? ⟨b, i, none⟩ := by
  obtain ⟨os, n, rfl⟩ := h
  exact World.cell?_more w os n b i hb
theorem more_two {w w' : World} {b : Nat} {u v : Value} (hg : b < w.heap.size) (h0 : w.cell? ⟨b, 0, none⟩ = some u) (h1 : w.cell? ⟨b, 1, none⟩ = some v) (h : More w w') :
    w'.cell? ⟨b, 0, none⟩ = some u ∧ w'.cell? ⟨b, 1, none⟩ = some v ∧ More w w' := ⟨(more_cell h hg).trans h0, (more_cell h hg).trans h1, h⟩
theorem made_cells (N : Nat) : madeCells #[Value.int .i64 0] N = (cellsOf N (fun _ => 0)).toArray := by
  apply Array.toList_inj.1
  skip
  show (madeCells #[Value.int .i64 0] N).toList = cellsOf N _
  rw [toList_madeCells_one]
  apply List.ext_getElem?
  intro k
  by_cases hk : k < N
  · rw [cellsOf_get _ hk, List.getElem?_replicate, if_pos hk]
  · rw [List.getElem?_eq_none (by simp; omega), List.getElem?_eq_none (by simp [cellsOf_length]; omega)]
theorem rep_cells (N : Nat) (x : Int) : List.replicate N (Value.int .i64 x) = cellsOf N (fun _ => x) := by
  apply List.ext_getElem?
  intro k
  by_cases hk : k < N
  · rw [cellsOf_get _ hk, List.getElem?_replicate, if_pos hk]
  · rw [List.getElem?_eq_none (by simp; omega), List.getElem?_eq_none (by simp [cellsOf_length]; omega)]

theorem repeat_at (b off c : Nat) (x : Int) (n : Nat) (w : World) (hc : w.cell? ⟨b, off, none⟩ = some (.int .i64 x)) (hb : b < w.heap.size) (hn2 : n ≤ 300) :
    Calls Try.prog 16 #[.slice (some ⟨b, off, none⟩) 1 c, .int .i64 n] w fun e w' => ∃ g os d, e = .returned (.slice (some ⟨g, 0, none⟩) n n) ∧ w.heap.size = g ∧ w' = w.more os d ∧ Blk (w.more os d) g 3 (cellsOf n (fun _ => x)).toArray :=
  (repeat_blk b off c x n w hc hb hn2).mono fun e w' ⟨he, hB, hb⟩ => by
    obtain ⟨os, d, rfl⟩ := More.of_below hb
    rw [rep_cells] at hB
    exact ⟨_, os, d, he, rfl, rfl, hB⟩
set_option maxRecDepth 20000 in
set_option maxHeartbeats 4000000 in
theorem solve_any (w : World) (N : Nat) (a : Option Addr) (n c : Nat) (f : Nat → Nat → Int) (hr : RowC w 3 a n f) (hG : GRight N n f) :
    Calls Try.prog 18 #[.agg #[.int .i64 N, .slice a n c]] w fun e w' => ∃ S gm gb, e = .returned (.tuple #[.pointer (some ⟨S, 0, none⟩), .int .i64 (solved f n N).L]) ∧ Solv w w' S gm gb N a n c f (solved f n N).M (solved f n N).B := by
  have HG := Lib.hid hG
  have hN := hG.2.1
  have hN' : N ≤ 300 := by omega
  clear hG
  have hmk := fun W => run_make_row' (P := Try.prog) 35 3 (.int .i64 0) 8 Try.underlying35 intInfo rfl .i64 .i64 N (by omega) (by omega) W
  have hbg := Blk.new w 24 #[.int .i64 N, .slice a n c]
  have hg0 : (w.alloc (.cells #[.int .i64 N, .slice a n c] 24)).cell? ⟨w.heap.size, 0, none⟩ = some (.int .i64 N) := hbg.cell 0
  have hg1 : (w.alloc (.cells #[.int .i64 N, .slice a n c] 24)).cell? ⟨w.heap.size, 1, none⟩ = some (.slice a n c) := hbg.cell 1
  have hgl := hbg.lt
  clear hbg
  go_enter Try.func18, Try.ntmps18
  go_wp2_with fail
  have hmw : More w (w.alloc (.cells #[.int .i64 N, .slice a n c] 24)) := (More.refl w).alloc _
  have hrz := hr.alloc (.cells #[.int .i64 N, .slice a n c] 24)
  generalize w.alloc (.cells #[.int .i64 N, .slice a n c] 24) = wg at *
  generalize w.heap.size = G at *
  refine wp_region_held_drew (S := (fun w' => w'.cell? ⟨G, 0, none⟩ = some (.int .i64 N) ∧ w'.cell? ⟨G, 1, none⟩ = some (.slice a n c) ∧ More wg w')) (by kernel_rfl) ?_ (fun hHeld => ?_)
  · exact more_two hgl hg0 hg1 (by repeat (first | (with_reducible assumption) | (with_reducible exact More.refl _) | (with_reducible refine More.alloc ?_ _) | (with_reducible refine More.more ?_ _ _) | (with_reducible refine More.drewN ?_ _) | (with_reducible refine More.drew ?_)))
  refine wpAnyH_take (i := 1) (v := ?_) rfl (by kernel_rfl) (by kernel_rfl) (by kernel_rfl) (fun _ _ _ h => h) (Or.inl ⟨by rfl, ?_⟩) (by assumption) ?_
  rotate_left 1
  · intro w' hSw
    have hl0 := hSw.1
    have hl1 := hSw.2.1
    go_simp
    try (with_reducible rfl)
  try simp only [List.getElem_toArray, List.getElem_cons_zero, List.getElem_cons_succ, Act.put, List.setIfInBounds_toArray, List.set_cons_zero, List.set_cons_succ]
  refine wpAnyH_take (i := 2) (v := ?_) rfl (by kernel_rfl) (by kernel_rfl) (by kernel_rfl) (fun _ _ _ h => h) (Or.inl ⟨by rfl, ?_⟩) (by assumption) ?_
  rotate_left 1
  · intro w' hSw
    have hl0 := hSw.1
    have hl1 := hSw.2.1
    go_simp
    try (with_reducible rfl)
  try simp only [List.getElem_toArray, List.getElem_cons_zero, List.getElem_cons_succ, Act.put, List.setIfInBounds_toArray, List.set_cons_zero, List.set_cons_succ]
  refine wpAnyH_take (i := 5) (v := ?_) rfl (by kernel_rfl) (by kernel_rfl) (by kernel_rfl) (fun _ _ _ h => h) (Or.inl ⟨by rfl, ?_⟩) (by assumption) ?_
  rotate_left 1
  · intro w' hSw
    have hl0 := hSw.1
    have hl1 := hSw.2.1
    go_simp
    try (with_reducible rfl)
  try simp only [List.getElem_toArray, List.getElem_cons_zero, List.getElem_cons_succ, Act.put, List.setIfInBounds_toArray, List.set_cons_zero, List.set_cons_succ]
  refine wpAnyH_take (i := 6) (v := ?_) rfl (by kernel_rfl) (by kernel_rfl) (by kernel_rfl) (fun _ _ _ h => h) (Or.inl ⟨by rfl, ?_⟩) (by assumption) ?_
  rotate_left 1
  · intro w' hSw
    have hl0 := hSw.1
    have hl1 := hSw.2.1
    go_simp
    try (with_reducible rfl)
  try simp only [List.getElem_toArray, List.getElem_cons_zero, List.getElem_cons_succ, Act.put, List.setIfInBounds_toArray, List.set_cons_zero, List.set_cons_succ]
  refine wpAnyH_take (i := 0) (v := ?_) rfl (by kernel_rfl) (by kernel_rfl) (by kernel_rfl) (fun _ _ _ h => h) (Or.inl ⟨by rfl, ?_⟩) (by assumption) ?_
  rotate_left 1
  · intro w' hSw
    have hl0 := hSw.1
    have hl1 := hSw.2.1
    go_simp
    try (with_reducible rfl)
  try simp only [List.getElem_toArray, List.getElem_cons_zero, List.getElem_cons_succ, Act.put, List.setIfInBounds_toArray, List.set_cons_zero, List.set_cons_succ]
  refine wpAnyH_ready (rs := [3, 4]) (by kernel_rfl) (by simp) ?_
  refine AllReadyH.cons rfl (fun K hK => ?_) (AllReadyH.cons rfl (fun K hK => ?_) AllReadyH.nil)
  ·
    go_simp
    refine hK.out _ _ ?_ (fun hHeld => ?_)
    · exact more_two hgl hg0 hg1 (by repeat (first | (with_reducible assumption) | (with_reducible exact More.refl _) | (with_reducible refine More.alloc ?_ _) | (with_reducible refine More.more ?_ _ _) | (with_reducible refine More.drewN ?_ _) | (with_reducible refine More.drew ?_)))
    clear hK K
    try simp only [List.getElem_toArray, List.getElem_cons_zero, List.getElem_cons_succ, Act.put, List.setIfInBounds_toArray, List.set_cons_zero, List.set_cons_succ]
    refine wpAnyH_ready (rs := [4]) (by kernel_rfl) (by simp) ?_
    refine AllReadyH.cons rfl (fun K hK => ?_) AllReadyH.nil
    go_simp
    refine hK.out _ _ ?_ (fun hHeld => ?_)
    · exact more_two hgl hg0 hg1 (by repeat (first | (with_reducible assumption) | (with_reducible exact More.refl _) | (with_reducible refine More.alloc ?_ _) | (with_reducible refine More.more ?_ _ _) | (with_reducible refine More.drewN ?_ _) | (with_reducible refine More.drew ?_)))
    clear hK K
    try simp only [List.getElem_toArray, List.getElem_cons_zero, List.getElem_cons_succ, Act.put, List.setIfInBounds_toArray, List.set_cons_zero, List.set_cons_succ]
    refine wpAnyH_ready (rs := [7]) (by kernel_rfl) (by simp) ?_
    refine AllReadyH.cons rfl (fun K hK => ?_) AllReadyH.nil
    go_simp
    refine (repeat_at _ _ _ (-1) N _ ((show Blk _ _ 3 #[.int .i64 (-1)] from (by repeat (first | (with_reducible assumption) | ((with_reducible refine Blk.new' ?_); (simp [Nat.add_assoc]; done)) | (with_reducible refine Blk.alloc ?_ _) | (with_reducible refine Blk.more ?_ _ _) | (with_reducible refine Blk.drew ?_) | (with_reducible refine Blk.drewN ?_ _)))).cell 0) (by first | (simp; done) | (simp; omega)) hN').mono ?_
    rintro e w7 ⟨gb, os7, d7, rfl, hgb, rfl, hB7⟩
    refine hK.out _ _ ?_ (fun hHeld => ?_)
    · exact more_two hgl hg0 hg1 (by repeat (first | (with_reducible assumption) | (with_reducible exact More.refl _) | (with_reducible refine More.alloc ?_ _) | (with_reducible refine More.more ?_ _ _) | (with_reducible refine More.drewN ?_ _) | (with_reducible refine More.drew ?_)))
    clear hK K
    try simp only [List.getElem_toArray, List.getElem_cons_zero, List.getElem_cons_succ, Act.put, List.setIfInBounds_toArray, List.set_cons_zero, List.set_cons_succ]
    have hZ : Blk (((wg.alloc (.cells (madeCells #[.int .i64 0] N) 3)).alloc (.cells #[.int .i64 (-1)] 3)).drew.more os7 d7) (wg.heap.size) 3 (madeCells #[.int .i64 0] N) := (by repeat (first | (with_reducible assumption) | ((with_reducible refine Blk.new' ?_); (simp [Nat.add_assoc]; done)) | (with_reducible refine Blk.alloc ?_ _) | (with_reducible refine Blk.more ?_ _ _) | (with_reducible refine Blk.drew ?_) | (with_reducible refine Blk.drewN ?_ _)))
    have hB : Blk (((wg.alloc (.cells (madeCells #[.int .i64 0] N) 3)).alloc (.cells #[.int .i64 (-1)] 3)).drew.more os7 d7) gb 3 (cellsOf N (fun _ => -1)).toArray := hB7
    have hmq : More wg (((wg.alloc (.cells (madeCells #[.int .i64 0] N) 3)).alloc (.cells #[.int .i64 (-1)] 3)).drew.more os7 d7) := (by repeat (first | (with_reducible assumption) | (with_reducible exact More.refl _) | (with_reducible refine More.alloc ?_ _) | (with_reducible refine More.more ?_ _ _) | (with_reducible refine More.drewN ?_ _) | (with_reducible refine More.drew ?_)))
    have hx : w.heap.size ≤ wg.heap.size ∧ w.heap.size ≤ gb ∧ wg.heap.size ≠ gb := by have h9 := hB7.lt; have h8 := hmw.below.size; simp at hgb h9; omega
    clear hB7 hgb hHeld hmk
    generalize ((wg.alloc (.cells (madeCells #[.int .i64 0] N) 3)).alloc (.cells #[.int .i64 (-1)] 3)).drew.more os7 d7 = wq at *
    generalize wg.heap.size = gm at hZ hx ⊢
    rw [made_cells] at hZ
    refine wpAnyH_ready (rs := [8]) (by kernel_rfl) (by simp) ?_
    refine AllReadyH.cons rfl (fun K hK => ?_) AllReadyH.nil
    go_simp
    refine hK.out _ _ ?_ (fun hHeld => ?_)
    · exact more_two hgl hg0 hg1 (by repeat (first | (with_reducible assumption) | (with_reducible exact More.refl _) | (with_reducible refine More.alloc ?_ _) | (with_reducible refine More.more ?_ _ _) | (with_reducible refine More.drewN ?_ _) | (with_reducible refine More.drew ?_)))
    clear hK K
    try simp only [List.getElem_toArray, List.getElem_cons_zero, List.getElem_cons_succ, Act.put, List.setIfInBounds_toArray, List.set_cons_zero, List.set_cons_succ]
    refine wpAnyH_ready (rs := [9]) (by kernel_rfl) (by simp) ?_
    refine AllReadyH.cons rfl (fun K hK => ?_) AllReadyH.nil
    go_simp
    refine hK.out _ _ ?_ (fun hHeld => ?_)
    · exact more_two hgl hg0 hg1 (by repeat (first | (with_reducible assumption) | (with_reducible exact More.refl _) | (with_reducible refine More.alloc ?_ _) | (with_reducible refine More.more ?_ _ _) | (with_reducible refine More.drewN ?_ _) | (with_reducible refine More.drew ?_)))
    clear hK K
    try simp only [List.getElem_toArray, List.getElem_cons_zero, List.getElem_cons_succ, Act.put, List.setIfInBounds_toArray, List.set_cons_zero, List.set_cons_succ]
    refine wpAnyH_ready (rs := [10]) (by kernel_rfl) (by simp) ?_
    refine AllReadyH.cons rfl (fun K hK => ?_) AllReadyH.nil
    go_simp
    refine hK.out _ _ ?_ (fun hHeld => ?_)
    · exact more_two hgl hg0 hg1 (by repeat (first | (with_reducible assumption) | (with_reducible exact More.refl _) | (with_reducible refine More.alloc ?_ _) | (with_reducible refine More.more ?_ _ _) | (with_reducible refine More.drewN ?_ _) | (with_reducible refine More.drew ?_)))
    clear hK K
    try simp only [List.getElem_toArray, List.getElem_cons_zero, List.getElem_cons_succ, Act.put, List.setIfInBounds_toArray, List.set_cons_zero, List.set_cons_succ]
    refine wpAnyH_done (by kernel_rfl) ?_ _
    have hS0 : Solv w (wq.alloc (.cells #[.int .i64 N, .slice a n c, .slice (some ⟨gm, 0, none⟩) N N, .slice (some ⟨gb, 0, none⟩) N N] 55)) wq.heap.size gm gb N a n c f (fun _ => 0) (fun _ => -1) := ⟨Blk.new _ _ _, hZ.alloc _, hB.alloc _, by have := hmw.below.size; have := hmq.below.size; omega, by have := hZ.lt; have := hB.lt; omega, hr, ((hmw.trans hmq).alloc _).below⟩
    have hSg : wq.heap.size + 1 = (wq.alloc (.cells #[.int .i64 N, .slice a n c, .slice (some ⟨gm, 0, none⟩) N N, .slice (some ⟨gb, 0, none⟩) N N] 55)).heap.size := by simp
    have hgq0 := (more_cell (i := 0) hmq hgl).trans hg0
    have hgq1 := (more_cell (i := 1) hmq hgl).trans hg1
    have hgqs := (hmq.alloc (.cells #[.int .i64 N, .slice a n c, .slice (some ⟨gm, 0, none⟩) N N, .slice (some ⟨gb, 0, none⟩) N N] 55)).below.size
    have hgq0' := (more_cell (i := 0) (hmq.alloc (.cells #[.int .i64 N, .slice a n c, .slice (some ⟨gm, 0, none⟩) N N, .slice (some ⟨gb, 0, none⟩) N N] 55)) hgl).trans hg0
    have hgq1' := (more_cell (i := 1) (hmq.alloc (.cells #[.int .i64 N, .slice a n c, .slice (some ⟨gm, 0, none⟩) N N, .slice (some ⟨gb, 0, none⟩) N N] 55)) hgl).trans hg1
    clear hHeld hgq0 hgq1 hZ hB hx hSg hg0 hg1 hmq hmw
    generalize wq.alloc (.cells #[.int .i64 N, .slice a n c, .slice (some ⟨gm, 0, none⟩) N N, .slice (some ⟨gb, 0, none⟩) N N] 55) = wx at *
    generalize wq.heap.size = S at *
    go_wp2_with fail
    have HMB0 : Hid (MB N 0 (fun _ => 0)) := fun v _ => ⟨Int.le_refl _, Int.le_refl _⟩
    go_loopw [5, 19] (fun l i wr => ∃ (t : Nat) (s : PSt), l = .int .i64 s.L ∧ i = .int .i64 t ∧ t ≤ N + 1 ∧ Hid (Solv w wr S gm gb N a n c f s.M s.B) ∧ Hid (MB N (5033164800 * t) s.M) ∧ Hid (solveAt f n (N + 1 - t) s = solved f n N)) (fun _ i _ => N + 1 - (intOf i).toNat)
    case atStart => exact ⟨0, Go.Tide.start, rfl, rfl, by omega, hS0, HMB0, rfl⟩
    case round =>
      obtain ⟨t, s, rfl, rfl, ht, hS, hMB, hso⟩ := hrel
      by_cases hlt : t < N + 1
      · have t1 : (t : Int) < (N : Int) + 1 := by omega
        have hst := solve_step (show t ≤ N by omega) hso.out
        have HST := Lib.hid hst
        have hMB2 := rnd_mb (s := s) HG.out hMB.out (by omega)
        have HMB2 := Lib.hid hMB2
        have HL : Hid (-1 ≤ (rnd f n s).L ∧ (rnd f n s).L < N) := pass_L HG.out (s := ⟨s.M, s.B, -1⟩) (by simp; omega) n (Nat.le_refl _)
        have hrnd : pass f n ⟨s.M, s.B, -1⟩ = rnd f n s := rfl
        clear hst hMB2
        by_cases hneg : (rnd f n s).L < 0
        · have d1 : decide ((rnd f n s).L < 0) = true := by simpa using hneg
          have HF : Hid (rnd f n s = solved f n N) := HST.out.1 hneg
          go_wp2_with (refine (round_any w _ S gm gb N a n c f s.M s.B (5033164800 * t) hS.out HG.out (by omega) hMB.out).mono ?_; rintro e w8 ⟨rfl, hS8⟩; rw [hrnd] at hS8 ⊢)
          go_ret2
          exact ⟨S, gm, gb, by rw [← HF.out]; rfl, by rw [← HF.out]; exact hS8⟩
        · have d1 : decide ((rnd f n s).L < 0) = false := by simpa using hneg
          have HF : Hid (solveAt f n (N + 1 - (t + 1)) (rnd f n s) = solved f n N) := HST.out.2 hneg
          have HM9 : Hid (MB N (5033164800 * ((t + 1 : Nat) : Int)) (rnd f n s).M) := by
            have := HMB2.out
            rw [show (5033164800 : Int) * ((t + 1 : Nat) : Int) = 5033164800 * t + 5033164800 from by omega]
            exact this
          go_wp2_with (refine (round_any w _ S gm gb N a n c f s.M s.B (5033164800 * t) hS.out HG.out (by omega) hMB.out).mono ?_; rintro e w8 ⟨rfl, hS8⟩; rw [hrnd] at hS8 ⊢)
          have hS9 : Hid (Solv w w8 S gm gb N a n c f (rnd f n s).M (rnd f n s).B) := hS8
          clear hS8
          go_roundw
          case rel => exact ⟨t + 1, rnd f n s, rfl, by go_num, by omega, hS9, HM9, HF⟩
          case measure => simp [intOf]; omega
      · obtain rfl : t = N + 1 := by omega
        go_wp2
        go_ret2
        exact ⟨S, gm, gb, by rw [← hso.out]; simp [solveAt], by have h1 := hso.out; simp [solveAt] at h1; rw [← h1]; exact hS.out⟩
  ·
    go_simp
    refine hK.out _ _ ?_ (fun hHeld => ?_)
    · exact more_two hgl hg0 hg1 (by repeat (first | (with_reducible assumption) | (with_reducible exact More.refl _) | (with_reducible refine More.alloc ?_ _) | (with_reducible refine More.more ?_ _ _) | (with_reducible refine More.drewN ?_ _) | (with_reducible refine More.drew ?_)))
    clear hK K
    try simp only [List.getElem_toArray, List.getElem_cons_zero, List.getElem_cons_succ, Act.put, List.setIfInBounds_toArray, List.set_cons_zero, List.set_cons_succ]
    refine wpAnyH_ready (rs := [3, 7]) (by kernel_rfl) (by simp) ?_
    refine AllReadyH.cons rfl (fun K hK => ?_) (AllReadyH.cons rfl (fun K hK => ?_) AllReadyH.nil)
    ·
      go_simp
      refine hK.out _ _ ?_ (fun hHeld => ?_)
      · exact more_two hgl hg0 hg1 (by repeat (first | (with_reducible assumption) | (with_reducible exact More.refl _) | (with_reducible refine More.alloc ?_ _) | (with_reducible refine More.more ?_ _ _) | (with_reducible refine More.drewN ?_ _) | (with_reducible refine More.drew ?_)))
      clear hK K
      try simp only [List.getElem_toArray, List.getElem_cons_zero, List.getElem_cons_succ, Act.put, List.setIfInBounds_toArray, List.set_cons_zero, List.set_cons_succ]
      refine wpAnyH_ready (rs := [7]) (by kernel_rfl) (by simp) ?_
      refine AllReadyH.cons rfl (fun K hK => ?_) AllReadyH.nil
      go_simp
      refine (repeat_at _ _ _ (-1) N _ ((show Blk _ _ 3 #[.int .i64 (-1)] from (by repeat (first | (with_reducible assumption) | ((with_reducible refine Blk.new' ?_); (simp [Nat.add_assoc]; done)) | (with_reducible refine Blk.alloc ?_ _) | (with_reducible refine Blk.more ?_ _ _) | (with_reducible refine Blk.drew ?_) | (with_reducible refine Blk.drewN ?_ _)))).cell 0) (by first | (simp; done) | (simp; omega)) hN').mono ?_
      rintro e w7 ⟨gb, os7, d7, rfl, hgb, rfl, hB7⟩
      refine hK.out _ _ ?_ (fun hHeld => ?_)
      · exact more_two hgl hg0 hg1 (by repeat (first | (with_reducible assumption) | (with_reducible exact More.refl _) | (with_reducible refine More.alloc ?_ _) | (with_reducible refine More.more ?_ _ _) | (with_reducible refine More.drewN ?_ _) | (with_reducible refine More.drew ?_)))
      clear hK K
      try simp only [List.getElem_toArray, List.getElem_cons_zero, List.getElem_cons_succ, Act.put, List.setIfInBounds_toArray, List.set_cons_zero, List.set_cons_succ]
      have hZ : Blk (((wg.alloc (.cells #[.int .i64 (-1)] 3)).alloc (.cells (madeCells #[.int .i64 0] N) 3)).drew.more os7 d7) (wg.heap.size + 1) 3 (madeCells #[.int .i64 0] N) := (by repeat (first | (with_reducible assumption) | ((with_reducible refine Blk.new' ?_); (simp [Nat.add_assoc]; done)) | (with_reducible refine Blk.alloc ?_ _) | (with_reducible refine Blk.more ?_ _ _) | (with_reducible refine Blk.drew ?_) | (with_reducible refine Blk.drewN ?_ _)))
      have hB : Blk (((wg.alloc (.cells #[.int .i64 (-1)] 3)).alloc (.cells (madeCells #[.int .i64 0] N) 3)).drew.more os7 d7) gb 3 (cellsOf N (fun _ => -1)).toArray := hB7
      have hmq : More wg (((wg.alloc (.cells #[.int .i64 (-1)] 3)).alloc (.cells (madeCells #[.int .i64 0] N) 3)).drew.more os7 d7) := (by repeat (first | (with_reducible assumption) | (with_reducible exact More.refl _) | (with_reducible refine More.alloc ?_ _) | (with_reducible refine More.more ?_ _ _) | (with_reducible refine More.drewN ?_ _) | (with_reducible refine More.drew ?_)))
      have hx : w.heap.size ≤ wg.heap.size + 1 ∧ w.heap.size ≤ gb ∧ wg.heap.size + 1 ≠ gb := by have h9 := hB7.lt; have h8 := hmw.below.size; simp at hgb h9; omega
      clear hB7 hgb hHeld hmk
      generalize ((wg.alloc (.cells #[.int .i64 (-1)] 3)).alloc (.cells (madeCells #[.int .i64 0] N) 3)).drew.more os7 d7 = wq at *
      generalize wg.heap.size + 1 = gm at hZ hx ⊢
      rw [made_cells] at hZ
      refine wpAnyH_ready (rs := [8]) (by kernel_rfl) (by simp) ?_
      refine AllReadyH.cons rfl (fun K hK => ?_) AllReadyH.nil
      go_simp
      refine hK.out _ _ ?_ (fun hHeld => ?_)
      · exact more_two hgl hg0 hg1 (by repeat (first | (with_reducible assumption) | (with_reducible exact More.refl _) | (with_reducible refine More.alloc ?_ _) | (with_reducible refine More.more ?_ _ _) | (with_reducible refine More.drewN ?_ _) | (with_reducible refine More.drew ?_)))
      clear hK K
      try simp only [List.getElem_toArray, List.getElem_cons_zero, List.getElem_cons_succ, Act.put, List.setIfInBounds_toArray, List.set_cons_zero, List.set_cons_succ]
      refine wpAnyH_ready (rs := [9]) (by kernel_rfl) (by simp) ?_
      refine AllReadyH.cons rfl (fun K hK => ?_) AllReadyH.nil
      go_simp
      refine hK.out _ _ ?_ (fun hHeld => ?_)
      · exact more_two hgl hg0 hg1 (by repeat (first | (with_reducible assumption) | (with_reducible exact More.refl _) | (with_reducible refine More.alloc ?_ _) | (with_reducible refine More.more ?_ _ _) | (with_reducible refine More.drewN ?_ _) | (with_reducible refine More.drew ?_)))
      clear hK K
      try simp only [List.getElem_toArray, List.getElem_cons_zero, List.getElem_cons_succ, Act.put, List.setIfInBounds_toArray, List.set_cons_zero, List.set_cons_succ]
      refine wpAnyH_ready (rs := [10]) (by kernel_rfl) (by simp) ?_
      refine AllReadyH.cons rfl (fun K hK => ?_) AllReadyH.nil
      go_simp
      refine hK.out _ _ ?_ (fun hHeld => ?_)
      · exact more_two hgl hg0 hg1 (by repeat (first | (with_reducible assumption) | (with_reducible exact More.refl _) | (with_reducible refine More.alloc ?_ _) | (with_reducible refine More.more ?_ _ _) | (with_reducible refine More.drewN ?_ _) | (with_reducible refine More.drew ?_)))
      clear hK K
      try simp only [List.getElem_toArray, List.getElem_cons_zero, List.getElem_cons_succ, Act.put, List.setIfInBounds_toArray, List.set_cons_zero, List.set_cons_succ]
      refine wpAnyH_done (by kernel_rfl) ?_ _
      have hS0 : Solv w (wq.alloc (.cells #[.int .i64 N, .slice a n c, .slice (some ⟨gm, 0, none⟩) N N, .slice (some ⟨gb, 0, none⟩) N N] 55)) wq.heap.size gm gb N a n c f (fun _ => 0) (fun _ => -1) := ⟨Blk.new _ _ _, hZ.alloc _, hB.alloc _, by have := hmw.below.size; have := hmq.below.size; omega, by have := hZ.lt; have := hB.lt; omega, hr, ((hmw.trans hmq).alloc _).below⟩
      have hSg : wq.heap.size + 1 = (wq.alloc (.cells #[.int .i64 N, .slice a n c, .slice (some ⟨gm, 0, none⟩) N N, .slice (some ⟨gb, 0, none⟩) N N] 55)).heap.size := by simp
      have hgq0 := (more_cell (i := 0) hmq hgl).trans hg0
      have hgq1 := (more_cell (i := 1) hmq hgl).trans hg1
      have hgqs := (hmq.alloc (.cells #[.int .i64 N, .slice a n c, .slice (some ⟨gm, 0, none⟩) N N, .slice (some ⟨gb, 0, none⟩) N N] 55)).below.size
      have hgq0' := (more_cell (i := 0) (hmq.alloc (.cells #[.int .i64 N, .slice a n c, .slice (some ⟨gm, 0, none⟩) N N, .slice (some ⟨gb, 0, none⟩) N N] 55)) hgl).trans hg0
      have hgq1' := (more_cell (i := 1) (hmq.alloc (.cells #[.int .i64 N, .slice a n c, .slice (some ⟨gm, 0, none⟩) N N, .slice (some ⟨gb, 0, none⟩) N N] 55)) hgl).trans hg1
      clear hHeld hgq0 hgq1 hZ hB hx hSg hg0 hg1 hmq hmw
      generalize wq.alloc (.cells #[.int .i64 N, .slice a n c, .slice (some ⟨gm, 0, none⟩) N N, .slice (some ⟨gb, 0, none⟩) N N] 55) = wx at *
      generalize wq.heap.size = S at *
      go_wp2_with fail
      have HMB0 : Hid (MB N 0 (fun _ => 0)) := fun v _ => ⟨Int.le_refl _, Int.le_refl _⟩
      go_loopw [5, 19] (fun l i wr => ∃ (t : Nat) (s : PSt), l = .int .i64 s.L ∧ i = .int .i64 t ∧ t ≤ N + 1 ∧ Hid (Solv w wr S gm gb N a n c f s.M s.B) ∧ Hid (MB N (5033164800 * t) s.M) ∧ Hid (solveAt f n (N + 1 - t) s = solved f n N)) (fun _ i _ => N + 1 - (intOf i).toNat)
      case atStart => exact ⟨0, Go.Tide.start, rfl, rfl, by omega, hS0, HMB0, rfl⟩
      case round =>
        obtain ⟨t, s, rfl, rfl, ht, hS, hMB, hso⟩ := hrel
        by_cases hlt : t < N + 1
        · have t1 : (t : Int) < (N : Int) + 1 := by omega
          have hst := solve_step (show t ≤ N by omega) hso.out
          have HST := Lib.hid hst
          have hMB2 := rnd_mb (s := s) HG.out hMB.out (by omega)
          have HMB2 := Lib.hid hMB2
          have HL : Hid (-1 ≤ (rnd f n s).L ∧ (rnd f n s).L < N) := pass_L HG.out (s := ⟨s.M, s.B, -1⟩) (by simp; omega) n (Nat.le_refl _)
          have hrnd : pass f n ⟨s.M, s.B, -1⟩ = rnd f n s := rfl
          clear hst hMB2
          by_cases hneg : (rnd f n s).L < 0
          · have d1 : decide ((rnd f n s).L < 0) = true := by simpa using hneg
            have HF : Hid (rnd f n s = solved f n N) := HST.out.1 hneg
            go_wp2_with (refine (round_any w _ S gm gb N a n c f s.M s.B (5033164800 * t) hS.out HG.out (by omega) hMB.out).mono ?_; rintro e w8 ⟨rfl, hS8⟩; rw [hrnd] at hS8 ⊢)
            go_ret2
            exact ⟨S, gm, gb, by rw [← HF.out]; rfl, by rw [← HF.out]; exact hS8⟩
          · have d1 : decide ((rnd f n s).L < 0) = false := by simpa using hneg
            have HF : Hid (solveAt f n (N + 1 - (t + 1)) (rnd f n s) = solved f n N) := HST.out.2 hneg
            have HM9 : Hid (MB N (5033164800 * ((t + 1 : Nat) : Int)) (rnd f n s).M) := by
              have := HMB2.out
              rw [show (5033164800 : Int) * ((t + 1 : Nat) : Int) = 5033164800 * t + 5033164800 from by omega]
              exact this
            go_wp2_with (refine (round_any w _ S gm gb N a n c f s.M s.B (5033164800 * t) hS.out HG.out (by omega) hMB.out).mono ?_; rintro e w8 ⟨rfl, hS8⟩; rw [hrnd] at hS8 ⊢)
            have hS9 : Hid (Solv w w8 S gm gb N a n c f (rnd f n s).M (rnd f n s).B) := hS8
            clear hS8
            go_roundw
            case rel => exact ⟨t + 1, rnd f n s, rfl, by go_num, by omega, hS9, HM9, HF⟩
            case measure => simp [intOf]; omega
        · obtain rfl : t = N + 1 := by omega
          go_wp2
          go_ret2
          exact ⟨S, gm, gb, by rw [← hso.out]; simp [solveAt], by have h1 := hso.out; simp [solveAt] at h1; rw [← h1]; exact hS.out⟩
    ·
      go_simp
      refine (repeat_at _ _ _ (-1) N _ ((show Blk _ _ 3 #[.int .i64 (-1)] from (by repeat (first | (with_reducible assumption) | ((with_reducible refine Blk.new' ?_); (simp [Nat.add_assoc]; done)) | (with_reducible refine Blk.alloc ?_ _) | (with_reducible refine Blk.more ?_ _ _) | (with_reducible refine Blk.drew ?_) | (with_reducible refine Blk.drewN ?_ _)))).cell 0) (by first | (simp; done) | (simp; omega)) hN').mono ?_
      rintro e w7 ⟨gb, os7, d7, rfl, hgb, rfl, hB7⟩
      refine hK.out _ _ ?_ (fun hHeld => ?_)
      · exact more_two hgl hg0 hg1 (by repeat (first | (with_reducible assumption) | (with_reducible exact More.refl _) | (with_reducible refine More.alloc ?_ _) | (with_reducible refine More.more ?_ _ _) | (with_reducible refine More.drewN ?_ _) | (with_reducible refine More.drew ?_)))
      clear hK K
      try simp only [List.getElem_toArray, List.getElem_cons_zero, List.getElem_cons_succ, Act.put, List.setIfInBounds_toArray, List.set_cons_zero, List.set_cons_succ]
      refine wpAnyH_ready (rs := [3]) (by kernel_rfl) (by simp) ?_
      refine AllReadyH.cons rfl (fun K hK => ?_) AllReadyH.nil
      go_simp
      refine hK.out _ _ ?_ (fun hHeld => ?_)
      · exact more_two hgl hg0 hg1 (by repeat (first | (with_reducible assumption) | (with_reducible exact More.refl _) | (with_reducible refine More.alloc ?_ _) | (with_reducible refine More.more ?_ _ _) | (with_reducible refine More.drewN ?_ _) | (with_reducible refine More.drew ?_)))
      clear hK K
      try simp only [List.getElem_toArray, List.getElem_cons_zero, List.getElem_cons_succ, Act.put, List.setIfInBounds_toArray, List.set_cons_zero, List.set_cons_succ]
      have hZ : Blk (((wg.alloc (.cells #[.int .i64 (-1)] 3)).more os7 d7).alloc (.cells (madeCells #[.int .i64 0] N) 3)) (wg.heap.size + (1 + os7.size)) 3 (madeCells #[.int .i64 0] N) := by refine Blk.new' ?_; first | (simp; done) | (simp; omega) | omega
      have hB : Blk (((wg.alloc (.cells #[.int .i64 (-1)] 3)).more os7 d7).alloc (.cells (madeCells #[.int .i64 0] N) 3)) gb 3 (cellsOf N (fun _ => -1)).toArray := hB7.alloc _
      have hmq : More wg (((wg.alloc (.cells #[.int .i64 (-1)] 3)).more os7 d7).alloc (.cells (madeCells #[.int .i64 0] N) 3)) := (by repeat (first | (with_reducible assumption) | (with_reducible exact More.refl _) | (with_reducible refine More.alloc ?_ _) | (with_reducible refine More.more ?_ _ _) | (with_reducible refine More.drewN ?_ _) | (with_reducible refine More.drew ?_)))
      have hx : w.heap.size ≤ wg.heap.size + (1 + os7.size) ∧ w.heap.size ≤ gb ∧ wg.heap.size + (1 + os7.size) ≠ gb := by have h9 := hB7.lt; have h8 := hmw.below.size; simp at hgb h9; omega
      clear hB7 hgb hHeld hmk
      generalize ((wg.alloc (.cells #[.int .i64 (-1)] 3)).more os7 d7).alloc (.cells (madeCells #[.int .i64 0] N) 3) = wq at *
      generalize wg.heap.size + (1 + os7.size) = gm at hZ hx ⊢
      rw [made_cells] at hZ
      refine wpAnyH_ready (rs := [8]) (by kernel_rfl) (by simp) ?_
      refine AllReadyH.cons rfl (fun K hK => ?_) AllReadyH.nil
      go_simp
      refine hK.out _ _ ?_ (fun hHeld => ?_)
      · exact more_two hgl hg0 hg1 (by repeat (first | (with_reducible assumption) | (with_reducible exact More.refl _) | (with_reducible refine More.alloc ?_ _) | (with_reducible refine More.more ?_ _ _) | (with_reducible refine More.drewN ?_ _) | (with_reducible refine More.drew ?_)))
      clear hK K
      try simp only [List.getElem_toArray, List.getElem_cons_zero, List.getElem_cons_succ, Act.put, List.setIfInBounds_toArray, List.set_cons_zero, List.set_cons_succ]
      refine wpAnyH_ready (rs := [9]) (by kernel_rfl) (by simp) ?_
      refine AllReadyH.cons rfl (fun K hK => ?_) AllReadyH.nil
      go_simp
      refine hK.out _ _ ?_ (fun hHeld => ?_)
      · exact more_two hgl hg0 hg1 (by repeat (first | (with_reducible assumption) | (with_reducible exact More.refl _) | (with_reducible refine More.alloc ?_ _) | (with_reducible refine More.more ?_ _ _) | (with_reducible refine More.drewN ?_ _) | (with_reducible refine More.drew ?_)))
      clear hK K
      try simp only [List.getElem_toArray, List.getElem_cons_zero, List.getElem_cons_succ, Act.put, List.setIfInBounds_toArray, List.set_cons_zero, List.set_cons_succ]
      refine wpAnyH_ready (rs := [10]) (by kernel_rfl) (by simp) ?_
      refine AllReadyH.cons rfl (fun K hK => ?_) AllReadyH.nil
      go_simp
      refine hK.out _ _ ?_ (fun hHeld => ?_)
      · exact more_two hgl hg0 hg1 (by repeat (first | (with_reducible assumption) | (with_reducible exact More.refl _) | (with_reducible refine More.alloc ?_ _) | (with_reducible refine More.more ?_ _ _) | (with_reducible refine More.drewN ?_ _) | (with_reducible refine More.drew ?_)))
      clear hK K
      try simp only [List.getElem_toArray, List.getElem_cons_zero, List.getElem_cons_succ, Act.put, List.setIfInBounds_toArray, List.set_cons_zero, List.set_cons_succ]
      refine wpAnyH_done (by kernel_rfl) ?_ _
      have hS0 : Solv w (wq.alloc (.cells #[.int .i64 N, .slice a n c, .slice (some ⟨gm, 0, none⟩) N N, .slice (some ⟨gb, 0, none⟩) N N] 55)) wq.heap.size gm gb N a n c f (fun _ => 0) (fun _ => -1) := ⟨Blk.new _ _ _, hZ.alloc _, hB.alloc _, by have := hmw.below.size; have := hmq.below.size; omega, by have := hZ.lt; have := hB.lt; omega, hr, ((hmw.trans hmq).alloc _).below⟩
      have hSg : wq.heap.size + 1 = (wq.alloc (.cells #[.int .i64 N, .slice a n c, .slice (some ⟨gm, 0, none⟩) N N, .slice (some ⟨gb, 0, none⟩) N N] 55)).heap.size := by simp
      have hgq0 := (more_cell (i := 0) hmq hgl).trans hg0
      have hgq1 := (more_cell (i := 1) hmq hgl).trans hg1
      have hgqs := (hmq.alloc (.cells #[.int .i64 N, .slice a n c, .slice (some ⟨gm, 0, none⟩) N N, .slice (some ⟨gb, 0, none⟩) N N] 55)).below.size
      have hgq0' := (more_cell (i := 0) (hmq.alloc (.cells #[.int .i64 N, .slice a n c, .slice (some ⟨gm, 0, none⟩) N N, .slice (some ⟨gb, 0, none⟩) N N] 55)) hgl).trans hg0
      have hgq1' := (more_cell (i := 1) (hmq.alloc (.cells #[.int .i64 N, .slice a n c, .slice (some ⟨gm, 0, none⟩) N N, .slice (some ⟨gb, 0, none⟩) N N] 55)) hgl).trans hg1
      clear hHeld hgq0 hgq1 hZ hB hx hSg hg0 hg1 hmq hmw
      generalize wq.alloc (.cells #[.int .i64 N, .slice a n c, .slice (some ⟨gm, 0, none⟩) N N, .slice (some ⟨gb, 0, none⟩) N N] 55) = wx at *
      generalize wq.heap.size = S at *
      go_wp2_with fail
      have HMB0 : Hid (MB N 0 (fun _ => 0)) := fun v _ => ⟨Int.le_refl _, Int.le_refl _⟩
      go_loopw [5, 19] (fun l i wr => ∃ (t : Nat) (s : PSt), l = .int .i64 s.L ∧ i = .int .i64 t ∧ t ≤ N + 1 ∧ Hid (Solv w wr S gm gb N a n c f s.M s.B) ∧ Hid (MB N (5033164800 * t) s.M) ∧ Hid (solveAt f n (N + 1 - t) s = solved f n N)) (fun _ i _ => N + 1 - (intOf i).toNat)
      case atStart => exact ⟨0, Go.Tide.start, rfl, rfl, by omega, hS0, HMB0, rfl⟩
      case round =>
        obtain ⟨t, s, rfl, rfl, ht, hS, hMB, hso⟩ := hrel
        by_cases hlt : t < N + 1
        · have t1 : (t : Int) < (N : Int) + 1 := by omega
          have hst := solve_step (show t ≤ N by omega) hso.out
          have HST := Lib.hid hst
          have hMB2 := rnd_mb (s := s) HG.out hMB.out (by omega)
          have HMB2 := Lib.hid hMB2
          have HL : Hid (-1 ≤ (rnd f n s).L ∧ (rnd f n s).L < N) := pass_L HG.out (s := ⟨s.M, s.B, -1⟩) (by simp; omega) n (Nat.le_refl _)
          have hrnd : pass f n ⟨s.M, s.B, -1⟩ = rnd f n s := rfl
          clear hst hMB2
          by_cases hneg : (rnd f n s).L < 0
          · have d1 : decide ((rnd f n s).L < 0) = true := by simpa using hneg
            have HF : Hid (rnd f n s = solved f n N) := HST.out.1 hneg
            go_wp2_with (refine (round_any w _ S gm gb N a n c f s.M s.B (5033164800 * t) hS.out HG.out (by omega) hMB.out).mono ?_; rintro e w8 ⟨rfl, hS8⟩; rw [hrnd] at hS8 ⊢)
            go_ret2
            exact ⟨S, gm, gb, by rw [← HF.out]; rfl, by rw [← HF.out]; exact hS8⟩
          · have d1 : decide ((rnd f n s).L < 0) = false := by simpa using hneg
            have HF : Hid (solveAt f n (N + 1 - (t + 1)) (rnd f n s) = solved f n N) := HST.out.2 hneg
            have HM9 : Hid (MB N (5033164800 * ((t + 1 : Nat) : Int)) (rnd f n s).M) := by
              have := HMB2.out
              rw [show (5033164800 : Int) * ((t + 1 : Nat) : Int) = 5033164800 * t + 5033164800 from by omega]
              exact this
            go_wp2_with (refine (round_any w _ S gm gb N a n c f s.M s.B (5033164800 * t) hS.out HG.out (by omega) hMB.out).mono ?_; rintro e w8 ⟨rfl, hS8⟩; rw [hrnd] at hS8 ⊢)
            have hS9 : Hid (Solv w w8 S gm gb N a n c f (rnd f n s).M (rnd f n s).B) := hS8
            clear hS8
            go_roundw
            case rel => exact ⟨t + 1, rnd f n s, rfl, by go_num, by omega, hS9, HM9, HF⟩
            case measure => simp [intOf]; omega
        · obtain rfl : t = N + 1 := by omega
          go_wp2
          go_ret2
          exact ⟨S, gm, gb, by rw [← hso.out]; simp [solveAt], by have h1 := hso.out; simp [solveAt] at h1; rw [← h1]; exact hS.out⟩
end Go.Proofs.Ytnbjcohkkaijaaa
