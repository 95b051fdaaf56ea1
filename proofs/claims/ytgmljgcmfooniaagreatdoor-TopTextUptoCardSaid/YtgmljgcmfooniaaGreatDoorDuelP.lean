/- The duel's beginning. Conditions: none. -/
import Derived.Test.YtgmljgcmfooniaaGreatDoorDuelT
import Derived.Test.YtgmljgcmfooniaaGreatDoorIsFlat
set_option linter.unusedVariables false
set_option linter.unusedSimpArgs false
namespace Go.Proofs.YtgmljgcmfooniaaGreatDoor
open Go.RowKit Go.Tide
set_option linter.unusedVariables false
set_option linter.unusedSimpArgs false
theorem new_1 (w : World) : Calls Tryz.prog 94 #[.int .i64 1] w fun e w' => e = .returned (.agg #[.int .i64 1, .int .i64 1, .int .i64 (-1), .int .i64 0, .int .i64 0, .int .i64 0]) ∧ More w w' :=
  (vegas_new 1 w).mono fun e w' ⟨he, a, hw⟩ => ⟨he, by rw [hw]; exact (More.refl w).alloc a⟩
theorem new_2 (w : World) : Calls Tryz.prog 97 #[.int .i64 1] w fun e w' => e = .returned (.agg #[.int .i64 2, .int .i64 1, .int .i64 (-1), .int .i64 0, .int .i64 0, .int .i64 0]) ∧ More w w' :=
  (copa_new 1 w).mono fun e w' ⟨he, a, hw⟩ => ⟨he, by rw [hw]; exact (More.refl w).alloc a⟩
theorem new_3 (w : World) : Calls Tryz.prog 100 #[.int .i64 1] w fun e w' => e = .returned (.agg #[.int .i64 3, .int .i64 1, .int .i64 (-1), .int .i64 0, .int .i64 0, .int .i64 0]) ∧ More w w' :=
  (ledbat_new 1 w).mono fun e w' ⟨he, a, hw⟩ => ⟨he, by rw [hw]; exact (More.refl w).alloc a⟩
theorem start_w (k0 k1 rate buf jit er : Int) (w : World) (he : Hid (er ≠ 0)) (hc : ∀ W, Calls Tryz.prog 52 #[.agg #[.int .i64 k0, .int .i64 k1, .int .i64 rate, .int .i64 buf, .int .i64 jit]] W fun e w' => e = .returned (.int .i64 er) ∧ More W w') :
    Calls Tryz.prog 41 #[.agg #[.int .i64 k0, .int .i64 k1, .int .i64 rate, .int .i64 buf, .int .i64 jit]] w fun e w' => e = .returned (.tuple #[.agg #[.int .i64 0, .int .i64 0, .int .i64 0, .int .i64 0, .int .i64 0, .int .i64 0, .int .i64 0, .int .i64 0, .int .i64 0, .int .i64 0, .int .i64 0, .int .i64 0, .int .i64 0, .int .i64 0], .int .i64 er]) ∧ More w w' := by
  have g : (er != 0) = true := by simpa using he.out
  have HC := Lib.hid hc
  clear hc
  go_enter Tryz.func41, Tryz.ntmps41
  go_wp2_with fail
  refine (HC.out _).mono ?_
  rintro e w1 ⟨rfl, os1, d1, rfl⟩
  go_wp2
  refine bodyPost_ret (v := .tuple #[.agg #[.int .i64 0, .int .i64 0, .int .i64 0, .int .i64 0, .int .i64 0, .int .i64 0, .int .i64 0, .int .i64 0, .int .i64 0, .int .i64 0, .int .i64 0, .int .i64 0, .int .i64 0, .int .i64 0], .int .i64 er]) ?_ rfl ?_
  · simp [results, Tryz.results41, go_sem]
  · exact ⟨rfl, (by repeat (first | (with_reducible assumption) | (with_reducible exact More.refl _) | (with_reducible refine More.alloc ?_ _) | (with_reducible refine More.more ?_ _ _) | (with_reducible refine More.drewN ?_ _) | (with_reducible refine More.drew ?_)))⟩
set_option maxRecDepth 20000 in
set_option maxHeartbeats 4000000 in
theorem start_ok (k0 k1 rate buf jit : Int) (w : World) (hk0 : Hid (dKind k0)) (hk1 : Hid (dKind k1)) (hn : dNums rate buf jit) :
    Calls Tryz.prog 41 #[.agg #[.int .i64 k0, .int .i64 k1, .int .i64 rate, .int .i64 buf, .int .i64 jit]] w fun e w' => e = .returned (.tuple #[.agg #[.int .i64 k0, .int .i64 1, .int .i64 (-1), .int .i64 0, .int .i64 0, .int .i64 0, .int .i64 k1, .int .i64 1, .int .i64 (-1), .int .i64 0, .int .i64 0, .int .i64 0, .int .i64 0, .int .i64 0], .int .i64 0]) ∧ More w w' := by
  go_enter Tryz.func41, Tryz.ntmps41
  go_wp2_with fail
  refine (wrong_ok k0 k1 rate buf jit _ hk0 hk1 hn).mono ?_
  rintro e w1 ⟨rfl, os1, d1, rfl⟩
  go_wp2_with fail
  have hm : More w (((w.alloc (.cells #[.int .i64 k0, .int .i64 k1, .int .i64 rate, .int .i64 buf, .int .i64 jit] 32)).alloc (.cells #[.int .i64 0, .int .i64 0, .int .i64 0, .int .i64 0, .int .i64 0, .int .i64 0, .int .i64 0, .int .i64 0, .int .i64 0, .int .i64 0, .int .i64 0, .int .i64 0, .int .i64 0, .int .i64 0] 44)).more os1 d1) := (by repeat (first | (with_reducible assumption) | (with_reducible exact More.refl _) | (with_reducible refine More.alloc ?_ _) | (with_reducible refine More.more ?_ _ _) | (with_reducible refine More.drewN ?_ _) | (with_reducible refine More.drew ?_)))
  have hB4 : Blk (((w.alloc (.cells #[.int .i64 k0, .int .i64 k1, .int .i64 rate, .int .i64 buf, .int .i64 jit] 32)).alloc (.cells #[.int .i64 0, .int .i64 0, .int .i64 0, .int .i64 0, .int .i64 0, .int .i64 0, .int .i64 0, .int .i64 0, .int .i64 0, .int .i64 0, .int .i64 0, .int .i64 0, .int .i64 0, .int .i64 0] 44)).more os1 d1) (w.heap.size + 1) 44 #[.int .i64 0, .int .i64 0, .int .i64 0, .int .i64 0, .int .i64 0, .int .i64 0, .int .i64 0, .int .i64 0, .int .i64 0, .int .i64 0, .int .i64 0, .int .i64 0, .int .i64 0, .int .i64 0] := (by repeat (first | (with_reducible assumption) | ((with_reducible refine Blk.new' ?_); (simp [Nat.add_assoc]; done)) | (with_reducible refine Blk.alloc ?_ _) | (with_reducible refine Blk.more ?_ _ _) | (with_reducible refine Blk.drew ?_) | (with_reducible refine Blk.drewN ?_ _)))
  have hl : w.heap.size + 1 < (((w.alloc (.cells #[.int .i64 k0, .int .i64 k1, .int .i64 rate, .int .i64 buf, .int .i64 jit] 32)).alloc (.cells #[.int .i64 0, .int .i64 0, .int .i64 0, .int .i64 0, .int .i64 0, .int .i64 0, .int .i64 0, .int .i64 0, .int .i64 0, .int .i64 0, .int .i64 0, .int .i64 0, .int .i64 0, .int .i64 0] 44)).more os1 d1).heap.size := hB4.lt
  have hO0 : w.heap.size + (2 + os1.size) = (((w.alloc (.cells #[.int .i64 k0, .int .i64 k1, .int .i64 rate, .int .i64 buf, .int .i64 jit] 32)).alloc (.cells #[.int .i64 0, .int .i64 0, .int .i64 0, .int .i64 0, .int .i64 0, .int .i64 0, .int .i64 0, .int .i64 0, .int .i64 0, .int .i64 0, .int .i64 0, .int .i64 0, .int .i64 0, .int .i64 0] 44)).more os1 d1).heap.size := by simp; omega
  rw [hO0]
  clear hO0
  generalize (((w.alloc (.cells #[.int .i64 k0, .int .i64 k1, .int .i64 rate, .int .i64 buf, .int .i64 jit] 32)).alloc (.cells #[.int .i64 0, .int .i64 0, .int .i64 0, .int .i64 0, .int .i64 0, .int .i64 0, .int .i64 0, .int .i64 0, .int .i64 0, .int .i64 0, .int .i64 0, .int .i64 0, .int .i64 0, .int .i64 0] 44)).more os1 d1) = wz at *
  have hN := Blk.new wz 44 #[.int .i64 0, .int .i64 0, .int .i64 0, .int .i64 0, .int .i64 0, .int .i64 0, .int .i64 0, .int .i64 0, .int .i64 0, .int .i64 0, .int .i64 0, .int .i64 0, .int .i64 0, .int .i64 0]
  have hbe0 : Below wz.heap.size wz (wz.alloc (.cells #[.int .i64 0, .int .i64 0, .int .i64 0, .int .i64 0, .int .i64 0, .int .i64 0, .int .i64 0, .int .i64 0, .int .i64 0, .int .i64 0, .int .i64 0, .int .i64 0, .int .i64 0, .int .i64 0] 44)) := (Below.refl _ _).alloc (Nat.le_refl _) _
  generalize wz.alloc (.cells #[.int .i64 0, .int .i64 0, .int .i64 0, .int .i64 0, .int .i64 0, .int .i64 0, .int .i64 0, .int .i64 0, .int .i64 0, .int .i64 0, .int .i64 0, .int .i64 0, .int .i64 0, .int .i64 0] 44) = w8 at *
  obtain ⟨O, hO⟩ : ∃ O, wz.heap.size = O := ⟨_, rfl⟩
  rw [hO] at hN hbe0 hl
  rw [hO]
  go_loopw [18] (fun i wr => ∃ j : Nat, j ≤ 2 ∧ i = .int .i64 j ∧ Hid (Blk wr O 44 (if j = 0 then #[.int .i64 0, .int .i64 0, .int .i64 0, .int .i64 0, .int .i64 0, .int .i64 0, .int .i64 0, .int .i64 0, .int .i64 0, .int .i64 0, .int .i64 0, .int .i64 0, .int .i64 0, .int .i64 0] else if j = 1 then #[.int .i64 k0, .int .i64 1, .int .i64 (-1), .int .i64 0, .int .i64 0, .int .i64 0, .int .i64 0, .int .i64 0, .int .i64 0, .int .i64 0, .int .i64 0, .int .i64 0, .int .i64 0, .int .i64 0] else #[.int .i64 k0, .int .i64 1, .int .i64 (-1), .int .i64 0, .int .i64 0, .int .i64 0, .int .i64 k1, .int .i64 1, .int .i64 (-1), .int .i64 0, .int .i64 0, .int .i64 0, .int .i64 0, .int .i64 0])) ∧ Below O wz wr) (fun i _ => 2 - (intOf i).toNat)
  case atStart => exact ⟨0, by omega, rfl, hN, hbe0⟩
  case round =>
    obtain ⟨j, hj, hi, hO, hbe⟩ := hrel
    rcases (show j = 0 ∨ j = 1 ∨ j = 2 by omega) with rfl | rfl | rfl
    · have hi : _ = Value.int .i64 0 := hi
      subst hi
      have hO : Blk wr O 44 #[.int .i64 0, .int .i64 0, .int .i64 0, .int .i64 0, .int .i64 0, .int .i64 0, .int .i64 0, .int .i64 0, .int .i64 0, .int .i64 0, .int .i64 0, .int .i64 0, .int .i64 0, .int .i64 0] := hO.out
      have hOl := hO.lt
      rcases hk0.out with rfl | rfl | rfl
      · go_wp2_with fail
        refine (of_1 _).mono ?_
        rintro e w1 ⟨rfl, os4, d4, rfl⟩
        go_wp2_with fail
        refine (new_1 _).mono ?_
        rintro e w1 ⟨rfl, os5, d5, rfl⟩
        have hY : Blk (((wr.more os4 d4).alloc (.cells #[.func (.func 94) #[] #[], .func (.func 95) #[] #[], .func (.func 96) #[] #[]] 134)).more os5 d5) O 44 #[.int .i64 0, .int .i64 0, .int .i64 0, .int .i64 0, .int .i64 0, .int .i64 0, .int .i64 0, .int .i64 0, .int .i64 0, .int .i64 0, .int .i64 0, .int .i64 0, .int .i64 0, .int .i64 0] := ((hO.more _ _).alloc _).more _ _
        have o0 : (((wr.more os4 d4).alloc (.cells #[.func (.func 94) #[] #[], .func (.func 95) #[] #[], .func (.func 96) #[] #[]] 134)).more os5 d5).cell? ⟨O, 0, none⟩ = some (.int .i64 0) := hY.cell 0
        have p0 : (((wr.more os4 d4).alloc (.cells #[.func (.func 94) #[] #[], .func (.func 95) #[] #[], .func (.func 96) #[] #[]] 134)).more os5 d5).frozen? ⟨O, 0, none⟩ = false := hY.frozen 0
        have o1 : (((wr.more os4 d4).alloc (.cells #[.func (.func 94) #[] #[], .func (.func 95) #[] #[], .func (.func 96) #[] #[]] 134)).more os5 d5).cell? ⟨O, 1, none⟩ = some (.int .i64 0) := hY.cell 1
        have p1 : (((wr.more os4 d4).alloc (.cells #[.func (.func 94) #[] #[], .func (.func 95) #[] #[], .func (.func 96) #[] #[]] 134)).more os5 d5).frozen? ⟨O, 1, none⟩ = false := hY.frozen 1
        have o2 : (((wr.more os4 d4).alloc (.cells #[.func (.func 94) #[] #[], .func (.func 95) #[] #[], .func (.func 96) #[] #[]] 134)).more os5 d5).cell? ⟨O, 2, none⟩ = some (.int .i64 0) := hY.cell 2
        have p2 : (((wr.more os4 d4).alloc (.cells #[.func (.func 94) #[] #[], .func (.func 95) #[] #[], .func (.func 96) #[] #[]] 134)).more os5 d5).frozen? ⟨O, 2, none⟩ = false := hY.frozen 2
        have o3 : (((wr.more os4 d4).alloc (.cells #[.func (.func 94) #[] #[], .func (.func 95) #[] #[], .func (.func 96) #[] #[]] 134)).more os5 d5).cell? ⟨O, 3, none⟩ = some (.int .i64 0) := hY.cell 3
        have p3 : (((wr.more os4 d4).alloc (.cells #[.func (.func 94) #[] #[], .func (.func 95) #[] #[], .func (.func 96) #[] #[]] 134)).more os5 d5).frozen? ⟨O, 3, none⟩ = false := hY.frozen 3
        have o4 : (((wr.more os4 d4).alloc (.cells #[.func (.func 94) #[] #[], .func (.func 95) #[] #[], .func (.func 96) #[] #[]] 134)).more os5 d5).cell? ⟨O, 4, none⟩ = some (.int .i64 0) := hY.cell 4
        have p4 : (((wr.more os4 d4).alloc (.cells #[.func (.func 94) #[] #[], .func (.func 95) #[] #[], .func (.func 96) #[] #[]] 134)).more os5 d5).frozen? ⟨O, 4, none⟩ = false := hY.frozen 4
        have o5 : (((wr.more os4 d4).alloc (.cells #[.func (.func 94) #[] #[], .func (.func 95) #[] #[], .func (.func 96) #[] #[]] 134)).more os5 d5).cell? ⟨O, 5, none⟩ = some (.int .i64 0) := hY.cell 5
        have p5 : (((wr.more os4 d4).alloc (.cells #[.func (.func 94) #[] #[], .func (.func 95) #[] #[], .func (.func 96) #[] #[]] 134)).more os5 d5).frozen? ⟨O, 5, none⟩ = false := hY.frozen 5
        have hbY : Below O wz (((wr.more os4 d4).alloc (.cells #[.func (.func 94) #[] #[], .func (.func 95) #[] #[], .func (.func 96) #[] #[]] 134)).more os5 d5) := ((hbe.more (by omega) _ _).alloc (by simp; omega) _).more (by simp; omega) _ _
        generalize (((wr.more os4 d4).alloc (.cells #[.func (.func 94) #[] #[], .func (.func 95) #[] #[], .func (.func 96) #[] #[]] 134)).more os5 d5) = wy at *
        go_wp2
        have hOz : Blk ((((((wy.setCell ⟨O, 0, none⟩ (.int .i64 1)).setCell ⟨O, 1, none⟩ (.int .i64 1)).setCell ⟨O, 2, none⟩ (.int .i64 (-1))).setCell ⟨O, 3, none⟩ (.int .i64 0)).setCell ⟨O, 4, none⟩ (.int .i64 0)).setCell ⟨O, 5, none⟩ (.int .i64 0)) O 44 #[.int .i64 1, .int .i64 1, .int .i64 (-1), .int .i64 0, .int .i64 0, .int .i64 0, .int .i64 0, .int .i64 0, .int .i64 0, .int .i64 0, .int .i64 0, .int .i64 0, .int .i64 0, .int .i64 0] := by
          have hh := ((((((hY.put 0 (.int .i64 1)).put 1 (.int .i64 1)).put 2 (.int .i64 (-1))).put 3 (.int .i64 0)).put 4 (.int .i64 0)).put 5 (.int .i64 0))
          simpa only [List.setIfInBounds_toArray, List.set_cons_zero, List.set_cons_succ] using hh
        have hOz' : Hid (Blk ((((((wy.setCell ⟨O, 0, none⟩ (.int .i64 1)).setCell ⟨O, 1, none⟩ (.int .i64 1)).setCell ⟨O, 2, none⟩ (.int .i64 (-1))).setCell ⟨O, 3, none⟩ (.int .i64 0)).setCell ⟨O, 4, none⟩ (.int .i64 0)).setCell ⟨O, 5, none⟩ (.int .i64 0)) O 44 #[.int .i64 1, .int .i64 1, .int .i64 (-1), .int .i64 0, .int .i64 0, .int .i64 0, .int .i64 0, .int .i64 0, .int .i64 0, .int .i64 0, .int .i64 0, .int .i64 0, .int .i64 0, .int .i64 0]) := hOz
        clear hOz
        have hbz := ((((((hbY.setCell (p := ⟨O, 0, none⟩) (Nat.le_refl _) (.int .i64 1)).setCell (p := ⟨O, 1, none⟩) (Nat.le_refl _) (.int .i64 1)).setCell (p := ⟨O, 2, none⟩) (Nat.le_refl _) (.int .i64 (-1))).setCell (p := ⟨O, 3, none⟩) (Nat.le_refl _) (.int .i64 0)).setCell (p := ⟨O, 4, none⟩) (Nat.le_refl _) (.int .i64 0)).setCell (p := ⟨O, 5, none⟩) (Nat.le_refl _) (.int .i64 0))
        go_roundw
        case rel => exact ⟨1, by omega, by go_num, hOz', hbz⟩
        case measure => simp [intOf]
      · go_wp2_with fail
        refine (of_2 _).mono ?_
        rintro e w1 ⟨rfl, os4, d4, rfl⟩
        go_wp2_with fail
        refine (new_2 _).mono ?_
        rintro e w1 ⟨rfl, os5, d5, rfl⟩
        have hY : Blk (((wr.more os4 d4).alloc (.cells #[.func (.func 97) #[] #[], .func (.func 98) #[] #[], .func (.func 99) #[] #[]] 134)).more os5 d5) O 44 #[.int .i64 0, .int .i64 0, .int .i64 0, .int .i64 0, .int .i64 0, .int .i64 0, .int .i64 0, .int .i64 0, .int .i64 0, .int .i64 0, .int .i64 0, .int .i64 0, .int .i64 0, .int .i64 0] := ((hO.more _ _).alloc _).more _ _
        have o0 : (((wr.more os4 d4).alloc (.cells #[.func (.func 97) #[] #[], .func (.func 98) #[] #[], .func (.func 99) #[] #[]] 134)).more os5 d5).cell? ⟨O, 0, none⟩ = some (.int .i64 0) := hY.cell 0
        have p0 : (((wr.more os4 d4).alloc (.cells #[.func (.func 97) #[] #[], .func (.func 98) #[] #[], .func (.func 99) #[] #[]] 134)).more os5 d5).frozen? ⟨O, 0, none⟩ = false := hY.frozen 0
        have o1 : (((wr.more os4 d4).alloc (.cells #[.func (.func 97) #[] #[], .func (.func 98) #[] #[], .func (.func 99) #[] #[]] 134)).more os5 d5).cell? ⟨O, 1, none⟩ = some (.int .i64 0) := hY.cell 1
        have p1 : (((wr.more os4 d4).alloc (.cells #[.func (.func 97) #[] #[], .func (.func 98) #[] #[], .func (.func 99) #[] #[]] 134)).more os5 d5).frozen? ⟨O, 1, none⟩ = false := hY.frozen 1
        have o2 : (((wr.more os4 d4).alloc (.cells #[.func (.func 97) #[] #[], .func (.func 98) #[] #[], .func (.func 99) #[] #[]] 134)).more os5 d5).cell? ⟨O, 2, none⟩ = some (.int .i64 0) := hY.cell 2
        have p2 : (((wr.more os4 d4).alloc (.cells #[.func (.func 97) #[] #[], .func (.func 98) #[] #[], .func (.func 99) #[] #[]] 134)).more os5 d5).frozen? ⟨O, 2, none⟩ = false := hY.frozen 2
        have o3 : (((wr.more os4 d4).alloc (.cells #[.func (.func 97) #[] #[], .func (.func 98) #[] #[], .func (.func 99) #[] #[]] 134)).more os5 d5).cell? ⟨O, 3, none⟩ = some (.int .i64 0) := hY.cell 3
        have p3 : (((wr.more os4 d4).alloc (.cells #[.func (.func 97) #[] #[], .func (.func 98) #[] #[], .func (.func 99) #[] #[]] 134)).more os5 d5).frozen? ⟨O, 3, none⟩ = false := hY.frozen 3
        have o4 : (((wr.more os4 d4).alloc (.cells #[.func (.func 97) #[] #[], .func (.func 98) #[] #[], .func (.func 99) #[] #[]] 134)).more os5 d5).cell? ⟨O, 4, none⟩ = some (.int .i64 0) := hY.cell 4
        have p4 : (((wr.more os4 d4).alloc (.cells #[.func (.func 97) #[] #[], .func (.func 98) #[] #[], .func (.func 99) #[] #[]] 134)).more os5 d5).frozen? ⟨O, 4, none⟩ = false := hY.frozen 4
        have o5 : (((wr.more os4 d4).alloc (.cells #[.func (.func 97) #[] #[], .func (.func 98) #[] #[], .func (.func 99) #[] #[]] 134)).more os5 d5).cell? ⟨O, 5, none⟩ = some (.int .i64 0) := hY.cell 5
        have p5 : (((wr.more os4 d4).alloc (.cells #[.func (.func 97) #[] #[], .func (.func 98) #[] #[], .func (.func 99) #[] #[]] 134)).more os5 d5).frozen? ⟨O, 5, none⟩ = false := hY.frozen 5
        have hbY : Below O wz (((wr.more os4 d4).alloc (.cells #[.func (.func 97) #[] #[], .func (.func 98) #[] #[], .func (.func 99) #[] #[]] 134)).more os5 d5) := ((hbe.more (by omega) _ _).alloc (by simp; omega) _).more (by simp; omega) _ _
        generalize (((wr.more os4 d4).alloc (.cells #[.func (.func 97) #[] #[], .func (.func 98) #[] #[], .func (.func 99) #[] #[]] 134)).more os5 d5) = wy at *
        go_wp2
        have hOz : Blk ((((((wy.setCell ⟨O, 0, none⟩ (.int .i64 2)).setCell ⟨O, 1, none⟩ (.int .i64 1)).setCell ⟨O, 2, none⟩ (.int .i64 (-1))).setCell ⟨O, 3, none⟩ (.int .i64 0)).setCell ⟨O, 4, none⟩ (.int .i64 0)).setCell ⟨O, 5, none⟩ (.int .i64 0)) O 44 #[.int .i64 2, .int .i64 1, .int .i64 (-1), .int .i64 0, .int .i64 0, .int .i64 0, .int .i64 0, .int .i64 0, .int .i64 0, .int .i64 0, .int .i64 0, .int .i64 0, .int .i64 0, .int .i64 0] := by
          have hh := ((((((hY.put 0 (.int .i64 2)).put 1 (.int .i64 1)).put 2 (.int .i64 (-1))).put 3 (.int .i64 0)).put 4 (.int .i64 0)).put 5 (.int .i64 0))
          simpa only [List.setIfInBounds_toArray, List.set_cons_zero, List.set_cons_succ] using hh
        have hOz' : Hid (Blk ((((((wy.setCell ⟨O, 0, none⟩ (.int .i64 2)).setCell ⟨O, 1, none⟩ (.int .i64 1)).setCell ⟨O, 2, none⟩ (.int .i64 (-1))).setCell ⟨O, 3, none⟩ (.int .i64 0)).setCell ⟨O, 4, none⟩ (.int .i64 0)).setCell ⟨O, 5, none⟩ (.int .i64 0)) O 44 #[.int .i64 2, .int .i64 1, .int .i64 (-1), .int .i64 0, .int .i64 0, .int .i64 0, .int .i64 0, .int .i64 0, .int .i64 0, .int .i64 0, .int .i64 0, .int .i64 0, .int .i64 0, .int .i64 0]) := hOz
        clear hOz
        have hbz := ((((((hbY.setCell (p := ⟨O, 0, none⟩) (Nat.le_refl _) (.int .i64 2)).setCell (p := ⟨O, 1, none⟩) (Nat.le_refl _) (.int .i64 1)).setCell (p := ⟨O, 2, none⟩) (Nat.le_refl _) (.int .i64 (-1))).setCell (p := ⟨O, 3, none⟩) (Nat.le_refl _) (.int .i64 0)).setCell (p := ⟨O, 4, none⟩) (Nat.le_refl _) (.int .i64 0)).setCell (p := ⟨O, 5, none⟩) (Nat.le_refl _) (.int .i64 0))
        go_roundw
        case rel => exact ⟨1, by omega, by go_num, hOz', hbz⟩
        case measure => simp [intOf]
      · go_wp2_with fail
        refine (of_3 _).mono ?_
        rintro e w1 ⟨rfl, os4, d4, rfl⟩
        go_wp2_with fail
        refine (new_3 _).mono ?_
        rintro e w1 ⟨rfl, os5, d5, rfl⟩
        have hY : Blk (((wr.more os4 d4).alloc (.cells #[.func (.func 100) #[] #[], .func (.func 101) #[] #[], .func (.func 102) #[] #[]] 134)).more os5 d5) O 44 #[.int .i64 0, .int .i64 0, .int .i64 0, .int .i64 0, .int .i64 0, .int .i64 0, .int .i64 0, .int .i64 0, .int .i64 0, .int .i64 0, .int .i64 0, .int .i64 0, .int .i64 0, .int .i64 0] := ((hO.more _ _).alloc _).more _ _
        have o0 : (((wr.more os4 d4).alloc (.cells #[.func (.func 100) #[] #[], .func (.func 101) #[] #[], .func (.func 102) #[] #[]] 134)).more os5 d5).cell? ⟨O, 0, none⟩ = some (.int .i64 0) := hY.cell 0
        have p0 : (((wr.more os4 d4).alloc (.cells #[.func (.func 100) #[] #[], .func (.func 101) #[] #[], .func (.func 102) #[] #[]] 134)).more os5 d5).frozen? ⟨O, 0, none⟩ = false := hY.frozen 0
        have o1 : (((wr.more os4 d4).alloc (.cells #[.func (.func 100) #[] #[], .func (.func 101) #[] #[], .func (.func 102) #[] #[]] 134)).more os5 d5).cell? ⟨O, 1, none⟩ = some (.int .i64 0) := hY.cell 1
        have p1 : (((wr.more os4 d4).alloc (.cells #[.func (.func 100) #[] #[], .func (.func 101) #[] #[], .func (.func 102) #[] #[]] 134)).more os5 d5).frozen? ⟨O, 1, none⟩ = false := hY.frozen 1
        have o2 : (((wr.more os4 d4).alloc (.cells #[.func (.func 100) #[] #[], .func (.func 101) #[] #[], .func (.func 102) #[] #[]] 134)).more os5 d5).cell? ⟨O, 2, none⟩ = some (.int .i64 0) := hY.cell 2
        have p2 : (((wr.more os4 d4).alloc (.cells #[.func (.func 100) #[] #[], .func (.func 101) #[] #[], .func (.func 102) #[] #[]] 134)).more os5 d5).frozen? ⟨O, 2, none⟩ = false := hY.frozen 2
        have o3 : (((wr.more os4 d4).alloc (.cells #[.func (.func 100) #[] #[], .func (.func 101) #[] #[], .func (.func 102) #[] #[]] 134)).more os5 d5).cell? ⟨O, 3, none⟩ = some (.int .i64 0) := hY.cell 3
        have p3 : (((wr.more os4 d4).alloc (.cells #[.func (.func 100) #[] #[], .func (.func 101) #[] #[], .func (.func 102) #[] #[]] 134)).more os5 d5).frozen? ⟨O, 3, none⟩ = false := hY.frozen 3
        have o4 : (((wr.more os4 d4).alloc (.cells #[.func (.func 100) #[] #[], .func (.func 101) #[] #[], .func (.func 102) #[] #[]] 134)).more os5 d5).cell? ⟨O, 4, none⟩ = some (.int .i64 0) := hY.cell 4
        have p4 : (((wr.more os4 d4).alloc (.cells #[.func (.func 100) #[] #[], .func (.func 101) #[] #[], .func (.func 102) #[] #[]] 134)).more os5 d5).frozen? ⟨O, 4, none⟩ = false := hY.frozen 4
        have o5 : (((wr.more os4 d4).alloc (.cells #[.func (.func 100) #[] #[], .func (.func 101) #[] #[], .func (.func 102) #[] #[]] 134)).more os5 d5).cell? ⟨O, 5, none⟩ = some (.int .i64 0) := hY.cell 5
        have p5 : (((wr.more os4 d4).alloc (.cells #[.func (.func 100) #[] #[], .func (.func 101) #[] #[], .func (.func 102) #[] #[]] 134)).more os5 d5).frozen? ⟨O, 5, none⟩ = false := hY.frozen 5
        have hbY : Below O wz (((wr.more os4 d4).alloc (.cells #[.func (.func 100) #[] #[], .func (.func 101) #[] #[], .func (.func 102) #[] #[]] 134)).more os5 d5) := ((hbe.more (by omega) _ _).alloc (by simp; omega) _).more (by simp; omega) _ _
        generalize (((wr.more os4 d4).alloc (.cells #[.func (.func 100) #[] #[], .func (.func 101) #[] #[], .func (.func 102) #[] #[]] 134)).more os5 d5) = wy at *
        go_wp2
        have hOz : Blk ((((((wy.setCell ⟨O, 0, none⟩ (.int .i64 3)).setCell ⟨O, 1, none⟩ (.int .i64 1)).setCell ⟨O, 2, none⟩ (.int .i64 (-1))).setCell ⟨O, 3, none⟩ (.int .i64 0)).setCell ⟨O, 4, none⟩ (.int .i64 0)).setCell ⟨O, 5, none⟩ (.int .i64 0)) O 44 #[.int .i64 3, .int .i64 1, .int .i64 (-1), .int .i64 0, .int .i64 0, .int .i64 0, .int .i64 0, .int .i64 0, .int .i64 0, .int .i64 0, .int .i64 0, .int .i64 0, .int .i64 0, .int .i64 0] := by
          have hh := ((((((hY.put 0 (.int .i64 3)).put 1 (.int .i64 1)).put 2 (.int .i64 (-1))).put 3 (.int .i64 0)).put 4 (.int .i64 0)).put 5 (.int .i64 0))
          simpa only [List.setIfInBounds_toArray, List.set_cons_zero, List.set_cons_succ] using hh
        have hOz' : Hid (Blk ((((((wy.setCell ⟨O, 0, none⟩ (.int .i64 3)).setCell ⟨O, 1, none⟩ (.int .i64 1)).setCell ⟨O, 2, none⟩ (.int .i64 (-1))).setCell ⟨O, 3, none⟩ (.int .i64 0)).setCell ⟨O, 4, none⟩ (.int .i64 0)).setCell ⟨O, 5, none⟩ (.int .i64 0)) O 44 #[.int .i64 3, .int .i64 1, .int .i64 (-1), .int .i64 0, .int .i64 0, .int .i64 0, .int .i64 0, .int .i64 0, .int .i64 0, .int .i64 0, .int .i64 0, .int .i64 0, .int .i64 0, .int .i64 0]) := hOz
        clear hOz
        have hbz := ((((((hbY.setCell (p := ⟨O, 0, none⟩) (Nat.le_refl _) (.int .i64 3)).setCell (p := ⟨O, 1, none⟩) (Nat.le_refl _) (.int .i64 1)).setCell (p := ⟨O, 2, none⟩) (Nat.le_refl _) (.int .i64 (-1))).setCell (p := ⟨O, 3, none⟩) (Nat.le_refl _) (.int .i64 0)).setCell (p := ⟨O, 4, none⟩) (Nat.le_refl _) (.int .i64 0)).setCell (p := ⟨O, 5, none⟩) (Nat.le_refl _) (.int .i64 0))
        go_roundw
        case rel => exact ⟨1, by omega, by go_num, hOz', hbz⟩
        case measure => simp [intOf]
    · have hi : _ = Value.int .i64 1 := hi
      subst hi
      have hO : Blk wr O 44 #[.int .i64 k0, .int .i64 1, .int .i64 (-1), .int .i64 0, .int .i64 0, .int .i64 0, .int .i64 0, .int .i64 0, .int .i64 0, .int .i64 0, .int .i64 0, .int .i64 0, .int .i64 0, .int .i64 0] := hO.out
      have hOl := hO.lt
      rcases hk1.out with rfl | rfl | rfl
      · go_wp2_with fail
        refine (of_1 _).mono ?_
        rintro e w1 ⟨rfl, os4, d4, rfl⟩
        go_wp2_with fail
        refine (new_1 _).mono ?_
        rintro e w1 ⟨rfl, os5, d5, rfl⟩
        have hY : Blk (((wr.more os4 d4).alloc (.cells #[.func (.func 94) #[] #[], .func (.func 95) #[] #[], .func (.func 96) #[] #[]] 134)).more os5 d5) O 44 #[.int .i64 k0, .int .i64 1, .int .i64 (-1), .int .i64 0, .int .i64 0, .int .i64 0, .int .i64 0, .int .i64 0, .int .i64 0, .int .i64 0, .int .i64 0, .int .i64 0, .int .i64 0, .int .i64 0] := ((hO.more _ _).alloc _).more _ _
        have o0 : (((wr.more os4 d4).alloc (.cells #[.func (.func 94) #[] #[], .func (.func 95) #[] #[], .func (.func 96) #[] #[]] 134)).more os5 d5).cell? ⟨O, 6, none⟩ = some (.int .i64 0) := hY.cell 6
        have p0 : (((wr.more os4 d4).alloc (.cells #[.func (.func 94) #[] #[], .func (.func 95) #[] #[], .func (.func 96) #[] #[]] 134)).more os5 d5).frozen? ⟨O, 6, none⟩ = false := hY.frozen 6
        have o1 : (((wr.more os4 d4).alloc (.cells #[.func (.func 94) #[] #[], .func (.func 95) #[] #[], .func (.func 96) #[] #[]] 134)).more os5 d5).cell? ⟨O, 7, none⟩ = some (.int .i64 0) := hY.cell 7
        have p1 : (((wr.more os4 d4).alloc (.cells #[.func (.func 94) #[] #[], .func (.func 95) #[] #[], .func (.func 96) #[] #[]] 134)).more os5 d5).frozen? ⟨O, 7, none⟩ = false := hY.frozen 7
        have o2 : (((wr.more os4 d4).alloc (.cells #[.func (.func 94) #[] #[], .func (.func 95) #[] #[], .func (.func 96) #[] #[]] 134)).more os5 d5).cell? ⟨O, 8, none⟩ = some (.int .i64 0) := hY.cell 8
        have p2 : (((wr.more os4 d4).alloc (.cells #[.func (.func 94) #[] #[], .func (.func 95) #[] #[], .func (.func 96) #[] #[]] 134)).more os5 d5).frozen? ⟨O, 8, none⟩ = false := hY.frozen 8
        have o3 : (((wr.more os4 d4).alloc (.cells #[.func (.func 94) #[] #[], .func (.func 95) #[] #[], .func (.func 96) #[] #[]] 134)).more os5 d5).cell? ⟨O, 9, none⟩ = some (.int .i64 0) := hY.cell 9
        have p3 : (((wr.more os4 d4).alloc (.cells #[.func (.func 94) #[] #[], .func (.func 95) #[] #[], .func (.func 96) #[] #[]] 134)).more os5 d5).frozen? ⟨O, 9, none⟩ = false := hY.frozen 9
        have o4 : (((wr.more os4 d4).alloc (.cells #[.func (.func 94) #[] #[], .func (.func 95) #[] #[], .func (.func 96) #[] #[]] 134)).more os5 d5).cell? ⟨O, 10, none⟩ = some (.int .i64 0) := hY.cell 10
        have p4 : (((wr.more os4 d4).alloc (.cells #[.func (.func 94) #[] #[], .func (.func 95) #[] #[], .func (.func 96) #[] #[]] 134)).more os5 d5).frozen? ⟨O, 10, none⟩ = false := hY.frozen 10
        have o5 : (((wr.more os4 d4).alloc (.cells #[.func (.func 94) #[] #[], .func (.func 95) #[] #[], .func (.func 96) #[] #[]] 134)).more os5 d5).cell? ⟨O, 11, none⟩ = some (.int .i64 0) := hY.cell 11
        have p5 : (((wr.more os4 d4).alloc (.cells #[.func (.func 94) #[] #[], .func (.func 95) #[] #[], .func (.func 96) #[] #[]] 134)).more os5 d5).frozen? ⟨O, 11, none⟩ = false := hY.frozen 11
        have hbY : Below O wz (((wr.more os4 d4).alloc (.cells #[.func (.func 94) #[] #[], .func (.func 95) #[] #[], .func (.func 96) #[] #[]] 134)).more os5 d5) := ((hbe.more (by omega) _ _).alloc (by simp; omega) _).more (by simp; omega) _ _
        generalize (((wr.more os4 d4).alloc (.cells #[.func (.func 94) #[] #[], .func (.func 95) #[] #[], .func (.func 96) #[] #[]] 134)).more os5 d5) = wy at *
        go_wp2
        have hOz : Blk ((((((wy.setCell ⟨O, 6, none⟩ (.int .i64 1)).setCell ⟨O, 7, none⟩ (.int .i64 1)).setCell ⟨O, 8, none⟩ (.int .i64 (-1))).setCell ⟨O, 9, none⟩ (.int .i64 0)).setCell ⟨O, 10, none⟩ (.int .i64 0)).setCell ⟨O, 11, none⟩ (.int .i64 0)) O 44 #[.int .i64 k0, .int .i64 1, .int .i64 (-1), .int .i64 0, .int .i64 0, .int .i64 0, .int .i64 1, .int .i64 1, .int .i64 (-1), .int .i64 0, .int .i64 0, .int .i64 0, .int .i64 0, .int .i64 0] := by
          have hh := ((((((hY.put 6 (.int .i64 1)).put 7 (.int .i64 1)).put 8 (.int .i64 (-1))).put 9 (.int .i64 0)).put 10 (.int .i64 0)).put 11 (.int .i64 0))
          simpa only [List.setIfInBounds_toArray, List.set_cons_zero, List.set_cons_succ] using hh
        have hOz' : Hid (Blk ((((((wy.setCell ⟨O, 6, none⟩ (.int .i64 1)).setCell ⟨O, 7, none⟩ (.int .i64 1)).setCell ⟨O, 8, none⟩ (.int .i64 (-1))).setCell ⟨O, 9, none⟩ (.int .i64 0)).setCell ⟨O, 10, none⟩ (.int .i64 0)).setCell ⟨O, 11, none⟩ (.int .i64 0)) O 44 #[.int .i64 k0, .int .i64 1, .int .i64 (-1), .int .i64 0, .int .i64 0, .int .i64 0, .int .i64 1, .int .i64 1, .int .i64 (-1), .int .i64 0, .int .i64 0, .int .i64 0, .int .i64 0, .int .i64 0]) := hOz
        clear hOz
        have hbz := ((((((hbY.setCell (p := ⟨O, 6, none⟩) (Nat.le_refl _) (.int .i64 1)).setCell (p := ⟨O, 7, none⟩) (Nat.le_refl _) (.int .i64 1)).setCell (p := ⟨O, 8, none⟩) (Nat.le_refl _) (.int .i64 (-1))).setCell (p := ⟨O, 9, none⟩) (Nat.le_refl _) (.int .i64 0)).setCell (p := ⟨O, 10, none⟩) (Nat.le_refl _) (.int .i64 0)).setCell (p := ⟨O, 11, none⟩) (Nat.le_refl _) (.int .i64 0))
        go_roundw
        case rel => exact ⟨2, by omega, by go_num, hOz', hbz⟩
        case measure => simp [intOf]
      · go_wp2_with fail
        refine (of_2 _).mono ?_
        rintro e w1 ⟨rfl, os4, d4, rfl⟩
        go_wp2_with fail
        refine (new_2 _).mono ?_
        rintro e w1 ⟨rfl, os5, d5, rfl⟩
        have hY : Blk (((wr.more os4 d4).alloc (.cells #[.func (.func 97) #[] #[], .func (.func 98) #[] #[], .func (.func 99) #[] #[]] 134)).more os5 d5) O 44 #[.int .i64 k0, .int .i64 1, .int .i64 (-1), .int .i64 0, .int .i64 0, .int .i64 0, .int .i64 0, .int .i64 0, .int .i64 0, .int .i64 0, .int .i64 0, .int .i64 0, .int .i64 0, .int .i64 0] := ((hO.more _ _).alloc _).more _ _
        have o0 : (((wr.more os4 d4).alloc (.cells #[.func (.func 97) #[] #[], .func (.func 98) #[] #[], .func (.func 99) #[] #[]] 134)).more os5 d5).cell? ⟨O, 6, none⟩ = some (.int .i64 0) := hY.cell 6
        have p0 : (((wr.more os4 d4).alloc (.cells #[.func (.func 97) #[] #[], .func (.func 98) #[] #[], .func (.func 99) #[] #[]] 134)).more os5 d5).frozen? ⟨O, 6, none⟩ = false := hY.frozen 6
        have o1 : (((wr.more os4 d4).alloc (.cells #[.func (.func 97) #[] #[], .func (.func 98) #[] #[], .func (.func 99) #[] #[]] 134)).more os5 d5).cell? ⟨O, 7, none⟩ = some (.int .i64 0) := hY.cell 7
        have p1 : (((wr.more os4 d4).alloc (.cells #[.func (.func 97) #[] #[], .func (.func 98) #[] #[], .func (.func 99) #[] #[]] 134)).more os5 d5).frozen? ⟨O, 7, none⟩ = false := hY.frozen 7
        have o2 : (((wr.more os4 d4).alloc (.cells #[.func (.func 97) #[] #[], .func (.func 98) #[] #[], .func (.func 99) #[] #[]] 134)).more os5 d5).cell? ⟨O, 8, none⟩ = some (.int .i64 0) := hY.cell 8
        have p2 : (((wr.more os4 d4).alloc (.cells #[.func (.func 97) #[] #[], .func (.func 98) #[] #[], .func (.func 99) #[] #[]] 134)).more os5 d5).frozen? ⟨O, 8, none⟩ = false := hY.frozen 8
        have o3 : (((wr.more os4 d4).alloc (.cells #[.func (.func 97) #[] #[], .func (.func 98) #[] #[], .func (.func 99) #[] #[]] 134)).more os5 d5).cell? ⟨O, 9, none⟩ = some (.int .i64 0) := hY.cell 9
        have p3 : (((wr.more os4 d4).alloc (.cells #[.func (.func 97) #[] #[], .func (.func 98) #[] #[], .func (.func 99) #[] #[]] 134)).more os5 d5).frozen? ⟨O, 9, none⟩ = false := hY.frozen 9
        have o4 : (((wr.more os4 d4).alloc (.cells #[.func (.func 97) #[] #[], .func (.func 98) #[] #[], .func (.func 99) #[] #[]] 134)).more os5 d5).cell? ⟨O, 10, none⟩ = some (.int .i64 0) := hY.cell 10
        have p4 : (((wr.more os4 d4).alloc (.cells #[.func (.func 97) #[] #[], .func (.func 98) #[] #[], .func (.func 99) #[] #[]] 134)).more os5 d5).frozen? ⟨O, 10, none⟩ = false := hY.frozen 10
        have o5 : (((wr.more os4 d4).alloc (.cells #[.func (.func 97) #[] #[], .func (.func 98) #[] #[], .func (.func 99) #[] #[]] 134)).more os5 d5).cell? ⟨O, 11, none⟩ = some (.int .i64 0) := hY.cell 11
        have p5 : (((wr.more os4 d4).alloc (.cells #[.func (.func 97) #[] #[], .func (.func 98) #[] #[], .func (.func 99) #[] #[]] 134)).more os5 d5).frozen? ⟨O, 11, none⟩ = false := hY.frozen 11
        have hbY : Below O wz (((wr.more os4 d4).alloc (.cells #[.func (.func 97) #[] #[], .func (.func 98) #[] #[], .func (.func 99) #[] #[]] 134)).more os5 d5) := ((hbe.more (by omega) _ _).alloc (by simp; omega) _).more (by simp; omega) _ _
        generalize (((wr.more os4 d4).alloc (.cells #[.func (.func 97) #[] #[], .func (.func 98) #[] #[], .func (.func 99) #[] #[]] 134)).more os5 d5) = wy at *
        go_wp2
        have hOz : Blk ((((((wy.setCell ⟨O, 6, none⟩ (.int .i64 2)).setCell ⟨O, 7, none⟩ (.int .i64 1)).setCell ⟨O, 8, none⟩ (.int .i64 (-1))).setCell ⟨O, 9, none⟩ (.int .i64 0)).setCell ⟨O, 10, none⟩ (.int .i64 0)).setCell ⟨O, 11, none⟩ (.int .i64 0)) O 44 #[.int .i64 k0, .int .i64 1, .int .i64 (-1), .int .i64 0, .int .i64 0, .int .i64 0, .int .i64 2, .int .i64 1, .int .i64 (-1), .int .i64 0, .int .i64 0, .int .i64 0, .int .i64 0, .int .i64 0] := by
          have hh := ((((((hY.put 6 (.int .i64 2)).put 7 (.int .i64 1)).put 8 (.int .i64 (-1))).put 9 (.int .i64 0)).put 10 (.int .i64 0)).put 11 (.int .i64 0))
          simpa only [List.setIfInBounds_toArray, List.set_cons_zero, List.set_cons_succ] using hh
        have hOz' : Hid (Blk ((((((wy.setCell ⟨O, 6, none⟩ (.int .i64 2)).setCell ⟨O, 7, none⟩ (.int .i64 1)).setCell ⟨O, 8, none⟩ (.int .i64 (-1))).setCell ⟨O, 9, none⟩ (.int .i64 0)).setCell ⟨O, 10, none⟩ (.int .i64 0)).setCell ⟨O, 11, none⟩ (.int .i64 0)) O 44 #[.int .i64 k0, .int .i64 1, .int .i64 (-1), .int .i64 0, .int .i64 0, .int .i64 0, .int .i64 2, .int .i64 1, .int .i64 (-1), .int .i64 0, .int .i64 0, .int .i64 0, .int .i64 0, .int .i64 0]) := hOz
        clear hOz
        have hbz := ((((((hbY.setCell (p := ⟨O, 6, none⟩) (Nat.le_refl _) (.int .i64 2)).setCell (p := ⟨O, 7, none⟩) (Nat.le_refl _) (.int .i64 1)).setCell (p := ⟨O, 8, none⟩) (Nat.le_refl _) (.int .i64 (-1))).setCell (p := ⟨O, 9, none⟩) (Nat.le_refl _) (.int .i64 0)).setCell (p := ⟨O, 10, none⟩) (Nat.le_refl _) (.int .i64 0)).setCell (p := ⟨O, 11, none⟩) (Nat.le_refl _) (.int .i64 0))
        go_roundw
        case rel => exact ⟨2, by omega, by go_num, hOz', hbz⟩
        case measure => simp [intOf]
      · go_wp2_with fail
        refine (of_3 _).mono ?_
        rintro e w1 ⟨rfl, os4, d4, rfl⟩
        go_wp2_with fail
        refine (new_3 _).mono ?_
        rintro e w1 ⟨rfl, os5, d5, rfl⟩
        have hY : Blk (((wr.more os4 d4).alloc (.cells #[.func (.func 100) #[] #[], .func (.func 101) #[] #[], .func (.func 102) #[] #[]] 134)).more os5 d5) O 44 #[.int .i64 k0, .int .i64 1, .int .i64 (-1), .int .i64 0, .int .i64 0, .int .i64 0, .int .i64 0, .int .i64 0, .int .i64 0, .int .i64 0, .int .i64 0, .int .i64 0, .int .i64 0, .int .i64 0] := ((hO.more _ _).alloc _).more _ _
        have o0 : (((wr.more os4 d4).alloc (.cells #[.func (.func 100) #[] #[], .func (.func 101) #[] #[], .func (.func 102) #[] #[]] 134)).more os5 d5).cell? ⟨O, 6, none⟩ = some (.int .i64 0) := hY.cell 6
        have p0 : (((wr.more os4 d4).alloc (.cells #[.func (.func 100) #[] #[], .func (.func 101) #[] #[], .func (.func 102) #[] #[]] 134)).more os5 d5).frozen? ⟨O, 6, none⟩ = false := hY.frozen 6
        have o1 : (((wr.more os4 d4).alloc (.cells #[.func (.func 100) #[] #[], .func (.func 101) #[] #[], .func (.func 102) #[] #[]] 134)).more os5 d5).cell? ⟨O, 7, none⟩ = some (.int .i64 0) := hY.cell 7
        have p1 : (((wr.more os4 d4).alloc (.cells #[.func (.func 100) #[] #[], .func (.func 101) #[] #[], .func (.func 102) #[] #[]] 134)).more os5 d5).frozen? ⟨O, 7, none⟩ = false := hY.frozen 7
        have o2 : (((wr.more os4 d4).alloc (.cells #[.func (.func 100) #[] #[], .func (.func 101) #[] #[], .func (.func 102) #[] #[]] 134)).more os5 d5).cell? ⟨O, 8, none⟩ = some (.int .i64 0) := hY.cell 8
        have p2 : (((wr.more os4 d4).alloc (.cells #[.func (.func 100) #[] #[], .func (.func 101) #[] #[], .func (.func 102) #[] #[]] 134)).more os5 d5).frozen? ⟨O, 8, none⟩ = false := hY.frozen 8
        have o3 : (((wr.more os4 d4).alloc (.cells #[.func (.func 100) #[] #[], .func (.func 101) #[] #[], .func (.func 102) #[] #[]] 134)).more os5 d5).cell? ⟨O, 9, none⟩ = some (.int .i64 0) := hY.cell 9
        have p3 : (((wr.more os4 d4).alloc (.cells #[.func (.func 100) #[] #[], .func (.func 101) #[] #[], .func (.func 102) #[] #[]] 134)).more os5 d5).frozen? ⟨O, 9, none⟩ = false := hY.frozen 9
        have o4 : (((wr.more os4 d4).alloc (.cells #[.func (.func 100) #[] #[], .func (.func 101) #[] #[], .func (.func 102) #[] #[]] 134)).more os5 d5).cell? ⟨O, 10, none⟩ = some (.int .i64 0) := hY.cell 10
        have p4 : (((wr.more os4 d4).alloc (.cells #[.func (.func 100) #[] #[], .func (.func 101) #[] #[], .func (.func 102) #[] #[]] 134)).more os5 d5).frozen? ⟨O, 10, none⟩ = false := hY.frozen 10
        have o5 : (((wr.more os4 d4).alloc (.cells #[.func (.func 100) #[] #[], .func (.func 101) #[] #[], .func (.func 102) #[] #[]] 134)).more os5 d5).cell? ⟨O, 11, none⟩ = some (.int .i64 0) := hY.cell 11
        have p5 : (((wr.more os4 d4).alloc (.cells #[.func (.func 100) #[] #[], .func (.func 101) #[] #[], .func (.func 102) #[] #[]] 134)).more os5 d5).frozen? ⟨O, 11, none⟩ = false := hY.frozen 11
        have hbY : Below O wz (((wr.more os4 d4).alloc (.cells #[.func (.func 100) #[] #[], .func (.func 101) #[] #[], .func (.func 102) #[] #[]] 134)).more os5 d5) := ((hbe.more (by omega) _ _).alloc (by simp; omega) _).more (by simp; omega) _ _
        generalize (((wr.more os4 d4).alloc (.cells #[.func (.func 100) #[] #[], .func (.func 101) #[] #[], .func (.func 102) #[] #[]] 134)).more os5 d5) = wy at *
        go_wp2
        have hOz : Blk ((((((wy.setCell ⟨O, 6, none⟩ (.int .i64 3)).setCell ⟨O, 7, none⟩ (.int .i64 1)).setCell ⟨O, 8, none⟩ (.int .i64 (-1))).setCell ⟨O, 9, none⟩ (.int .i64 0)).setCell ⟨O, 10, none⟩ (.int .i64 0)).setCell ⟨O, 11, none⟩ (.int .i64 0)) O 44 #[.int .i64 k0, .int .i64 1, .int .i64 (-1), .int .i64 0, .int .i64 0, .int .i64 0, .int .i64 3, .int .i64 1, .int .i64 (-1), .int .i64 0, .int .i64 0, .int .i64 0, .int .i64 0, .int .i64 0] := by
          have hh := ((((((hY.put 6 (.int .i64 3)).put 7 (.int .i64 1)).put 8 (.int .i64 (-1))).put 9 (.int .i64 0)).put 10 (.int .i64 0)).put 11 (.int .i64 0))
          simpa only [List.setIfInBounds_toArray, List.set_cons_zero, List.set_cons_succ] using hh
        have hOz' : Hid (Blk ((((((wy.setCell ⟨O, 6, none⟩ (.int .i64 3)).setCell ⟨O, 7, none⟩ (.int .i64 1)).setCell ⟨O, 8, none⟩ (.int .i64 (-1))).setCell ⟨O, 9, none⟩ (.int .i64 0)).setCell ⟨O, 10, none⟩ (.int .i64 0)).setCell ⟨O, 11, none⟩ (.int .i64 0)) O 44 #[.int .i64 k0, .int .i64 1, .int .i64 (-1), .int .i64 0, .int .i64 0, .int .i64 0, .int .i64 3, .int .i64 1, .int .i64 (-1), .int .i64 0, .int .i64 0, .int .i64 0, .int .i64 0, .int .i64 0]) := hOz
        clear hOz
        have hbz := ((((((hbY.setCell (p := ⟨O, 6, none⟩) (Nat.le_refl _) (.int .i64 3)).setCell (p := ⟨O, 7, none⟩) (Nat.le_refl _) (.int .i64 1)).setCell (p := ⟨O, 8, none⟩) (Nat.le_refl _) (.int .i64 (-1))).setCell (p := ⟨O, 9, none⟩) (Nat.le_refl _) (.int .i64 0)).setCell (p := ⟨O, 10, none⟩) (Nat.le_refl _) (.int .i64 0)).setCell (p := ⟨O, 11, none⟩) (Nat.le_refl _) (.int .i64 0))
        go_roundw
        case rel => exact ⟨2, by omega, by go_num, hOz', hbz⟩
        case measure => simp [intOf]
    · have hi : _ = Value.int .i64 2 := hi
      subst hi
      have hO : Blk wr O 44 #[.int .i64 k0, .int .i64 1, .int .i64 (-1), .int .i64 0, .int .i64 0, .int .i64 0, .int .i64 k1, .int .i64 1, .int .i64 (-1), .int .i64 0, .int .i64 0, .int .i64 0, .int .i64 0, .int .i64 0] := hO.out
      have hOl := hO.lt
      have hC4 : Blk wr (w.heap.size + 1) 44 #[.int .i64 0, .int .i64 0, .int .i64 0, .int .i64 0, .int .i64 0, .int .i64 0, .int .i64 0, .int .i64 0, .int .i64 0, .int .i64 0, .int .i64 0, .int .i64 0, .int .i64 0, .int .i64 0] := hB4.below hbe (by omega)
      have r0 : wr.cell? ⟨O, 0, none⟩ = some (.int .i64 k0) := hO.cell 0
      have t0 : wr.cell? ⟨w.heap.size + 1, 0, none⟩ = some (.int .i64 0) := hC4.cell 0
      have v0 : wr.frozen? ⟨w.heap.size + 1, 0, none⟩ = false := hC4.frozen 0
      have r1 : wr.cell? ⟨O, 1, none⟩ = some (.int .i64 1) := hO.cell 1
      have t1 : wr.cell? ⟨w.heap.size + 1, 1, none⟩ = some (.int .i64 0) := hC4.cell 1
      have v1 : wr.frozen? ⟨w.heap.size + 1, 1, none⟩ = false := hC4.frozen 1
      have r2 : wr.cell? ⟨O, 2, none⟩ = some (.int .i64 (-1)) := hO.cell 2
      have t2 : wr.cell? ⟨w.heap.size + 1, 2, none⟩ = some (.int .i64 0) := hC4.cell 2
      have v2 : wr.frozen? ⟨w.heap.size + 1, 2, none⟩ = false := hC4.frozen 2
      have r3 : wr.cell? ⟨O, 3, none⟩ = some (.int .i64 0) := hO.cell 3
      have t3 : wr.cell? ⟨w.heap.size + 1, 3, none⟩ = some (.int .i64 0) := hC4.cell 3
      have v3 : wr.frozen? ⟨w.heap.size + 1, 3, none⟩ = false := hC4.frozen 3
      have r4 : wr.cell? ⟨O, 4, none⟩ = some (.int .i64 0) := hO.cell 4
      have t4 : wr.cell? ⟨w.heap.size + 1, 4, none⟩ = some (.int .i64 0) := hC4.cell 4
      have v4 : wr.frozen? ⟨w.heap.size + 1, 4, none⟩ = false := hC4.frozen 4
      have r5 : wr.cell? ⟨O, 5, none⟩ = some (.int .i64 0) := hO.cell 5
      have t5 : wr.cell? ⟨w.heap.size + 1, 5, none⟩ = some (.int .i64 0) := hC4.cell 5
      have v5 : wr.frozen? ⟨w.heap.size + 1, 5, none⟩ = false := hC4.frozen 5
      have r6 : wr.cell? ⟨O, 6, none⟩ = some (.int .i64 k1) := hO.cell 6
      have t6 : wr.cell? ⟨w.heap.size + 1, 6, none⟩ = some (.int .i64 0) := hC4.cell 6
      have v6 : wr.frozen? ⟨w.heap.size + 1, 6, none⟩ = false := hC4.frozen 6
      have r7 : wr.cell? ⟨O, 7, none⟩ = some (.int .i64 1) := hO.cell 7
      have t7 : wr.cell? ⟨w.heap.size + 1, 7, none⟩ = some (.int .i64 0) := hC4.cell 7
      have v7 : wr.frozen? ⟨w.heap.size + 1, 7, none⟩ = false := hC4.frozen 7
      have r8 : wr.cell? ⟨O, 8, none⟩ = some (.int .i64 (-1)) := hO.cell 8
      have t8 : wr.cell? ⟨w.heap.size + 1, 8, none⟩ = some (.int .i64 0) := hC4.cell 8
      have v8 : wr.frozen? ⟨w.heap.size + 1, 8, none⟩ = false := hC4.frozen 8
      have r9 : wr.cell? ⟨O, 9, none⟩ = some (.int .i64 0) := hO.cell 9
      have t9 : wr.cell? ⟨w.heap.size + 1, 9, none⟩ = some (.int .i64 0) := hC4.cell 9
      have v9 : wr.frozen? ⟨w.heap.size + 1, 9, none⟩ = false := hC4.frozen 9
      have r10 : wr.cell? ⟨O, 10, none⟩ = some (.int .i64 0) := hO.cell 10
      have t10 : wr.cell? ⟨w.heap.size + 1, 10, none⟩ = some (.int .i64 0) := hC4.cell 10
      have v10 : wr.frozen? ⟨w.heap.size + 1, 10, none⟩ = false := hC4.frozen 10
      have r11 : wr.cell? ⟨O, 11, none⟩ = some (.int .i64 0) := hO.cell 11
      have t11 : wr.cell? ⟨w.heap.size + 1, 11, none⟩ = some (.int .i64 0) := hC4.cell 11
      have v11 : wr.frozen? ⟨w.heap.size + 1, 11, none⟩ = false := hC4.frozen 11
      have r12 : wr.cell? ⟨O, 12, none⟩ = some (.int .i64 0) := hO.cell 12
      have t12 : wr.cell? ⟨w.heap.size + 1, 12, none⟩ = some (.int .i64 0) := hC4.cell 12
      have v12 : wr.frozen? ⟨w.heap.size + 1, 12, none⟩ = false := hC4.frozen 12
      have r13 : wr.cell? ⟨O, 13, none⟩ = some (.int .i64 0) := hO.cell 13
      have t13 : wr.cell? ⟨w.heap.size + 1, 13, none⟩ = some (.int .i64 0) := hC4.cell 13
      have v13 : wr.frozen? ⟨w.heap.size + 1, 13, none⟩ = false := hC4.frozen 13
      go_wp2
      have hX1 : Blk ((((((((((((((wr.setCell ⟨w.heap.size + 1, 0, none⟩ (.int .i64 k0)).setCell ⟨w.heap.size + 1, 1, none⟩ (.int .i64 1)).setCell ⟨w.heap.size + 1, 2, none⟩ (.int .i64 (-1))).setCell ⟨w.heap.size + 1, 3, none⟩ (.int .i64 0)).setCell ⟨w.heap.size + 1, 4, none⟩ (.int .i64 0)).setCell ⟨w.heap.size + 1, 5, none⟩ (.int .i64 0)).setCell ⟨w.heap.size + 1, 6, none⟩ (.int .i64 k1)).setCell ⟨w.heap.size + 1, 7, none⟩ (.int .i64 1)).setCell ⟨w.heap.size + 1, 8, none⟩ (.int .i64 (-1))).setCell ⟨w.heap.size + 1, 9, none⟩ (.int .i64 0)).setCell ⟨w.heap.size + 1, 10, none⟩ (.int .i64 0)).setCell ⟨w.heap.size + 1, 11, none⟩ (.int .i64 0)).setCell ⟨w.heap.size + 1, 12, none⟩ (.int .i64 0)).setCell ⟨w.heap.size + 1, 13, none⟩ (.int .i64 0)) (w.heap.size + 1) 44 #[.int .i64 k0, .int .i64 1, .int .i64 (-1), .int .i64 0, .int .i64 0, .int .i64 0, .int .i64 k1, .int .i64 1, .int .i64 (-1), .int .i64 0, .int .i64 0, .int .i64 0, .int .i64 0, .int .i64 0] := by
        have hh := ((((((((((((((hC4.put 0 (.int .i64 k0)).put 1 (.int .i64 1)).put 2 (.int .i64 (-1))).put 3 (.int .i64 0)).put 4 (.int .i64 0)).put 5 (.int .i64 0)).put 6 (.int .i64 k1)).put 7 (.int .i64 1)).put 8 (.int .i64 (-1))).put 9 (.int .i64 0)).put 10 (.int .i64 0)).put 11 (.int .i64 0)).put 12 (.int .i64 0)).put 13 (.int .i64 0))
        simpa only [List.setIfInBounds_toArray, List.set_cons_zero, List.set_cons_succ] using hh
      have hX3 : Below w.heap.size w ((((((((((((((wr.setCell ⟨w.heap.size + 1, 0, none⟩ (.int .i64 k0)).setCell ⟨w.heap.size + 1, 1, none⟩ (.int .i64 1)).setCell ⟨w.heap.size + 1, 2, none⟩ (.int .i64 (-1))).setCell ⟨w.heap.size + 1, 3, none⟩ (.int .i64 0)).setCell ⟨w.heap.size + 1, 4, none⟩ (.int .i64 0)).setCell ⟨w.heap.size + 1, 5, none⟩ (.int .i64 0)).setCell ⟨w.heap.size + 1, 6, none⟩ (.int .i64 k1)).setCell ⟨w.heap.size + 1, 7, none⟩ (.int .i64 1)).setCell ⟨w.heap.size + 1, 8, none⟩ (.int .i64 (-1))).setCell ⟨w.heap.size + 1, 9, none⟩ (.int .i64 0)).setCell ⟨w.heap.size + 1, 10, none⟩ (.int .i64 0)).setCell ⟨w.heap.size + 1, 11, none⟩ (.int .i64 0)).setCell ⟨w.heap.size + 1, 12, none⟩ (.int .i64 0)).setCell ⟨w.heap.size + 1, 13, none⟩ (.int .i64 0)) := (((((((((((((((hm.below.trans (hbe.mono (by omega))).setCell (p := ⟨w.heap.size + 1, 0, none⟩) (by dsimp only; omega) (.int .i64 k0)).setCell (p := ⟨w.heap.size + 1, 1, none⟩) (by dsimp only; omega) (.int .i64 1)).setCell (p := ⟨w.heap.size + 1, 2, none⟩) (by dsimp only; omega) (.int .i64 (-1))).setCell (p := ⟨w.heap.size + 1, 3, none⟩) (by dsimp only; omega) (.int .i64 0)).setCell (p := ⟨w.heap.size + 1, 4, none⟩) (by dsimp only; omega) (.int .i64 0)).setCell (p := ⟨w.heap.size + 1, 5, none⟩) (by dsimp only; omega) (.int .i64 0)).setCell (p := ⟨w.heap.size + 1, 6, none⟩) (by dsimp only; omega) (.int .i64 k1)).setCell (p := ⟨w.heap.size + 1, 7, none⟩) (by dsimp only; omega) (.int .i64 1)).setCell (p := ⟨w.heap.size + 1, 8, none⟩) (by dsimp only; omega) (.int .i64 (-1))).setCell (p := ⟨w.heap.size + 1, 9, none⟩) (by dsimp only; omega) (.int .i64 0)).setCell (p := ⟨w.heap.size + 1, 10, none⟩) (by dsimp only; omega) (.int .i64 0)).setCell (p := ⟨w.heap.size + 1, 11, none⟩) (by dsimp only; omega) (.int .i64 0)).setCell (p := ⟨w.heap.size + 1, 12, none⟩) (by dsimp only; omega) (.int .i64 0)).setCell (p := ⟨w.heap.size + 1, 13, none⟩) (by dsimp only; omega) (.int .i64 0))
      generalize ((((((((((((((wr.setCell ⟨w.heap.size + 1, 0, none⟩ (.int .i64 k0)).setCell ⟨w.heap.size + 1, 1, none⟩ (.int .i64 1)).setCell ⟨w.heap.size + 1, 2, none⟩ (.int .i64 (-1))).setCell ⟨w.heap.size + 1, 3, none⟩ (.int .i64 0)).setCell ⟨w.heap.size + 1, 4, none⟩ (.int .i64 0)).setCell ⟨w.heap.size + 1, 5, none⟩ (.int .i64 0)).setCell ⟨w.heap.size + 1, 6, none⟩ (.int .i64 k1)).setCell ⟨w.heap.size + 1, 7, none⟩ (.int .i64 1)).setCell ⟨w.heap.size + 1, 8, none⟩ (.int .i64 (-1))).setCell ⟨w.heap.size + 1, 9, none⟩ (.int .i64 0)).setCell ⟨w.heap.size + 1, 10, none⟩ (.int .i64 0)).setCell ⟨w.heap.size + 1, 11, none⟩ (.int .i64 0)).setCell ⟨w.heap.size + 1, 12, none⟩ (.int .i64 0)).setCell ⟨w.heap.size + 1, 13, none⟩ (.int .i64 0)) = w9 at *
      have m0 : w9.cell? ⟨w.heap.size + 1, 0, none⟩ = some (.int .i64 k0) := hX1.cell 0
      have m1 : w9.cell? ⟨w.heap.size + 1, 1, none⟩ = some (.int .i64 1) := hX1.cell 1
      have m2 : w9.cell? ⟨w.heap.size + 1, 2, none⟩ = some (.int .i64 (-1)) := hX1.cell 2
      have m3 : w9.cell? ⟨w.heap.size + 1, 3, none⟩ = some (.int .i64 0) := hX1.cell 3
      have m4 : w9.cell? ⟨w.heap.size + 1, 4, none⟩ = some (.int .i64 0) := hX1.cell 4
      have m5 : w9.cell? ⟨w.heap.size + 1, 5, none⟩ = some (.int .i64 0) := hX1.cell 5
      have m6 : w9.cell? ⟨w.heap.size + 1, 6, none⟩ = some (.int .i64 k1) := hX1.cell 6
      have m7 : w9.cell? ⟨w.heap.size + 1, 7, none⟩ = some (.int .i64 1) := hX1.cell 7
      have m8 : w9.cell? ⟨w.heap.size + 1, 8, none⟩ = some (.int .i64 (-1)) := hX1.cell 8
      have m9 : w9.cell? ⟨w.heap.size + 1, 9, none⟩ = some (.int .i64 0) := hX1.cell 9
      have m10 : w9.cell? ⟨w.heap.size + 1, 10, none⟩ = some (.int .i64 0) := hX1.cell 10
      have m11 : w9.cell? ⟨w.heap.size + 1, 11, none⟩ = some (.int .i64 0) := hX1.cell 11
      have m12 : w9.cell? ⟨w.heap.size + 1, 12, none⟩ = some (.int .i64 0) := hX1.cell 12
      have m13 : w9.cell? ⟨w.heap.size + 1, 13, none⟩ = some (.int .i64 0) := hX1.cell 13
      refine bodyPost_ret (v := .tuple #[.agg #[.int .i64 k0, .int .i64 1, .int .i64 (-1), .int .i64 0, .int .i64 0, .int .i64 0, .int .i64 k1, .int .i64 1, .int .i64 (-1), .int .i64 0, .int .i64 0, .int .i64 0, .int .i64 0, .int .i64 0], .int .i64 0]) ?_ rfl ?_
      · simp [results, Tryz.results41, go_sem, m0, m1, m2, m3, m4, m5, m6, m7, m8, m9, m10, m11, m12, m13]
      · exact ⟨rfl, More.of_below hX3⟩
end Go.Proofs.YtgmljgcmfooniaaGreatDoor
