/- States, controls, pairs and rounds: what they read as, as keys, and when two are alike. Conditions: none. -/
import Derived.Test.YtgmljgcmfooniaaGreatDoorProg
import Derived.Test.YtgmljgcmfooniaaGreatDoorOpen
import Derived.DeepKeys5
import Derived.IntWalk
import Derived.WalkArith
import Derived.Maps.OwnSet
set_option linter.unusedVariables false
set_option linter.unusedSimpArgs false
namespace Go.Proofs.YtgmljgcmfooniaaGreatDoor
open Go.RowKit Go.Tide
set_option linter.unusedVariables false
set_option linter.unusedSimpArgs false
theorem cells_int : Tryz.prog.cellsOf 3 = 1 := by kernel_rfl
theorem cells_two : Tryz.prog.cellsOf 30 = 2 := by kernel_rfl
theorem cells_ctl : Tryz.prog.cellsOf 41 = 6 := by kernel_rfl
theorem cells_flows : Tryz.prog.cellsOf 42 = 12 := by kernel_rfl
theorem lits_two (d : Nat) (x y : Int) (hx : InI64 x) (hy : InI64 y) : Tryz.prog.keyLits (d + 2) 30 [.int .i64 x, .int .i64 y] = some [.int .i64 x, .int .i64 y] := by
  have hc : Tryz.prog.cellsOf 30 = 2 := by kernel_rfl
  simp [Program.keyLits, Tryz.underlying30, Tryz.underlying3, List.range_succ, hc, cells_int, cells_two, cells_ctl, cells_flows, WalkArith.wf_i64 hx, WalkArith.wf_i64 hy]
theorem lits_ctl (d : Nat) (a0 a1 a2 a3 a4 a5 : Int) (ha0 : InI64 a0) (ha1 : InI64 a1) (ha2 : InI64 a2) (ha3 : InI64 a3) (ha4 : InI64 a4) (ha5 : InI64 a5) : Tryz.prog.keyLits (d + 2) 41 [.int .i64 a0, .int .i64 a1, .int .i64 a2, .int .i64 a3, .int .i64 a4, .int .i64 a5] = some [.int .i64 a0, .int .i64 a1, .int .i64 a2, .int .i64 a3, .int .i64 a4, .int .i64 a5] := by
  have hc : Tryz.prog.cellsOf 41 = 6 := by kernel_rfl
  simp [Program.keyLits, Tryz.underlying41, Tryz.underlying3, List.range_succ, hc, cells_int, cells_two, cells_ctl, cells_flows, WalkArith.wf_i64 ha0, WalkArith.wf_i64 ha1, WalkArith.wf_i64 ha2, WalkArith.wf_i64 ha3, WalkArith.wf_i64 ha4, WalkArith.wf_i64 ha5]
theorem lits_round (d : Nat) (a0 a1 a2 a3 a4 a5 : Int) (ha0 : InI64 a0) (ha1 : InI64 a1) (ha2 : InI64 a2) (ha3 : InI64 a3) (ha4 : InI64 a4) (ha5 : InI64 a5) : Tryz.prog.keyLits (d + 3) 93 [.int .i64 a0, .int .i64 a1, .int .i64 a2, .int .i64 a3, .int .i64 a4, .int .i64 a5] = some [.int .i64 a0, .int .i64 a1, .int .i64 a2, .int .i64 a3, .int .i64 a4, .int .i64 a5] := by
  have hc : Tryz.prog.cellsOf 93 = 6 := by kernel_rfl
  simp [Program.keyLits, Tryz.underlying93, Tryz.underlying3, Tryz.underlying30, List.range_succ, hc, cells_int, cells_two, cells_ctl, cells_flows, WalkArith.wf_i64 ha0, WalkArith.wf_i64 ha1, WalkArith.wf_i64 ha2, WalkArith.wf_i64 ha3, WalkArith.wf_i64 ha4, WalkArith.wf_i64 ha5]
theorem lits_flows (d : Nat) (a0 a1 a2 a3 a4 a5 b0 b1 b2 b3 b4 b5 : Int) (ha0 : InI64 a0) (ha1 : InI64 a1) (ha2 : InI64 a2) (ha3 : InI64 a3) (ha4 : InI64 a4) (ha5 : InI64 a5) (hb0 : InI64 b0) (hb1 : InI64 b1) (hb2 : InI64 b2) (hb3 : InI64 b3) (hb4 : InI64 b4) (hb5 : InI64 b5) : Tryz.prog.keyLits (d + 3) 42 [.int .i64 a0, .int .i64 a1, .int .i64 a2, .int .i64 a3, .int .i64 a4, .int .i64 a5, .int .i64 b0, .int .i64 b1, .int .i64 b2, .int .i64 b3, .int .i64 b4, .int .i64 b5] = some [.int .i64 a0, .int .i64 a1, .int .i64 a2, .int .i64 a3, .int .i64 a4, .int .i64 a5, .int .i64 b0, .int .i64 b1, .int .i64 b2, .int .i64 b3, .int .i64 b4, .int .i64 b5] := by
  rw [show d + 3 = (d + 2) + 1 from rfl]
  unfold Program.keyLits
  simp [Tryz.underlying42, List.range_succ, cells_flows, cells_ctl, lits_ctl d a0 a1 a2 a3 a4 a5 ha0 ha1 ha2 ha3 ha4 ha5, lits_ctl d b0 b1 b2 b3 b4 b5 hb0 hb1 hb2 hb3 hb4 hb5]
theorem lits_state (d : Nat) (a0 a1 a2 a3 a4 a5 b0 b1 b2 b3 b4 b5 x y : Int) (ha0 : InI64 a0) (ha1 : InI64 a1) (ha2 : InI64 a2) (ha3 : InI64 a3) (ha4 : InI64 a4) (ha5 : InI64 a5) (hb0 : InI64 b0) (hb1 : InI64 b1) (hb2 : InI64 b2) (hb3 : InI64 b3) (hb4 : InI64 b4) (hb5 : InI64 b5) (hx : InI64 x) (hy : InI64 y) : Tryz.prog.keyLits (d + 4) 44 [.int .i64 a0, .int .i64 a1, .int .i64 a2, .int .i64 a3, .int .i64 a4, .int .i64 a5, .int .i64 b0, .int .i64 b1, .int .i64 b2, .int .i64 b3, .int .i64 b4, .int .i64 b5, .int .i64 x, .int .i64 y] = some [.int .i64 a0, .int .i64 a1, .int .i64 a2, .int .i64 a3, .int .i64 a4, .int .i64 a5, .int .i64 b0, .int .i64 b1, .int .i64 b2, .int .i64 b3, .int .i64 b4, .int .i64 b5, .int .i64 x, .int .i64 y] := by
  have hc : Tryz.prog.cellsOf 44 = 14 := by kernel_rfl
  rw [show d + 4 = (d + 3) + 1 from rfl]
  unfold Program.keyLits
  simp [Tryz.underlying44, hc, cells_flows, cells_two, lits_flows d a0 a1 a2 a3 a4 a5 b0 b1 b2 b3 b4 b5 ha0 ha1 ha2 ha3 ha4 ha5 hb0 hb1 hb2 hb3 hb4 hb5, lits_two (d + 1) x y hx hy]
/-- Two compared: alike just where all numbers are. -/
theorem equal_two (x y z u : Int) (hx : InI64 x) (hy : InI64 y) (hz : InI64 z) (hu : InI64 u) (w : World) : ∃ r : Bool, (Op.equalIn 10000 30 (.agg #[.int .i64 x, .int .i64 y]) (.agg #[.int .i64 z, .int .i64 u])).run Tryz.prog w = .ok r w ∧ (r = true ↔ [x, y] = [z, u]) := by
  obtain ⟨r, hr, hi⟩ := run_equalIn_deep (P := Tryz.prog) 9997 3 30 (by kernel_rfl) w 2 2 (.agg #[.int .i64 x, .int .i64 y]) (.agg #[.int .i64 z, .int .i64 u]) [.int .i64 x, .int .i64 y] [.int .i64 z, .int .i64 u] (by kernel_rfl) (by kernel_rfl) (lits_two 0 x y hx hy) (lits_two 0 z u hz hu)
  exact ⟨r, hr, hi.trans (by simp)⟩
/-- Two compared: alike just where all numbers are. -/
theorem equal_round (a0 a1 a2 a3 a4 a5 b0 b1 b2 b3 b4 b5 : Int) (ha0 : InI64 a0) (ha1 : InI64 a1) (ha2 : InI64 a2) (ha3 : InI64 a3) (ha4 : InI64 a4) (ha5 : InI64 a5) (hb0 : InI64 b0) (hb1 : InI64 b1) (hb2 : InI64 b2) (hb3 : InI64 b3) (hb4 : InI64 b4) (hb5 : InI64 b5) (w : World) : ∃ r : Bool, (Op.equalIn 10000 93 (.agg #[.int .i64 a0, .int .i64 a1, .int .i64 a2, .int .i64 a3, .int .i64 a4, .int .i64 a5]) (.agg #[.int .i64 b0, .int .i64 b1, .int .i64 b2, .int .i64 b3, .int .i64 b4, .int .i64 b5])).run Tryz.prog w = .ok r w ∧ (r = true ↔ [a0, a1, a2, a3, a4, a5] = [b0, b1, b2, b3, b4, b5]) := by
  obtain ⟨r, hr, hi⟩ := run_equalIn_deep (P := Tryz.prog) 9996 4 93 (by kernel_rfl) w 3 3 (.agg #[.int .i64 a0, .int .i64 a1, .int .i64 a2, .int .i64 a3, .int .i64 a4, .int .i64 a5]) (.agg #[.int .i64 b0, .int .i64 b1, .int .i64 b2, .int .i64 b3, .int .i64 b4, .int .i64 b5]) [.int .i64 a0, .int .i64 a1, .int .i64 a2, .int .i64 a3, .int .i64 a4, .int .i64 a5] [.int .i64 b0, .int .i64 b1, .int .i64 b2, .int .i64 b3, .int .i64 b4, .int .i64 b5] (by kernel_rfl) (by kernel_rfl) (lits_round 0 a0 a1 a2 a3 a4 a5 ha0 ha1 ha2 ha3 ha4 ha5) (lits_round 0 b0 b1 b2 b3 b4 b5 hb0 hb1 hb2 hb3 hb4 hb5)
  exact ⟨r, hr, hi.trans (by simp)⟩
/-- Two compared: alike just where all numbers are. -/
theorem equal_state (a0 a1 a2 a3 a4 a5 b0 b1 b2 b3 b4 b5 x y c0 c1 c2 c3 c4 c5 c6 c7 c8 c9 c10 c11 c12 c13 : Int) (ha0 : InI64 a0) (ha1 : InI64 a1) (ha2 : InI64 a2) (ha3 : InI64 a3) (ha4 : InI64 a4) (ha5 : InI64 a5) (hb0 : InI64 b0) (hb1 : InI64 b1) (hb2 : InI64 b2) (hb3 : InI64 b3) (hb4 : InI64 b4) (hb5 : InI64 b5) (hx : InI64 x) (hy : InI64 y) (hc0 : InI64 c0) (hc1 : InI64 c1) (hc2 : InI64 c2) (hc3 : InI64 c3) (hc4 : InI64 c4) (hc5 : InI64 c5) (hc6 : InI64 c6) (hc7 : InI64 c7) (hc8 : InI64 c8) (hc9 : InI64 c9) (hc10 : InI64 c10) (hc11 : InI64 c11) (hc12 : InI64 c12) (hc13 : InI64 c13) (w : World) : ∃ r : Bool, (Op.equalIn 10000 44 (.agg #[.int .i64 a0, .int .i64 a1, .int .i64 a2, .int .i64 a3, .int .i64 a4, .int .i64 a5, .int .i64 b0, .int .i64 b1, .int .i64 b2, .int .i64 b3, .int .i64 b4, .int .i64 b5, .int .i64 x, .int .i64 y]) (.agg #[.int .i64 c0, .int .i64 c1, .int .i64 c2, .int .i64 c3, .int .i64 c4, .int .i64 c5, .int .i64 c6, .int .i64 c7, .int .i64 c8, .int .i64 c9, .int .i64 c10, .int .i64 c11, .int .i64 c12, .int .i64 c13])).run Tryz.prog w = .ok r w ∧ (r = true ↔ [a0, a1, a2, a3, a4, a5, b0, b1, b2, b3, b4, b5, x, y] = [c0, c1, c2, c3, c4, c5, c6, c7, c8, c9, c10, c11, c12, c13]) := by
  obtain ⟨r, hr, hi⟩ := run_equalIn_deep (P := Tryz.prog) 9995 5 44 (by kernel_rfl) w 4 4 (.agg #[.int .i64 a0, .int .i64 a1, .int .i64 a2, .int .i64 a3, .int .i64 a4, .int .i64 a5, .int .i64 b0, .int .i64 b1, .int .i64 b2, .int .i64 b3, .int .i64 b4, .int .i64 b5, .int .i64 x, .int .i64 y]) (.agg #[.int .i64 c0, .int .i64 c1, .int .i64 c2, .int .i64 c3, .int .i64 c4, .int .i64 c5, .int .i64 c6, .int .i64 c7, .int .i64 c8, .int .i64 c9, .int .i64 c10, .int .i64 c11, .int .i64 c12, .int .i64 c13]) [.int .i64 a0, .int .i64 a1, .int .i64 a2, .int .i64 a3, .int .i64 a4, .int .i64 a5, .int .i64 b0, .int .i64 b1, .int .i64 b2, .int .i64 b3, .int .i64 b4, .int .i64 b5, .int .i64 x, .int .i64 y] [.int .i64 c0, .int .i64 c1, .int .i64 c2, .int .i64 c3, .int .i64 c4, .int .i64 c5, .int .i64 c6, .int .i64 c7, .int .i64 c8, .int .i64 c9, .int .i64 c10, .int .i64 c11, .int .i64 c12, .int .i64 c13] (by kernel_rfl) (by kernel_rfl) (lits_state 0 a0 a1 a2 a3 a4 a5 b0 b1 b2 b3 b4 b5 x y ha0 ha1 ha2 ha3 ha4 ha5 hb0 hb1 hb2 hb3 hb4 hb5 hx hy) (lits_state 0 c0 c1 c2 c3 c4 c5 c6 c7 c8 c9 c10 c11 c12 c13 hc0 hc1 hc2 hc3 hc4 hc5 hc6 hc7 hc8 hc9 hc10 hc11 hc12 hc13)
  exact ⟨r, hr, hi.trans (by simp)⟩
/-- Two compared: alike just where all numbers are. -/
theorem equal_ctl (a0 a1 a2 a3 a4 a5 b0 b1 b2 b3 b4 b5 : Int) (ha0 : InI64 a0) (ha1 : InI64 a1) (ha2 : InI64 a2) (ha3 : InI64 a3) (ha4 : InI64 a4) (ha5 : InI64 a5) (hb0 : InI64 b0) (hb1 : InI64 b1) (hb2 : InI64 b2) (hb3 : InI64 b3) (hb4 : InI64 b4) (hb5 : InI64 b5) (w : World) : ∃ r : Bool, (Op.equalIn 10000 41 (.agg #[.int .i64 a0, .int .i64 a1, .int .i64 a2, .int .i64 a3, .int .i64 a4, .int .i64 a5]) (.agg #[.int .i64 b0, .int .i64 b1, .int .i64 b2, .int .i64 b3, .int .i64 b4, .int .i64 b5])).run Tryz.prog w = .ok r w ∧ (r = true ↔ [a0, a1, a2, a3, a4, a5] = [b0, b1, b2, b3, b4, b5]) := by
  obtain ⟨r, hr, hi⟩ := run_equalIn_deep (P := Tryz.prog) 9997 3 41 (by kernel_rfl) w 2 2 (.agg #[.int .i64 a0, .int .i64 a1, .int .i64 a2, .int .i64 a3, .int .i64 a4, .int .i64 a5]) (.agg #[.int .i64 b0, .int .i64 b1, .int .i64 b2, .int .i64 b3, .int .i64 b4, .int .i64 b5]) [.int .i64 a0, .int .i64 a1, .int .i64 a2, .int .i64 a3, .int .i64 a4, .int .i64 a5] [.int .i64 b0, .int .i64 b1, .int .i64 b2, .int .i64 b3, .int .i64 b4, .int .i64 b5] (by kernel_rfl) (by kernel_rfl) (lits_ctl 0 a0 a1 a2 a3 a4 a5 ha0 ha1 ha2 ha3 ha4 ha5) (lits_ctl 0 b0 b1 b2 b3 b4 b5 hb0 hb1 hb2 hb3 hb4 hb5)
  exact ⟨r, hr, hi.trans (by simp)⟩
theorem key_state (a0 a1 a2 a3 a4 a5 b0 b1 b2 b3 b4 b5 x y : Int) (ha0 : InI64 a0) (ha1 : InI64 a1) (ha2 : InI64 a2) (ha3 : InI64 a3) (ha4 : InI64 a4) (ha5 : InI64 a5) (hb0 : InI64 b0) (hb1 : InI64 b1) (hb2 : InI64 b2) (hb3 : InI64 b3) (hb4 : InI64 b4) (hb5 : InI64 b5) (hx : InI64 x) (hy : InI64 y) : keyOf Tryz.prog 44 (.agg #[.int .i64 a0, .int .i64 a1, .int .i64 a2, .int .i64 a3, .int .i64 a4, .int .i64 a5, .int .i64 b0, .int .i64 b1, .int .i64 b2, .int .i64 b3, .int .i64 b4, .int .i64 b5, .int .i64 x, .int .i64 y]) = some (.string (keyBytes [.int .i64 a0, .int .i64 a1, .int .i64 a2, .int .i64 a3, .int .i64 a4, .int .i64 a5, .int .i64 b0, .int .i64 b1, .int .i64 b2, .int .i64 b3, .int .i64 b4, .int .i64 b5, .int .i64 x, .int .i64 y])) := by
  unfold keyOf
  rw [Tryz.underlying44]
  dsimp only
  rw [if_pos (by kernel_rfl)]
  have h := lits_state (Tryz.prog.types.size - 3) a0 a1 a2 a3 a4 a5 b0 b1 b2 b3 b4 b5 x y ha0 ha1 ha2 ha3 ha4 ha5 hb0 hb1 hb2 hb3 hb4 hb5 hx hy
  rw [show Tryz.prog.types.size - 3 + 4 = Tryz.prog.types.size + 1 from by kernel_rfl] at h
  show (Tryz.prog.keyLits (Tryz.prog.types.size + 1) 44 [.int .i64 a0, .int .i64 a1, .int .i64 a2, .int .i64 a3, .int .i64 a4, .int .i64 a5, .int .i64 b0, .int .i64 b1, .int .i64 b2, .int .i64 b3, .int .i64 b4, .int .i64 b5, .int .i64 x, .int .i64 y]).map _ = _
  rw [h]
  rfl
theorem state_law : Maps.Keyed Tryz.prog 44 := Maps.Keyed.of_law (deep_law_gate (by kernel_rfl) (of_decide_eq_true (by kernel_rfl)) (of_decide_eq_true (by kernel_rfl)) (by kernel_rfl) (by kernel_rfl))
end Go.Proofs.YtgmljgcmfooniaaGreatDoor
