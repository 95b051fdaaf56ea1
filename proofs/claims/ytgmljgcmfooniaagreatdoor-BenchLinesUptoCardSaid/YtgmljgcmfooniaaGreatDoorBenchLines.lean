/- BenchLines: the law returns true. Conditions: what the package-level variables hold (BTabs); a text of at most 1048576 bytes. -/
import Derived.Test.YtgmljgcmfooniaaGreatDoorBnEq
import Derived.Test.YtgmljgcmfooniaaGreatDoorBnTell
set_option linter.unusedVariables false
set_option linter.unusedSimpArgs false
namespace Go.Proofs.YtgmljgcmfooniaaGreatDoor
open Go.RowKit Go.Shelf Go.Tide
set_option linter.unusedVariables false
set_option linter.unusedSimpArgs false
theorem line_first (j : Nat) (hj : j < 2) (kd mo : Int) : Lib.hasPrefix (lineS (j : Nat) kd mo).data.toList [UInt8.ofNat (48 + j), 32] = true := by
  unfold lineS
  rw [itoa_nat]
  rcases (show j = 0 ∨ j = 1 by omega) with rfl | rfl
  · by_cases h : kd = 2
    · rw [if_pos h, dec_two (n := 0) (by decide)]; rfl
    · rw [if_neg h, dec_two (n := 0) (by decide)]; rfl
  · by_cases h : kd = 2
    · rw [if_pos h, dec_two (n := 1) (by decide)]; rfl
    · rw [if_neg h, dec_two (n := 1) (by decide)]; rfl
set_option maxRecDepth 20000 in
set_option maxHeartbeats 8000000 in
theorem benchLines_walk (s0 : ByteArray) (a1 : Int) (w : World) (hT0 : BTabs w) (u0 : s0.size ≤ 1048576) :
    Calls Tryz.prog 3 #[.string s0, .int .i64 a1] w fun e w' => e = .returned (.bool true) ∧ Below w.heap.size w w' := by
  have hT : Hid (BTabs w) := hT0
  clear hT0
  go_enter Tryz.func3, Tryz.ntmps3
  go_wp2_with fail
  refine (bench_alive _ hT).mono ?_
  rintro e w' ⟨rfl, os1, d1, rfl⟩
  go_wp2_with fail
  refine (tell_any s0 (by omega) a1 _ (hT.out.more (by repeat (first | (with_reducible exact More.refl _) | (with_reducible refine More.alloc ?_ _) | (with_reducible refine More.more ?_ _ _) | (with_reducible refine More.drewN ?_ _) | (with_reducible refine More.drew ?_))))).mono ?_
  rintro e w1 ⟨hb, ⟨er, h0, rfl, HE⟩ | ⟨k0, k1, a, b, c, KD, MO, g, cap, HP, HK, hown, rfl⟩⟩
  · have q : (er != 0) = true := by simpa using h0
    have hbw : Below w.heap.size w w1 := (More.below (by repeat (first | (with_reducible exact More.refl _) | (with_reducible refine More.alloc ?_ _) | (with_reducible refine More.more ?_ _ _) | (with_reducible refine More.drewN ?_ _) | (with_reducible refine More.drew ?_)))).trans (hb.mono (by simp))
    go_wp2
    go_ret
    exact ⟨rfl, hbw⟩
  · have hbw : Below w.heap.size w w1 := (More.below (by repeat (first | (with_reducible exact More.refl _) | (with_reducible refine More.alloc ?_ _) | (with_reducible refine More.more ?_ _ _) | (with_reducible refine More.drewN ?_ _) | (with_reducible refine More.drew ?_)))).trans (hb.mono (by simp))
    have c0 : w1.cell? ⟨g, 0, none⟩ = some (.string (lineS (0 : Nat) (KD 0) (MO 0))) := (hown.cellAt 0 (by omega)).trans rfl
    have c1 : w1.cell? ⟨g, 1, none⟩ = some (.string (lineS (1 : Nat) (KD 1) (MO 1))) := (hown.cellAt 1 (by omega)).trans rfl
    have p0 := Lib.hid (line_first 0 (by omega) (KD 0) (MO 0))
    have p1 := Lib.hid (line_first 1 (by omega) (KD 1) (MO 1))
    generalize lineS (0 : Nat) (KD 0) (MO 0) = L0 at *
    generalize lineS (1 : Nat) (KD 1) (MO 1) = L1 at *
    clear hown HP HK hb
    go_wp2_with fail
    refine (Tryz.strings_HasPrefix L0 _ _).mono ?_
    rintro e w' ⟨rfl, rfl⟩
    rw [show Lib.hasPrefix L0.data.toList (⟨#[48, 32]⟩ : ByteArray).data.toList = true from p0.out]
    go_wp2_with fail
    refine (Tryz.strings_HasPrefix L1 _ _).mono ?_
    rintro e w' ⟨rfl, rfl⟩
    rw [show Lib.hasPrefix L1.data.toList (⟨#[49, 32]⟩ : ByteArray).data.toList = true from p1.out]
    go_wp2
    go_ret
    exact ⟨rfl, hbw⟩
end Go.Proofs.YtgmljgcmfooniaaGreatDoor
