/- The duel's kinds and rules. Conditions: none. -/
import Derived.Test.YtgmljgcmfooniaaGreatDoorVeg
import Derived.Test.YtgmljgcmfooniaaGreatDoorCopa
import Derived.Test.YtgmljgcmfooniaaGreatDoorLed
import Derived.Test.YtgmljgcmfooniaaGreatDoorLinkA
import Derived.Laws.Cover1
import Derived.Laws.EntriesVeiled
set_option linter.unusedVariables false
set_option linter.unusedSimpArgs false
namespace Go.Proofs.YtgmljgcmfooniaaGreatDoor
open Go.RowKit Go.Tide
set_option linter.unusedVariables false
set_option linter.unusedSimpArgs false
/-- There is such a kind. -/
def dKind (k : Int) : Prop := k = 1 ∨ k = 2 ∨ k = 3
theorem of_1 (w : World) : Calls Tryz.prog 68 #[.int .i64 1] w fun e w' => e = .returned (.tuple #[.agg #[.func (.func 94) #[] #[], .func (.func 95) #[] #[], .func (.func 96) #[] #[]], .bool true]) ∧ More w w' := by
  go_enter Tryz.func68, Tryz.ntmps68
  go_wp2
  refine bodyPost_ret (v := .tuple #[.agg #[.func (.func 94) #[] #[], .func (.func 95) #[] #[], .func (.func 96) #[] #[]], .bool true]) ?_ rfl ?_
  · simp [results, Tryz.results68, go_sem]
  · exact ⟨rfl, (by repeat (first | (with_reducible exact More.refl _) | (with_reducible refine More.alloc ?_ _) | (with_reducible refine More.more ?_ _ _) | (with_reducible refine More.drewN ?_ _) | (with_reducible refine More.drew ?_)))⟩
theorem of_2 (w : World) : Calls Tryz.prog 68 #[.int .i64 2] w fun e w' => e = .returned (.tuple #[.agg #[.func (.func 97) #[] #[], .func (.func 98) #[] #[], .func (.func 99) #[] #[]], .bool true]) ∧ More w w' := by
  go_enter Tryz.func68, Tryz.ntmps68
  go_wp2
  refine bodyPost_ret (v := .tuple #[.agg #[.func (.func 97) #[] #[], .func (.func 98) #[] #[], .func (.func 99) #[] #[]], .bool true]) ?_ rfl ?_
  · simp [results, Tryz.results68, go_sem]
  · exact ⟨rfl, (by repeat (first | (with_reducible exact More.refl _) | (with_reducible refine More.alloc ?_ _) | (with_reducible refine More.more ?_ _ _) | (with_reducible refine More.drewN ?_ _) | (with_reducible refine More.drew ?_)))⟩
theorem of_3 (w : World) : Calls Tryz.prog 68 #[.int .i64 3] w fun e w' => e = .returned (.tuple #[.agg #[.func (.func 100) #[] #[], .func (.func 101) #[] #[], .func (.func 102) #[] #[]], .bool true]) ∧ More w w' := by
  go_enter Tryz.func68, Tryz.ntmps68
  go_wp2
  refine bodyPost_ret (v := .tuple #[.agg #[.func (.func 100) #[] #[], .func (.func 101) #[] #[], .func (.func 102) #[] #[]], .bool true]) ?_ rfl ?_
  · simp [results, Tryz.results68, go_sem]
  · exact ⟨rfl, (by repeat (first | (with_reducible exact More.refl _) | (with_reducible refine More.alloc ?_ _) | (with_reducible refine More.more ?_ _ _) | (with_reducible refine More.drewN ?_ _) | (with_reducible refine More.drew ?_)))⟩
theorem of_none (k : Int) (h : ¬ dKind k) (w : World) : Calls Tryz.prog 68 #[.int .i64 k] w fun e w' => e = .returned (.tuple #[.agg #[.nilFunc, .nilFunc, .nilFunc], .bool false]) ∧ More w w' := by
  have h1 : (k == 1) = false := by simp; exact fun e => h (.inl e)
  have h2 : (k == 2) = false := by simp; exact fun e => h (.inr (.inl e))
  have h3 : (k == 3) = false := by simp; exact fun e => h (.inr (.inr e))
  clear h
  go_enter Tryz.func68, Tryz.ntmps68
  go_wp2
  refine bodyPost_ret (v := .tuple #[.agg #[.nilFunc, .nilFunc, .nilFunc], .bool false]) ?_ rfl ?_
  · simp [results, Tryz.results68, go_sem]
  · exact ⟨rfl, (by repeat (first | (with_reducible exact More.refl _) | (with_reducible refine More.alloc ?_ _) | (with_reducible refine More.more ?_ _ _) | (with_reducible refine More.drewN ?_ _) | (with_reducible refine More.drew ?_)))⟩
/-- The numbers of the rules are right. -/
def dNums (rate buf jit : Int) : Prop := 1 ≤ rate ∧ rate ≤ 12 ∧ 0 ≤ buf ∧ buf ≤ 16 ∧ 0 ≤ jit ∧ jit ≤ 3
set_option maxRecDepth 20000 in
set_option maxHeartbeats 4000000 in
theorem wrong_ok (k0 k1 rate buf jit : Int) (w : World) (hk0 : Hid (dKind k0)) (hk1 : Hid (dKind k1)) (hn : dNums rate buf jit) :
    Calls Tryz.prog 52 #[.agg #[.int .i64 k0, .int .i64 k1, .int .i64 rate, .int .i64 buf, .int .i64 jit]] w fun e w' => e = .returned (.int .i64 0) ∧ More w w' := by
  obtain ⟨n1, n2, n3, n4, n5, n6⟩ := hn
  go_enter Tryz.func52, Tryz.ntmps52
  go_wp2_with fail
  have hB := Blk.new w 32 #[.int .i64 k0, .int .i64 k1, .int .i64 rate, .int .i64 buf, .int .i64 jit]
  have hm : More w (w.alloc (.cells #[.int .i64 k0, .int .i64 k1, .int .i64 rate, .int .i64 buf, .int .i64 jit] 32)) := (by repeat (first | (with_reducible assumption) | (with_reducible exact More.refl _) | (with_reducible refine More.alloc ?_ _) | (with_reducible refine More.more ?_ _ _) | (with_reducible refine More.drewN ?_ _) | (with_reducible refine More.drew ?_)))
  have x2 : (w.alloc (.cells #[.int .i64 k0, .int .i64 k1, .int .i64 rate, .int .i64 buf, .int .i64 jit] 32)).cell? ⟨w.heap.size, 2, none⟩ = some (.int .i64 rate) := hB.cell 2
  have x3 : (w.alloc (.cells #[.int .i64 k0, .int .i64 k1, .int .i64 rate, .int .i64 buf, .int .i64 jit] 32)).cell? ⟨w.heap.size, 3, none⟩ = some (.int .i64 buf) := hB.cell 3
  have x4 : (w.alloc (.cells #[.int .i64 k0, .int .i64 k1, .int .i64 rate, .int .i64 buf, .int .i64 jit] 32)).cell? ⟨w.heap.size, 4, none⟩ = some (.int .i64 jit) := hB.cell 4
  have hl := hB.lt
  clear hB
  generalize w.alloc (.cells #[.int .i64 k0, .int .i64 k1, .int .i64 rate, .int .i64 buf, .int .i64 jit] 32) = wq at *
  generalize w.heap.size = G at *
  go_loopw [9] (fun i wr => ∃ j : Nat, j ≤ 2 ∧ i = .int .i64 j ∧ More wq wr) (fun i _ => 2 - (intOf i).toNat)
  case atStart => exact ⟨0, by omega, rfl, More.refl _⟩
  case round =>
    obtain ⟨j, hj, hi, os, d, rfl⟩ := hrel
    rcases (show j = 0 ∨ j = 1 ∨ j = 2 by omega) with rfl | rfl | rfl
    · have hi : _ = Value.int .i64 0 := hi
      subst hi
      rcases hk0.out with rfl | rfl | rfl
      · go_wp2_with (refine (of_1 _).mono ?_; rintro e w' ⟨rfl, os1, d1, rfl⟩)
        go_roundw
        case rel => exact ⟨1, by omega, by go_num, (by repeat (first | (with_reducible assumption) | (with_reducible exact More.refl _) | (with_reducible refine More.alloc ?_ _) | (with_reducible refine More.more ?_ _ _) | (with_reducible refine More.drewN ?_ _) | (with_reducible refine More.drew ?_)))⟩
        case measure => simp [intOf]
      · go_wp2_with (refine (of_2 _).mono ?_; rintro e w' ⟨rfl, os1, d1, rfl⟩)
        go_roundw
        case rel => exact ⟨1, by omega, by go_num, (by repeat (first | (with_reducible assumption) | (with_reducible exact More.refl _) | (with_reducible refine More.alloc ?_ _) | (with_reducible refine More.more ?_ _ _) | (with_reducible refine More.drewN ?_ _) | (with_reducible refine More.drew ?_)))⟩
        case measure => simp [intOf]
      · go_wp2_with (refine (of_3 _).mono ?_; rintro e w' ⟨rfl, os1, d1, rfl⟩)
        go_roundw
        case rel => exact ⟨1, by omega, by go_num, (by repeat (first | (with_reducible assumption) | (with_reducible exact More.refl _) | (with_reducible refine More.alloc ?_ _) | (with_reducible refine More.more ?_ _ _) | (with_reducible refine More.drewN ?_ _) | (with_reducible refine More.drew ?_)))⟩
        case measure => simp [intOf]
    · have hi : _ = Value.int .i64 1 := hi
      subst hi
      rcases hk1.out with rfl | rfl | rfl
      · go_wp2_with (refine (of_1 _).mono ?_; rintro e w' ⟨rfl, os1, d1, rfl⟩)
        go_roundw
        case rel => exact ⟨2, by omega, by go_num, (by repeat (first | (with_reducible assumption) | (with_reducible exact More.refl _) | (with_reducible refine More.alloc ?_ _) | (with_reducible refine More.more ?_ _ _) | (with_reducible refine More.drewN ?_ _) | (with_reducible refine More.drew ?_)))⟩
        case measure => simp [intOf]
      · go_wp2_with (refine (of_2 _).mono ?_; rintro e w' ⟨rfl, os1, d1, rfl⟩)
        go_roundw
        case rel => exact ⟨2, by omega, by go_num, (by repeat (first | (with_reducible assumption) | (with_reducible exact More.refl _) | (with_reducible refine More.alloc ?_ _) | (with_reducible refine More.more ?_ _ _) | (with_reducible refine More.drewN ?_ _) | (with_reducible refine More.drew ?_)))⟩
        case measure => simp [intOf]
      · go_wp2_with (refine (of_3 _).mono ?_; rintro e w' ⟨rfl, os1, d1, rfl⟩)
        go_roundw
        case rel => exact ⟨2, by omega, by go_num, (by repeat (first | (with_reducible assumption) | (with_reducible exact More.refl _) | (with_reducible refine More.alloc ?_ _) | (with_reducible refine More.more ?_ _ _) | (with_reducible refine More.drewN ?_ _) | (with_reducible refine More.drew ?_)))⟩
        case measure => simp [intOf]
    · have hi : _ = Value.int .i64 2 := hi
      subst hi
      have g0 : decide (rate < 1) = false := by simp; omega
      have g1 : decide (12 < rate) = false := by simp; omega
      have g2 : decide (buf < 0) = false := by simp; omega
      have g3 : decide (16 < buf) = false := by simp; omega
      have g4 : decide (jit < 0) = false := by simp; omega
      have g5 : decide (3 < jit) = false := by simp; omega
      go_wp2
      go_ret
      exact ⟨rfl, hm.trans (by repeat (first | (with_reducible assumption) | (with_reducible exact More.refl _) | (with_reducible refine More.alloc ?_ _) | (with_reducible refine More.more ?_ _ _) | (with_reducible refine More.drewN ?_ _) | (with_reducible refine More.drew ?_)))⟩
set_option maxRecDepth 20000 in
set_option maxHeartbeats 4000000 in
theorem wrong_n0 (k0 k1 rate buf jit : Int) (w : World) (hk0 : Hid (dKind k0)) (hk1 : Hid (dKind k1))  (hn : rate < 1) :
    Calls Tryz.prog 52 #[.agg #[.int .i64 k0, .int .i64 k1, .int .i64 rate, .int .i64 buf, .int .i64 jit]] w fun e w' => e = .returned (.int .i64 2) ∧ More w w' := by
  go_enter Tryz.func52, Tryz.ntmps52
  go_wp2_with fail
  have hB := Blk.new w 32 #[.int .i64 k0, .int .i64 k1, .int .i64 rate, .int .i64 buf, .int .i64 jit]
  have hm : More w (w.alloc (.cells #[.int .i64 k0, .int .i64 k1, .int .i64 rate, .int .i64 buf, .int .i64 jit] 32)) := (by repeat (first | (with_reducible assumption) | (with_reducible exact More.refl _) | (with_reducible refine More.alloc ?_ _) | (with_reducible refine More.more ?_ _ _) | (with_reducible refine More.drewN ?_ _) | (with_reducible refine More.drew ?_)))
  have x2 : (w.alloc (.cells #[.int .i64 k0, .int .i64 k1, .int .i64 rate, .int .i64 buf, .int .i64 jit] 32)).cell? ⟨w.heap.size, 2, none⟩ = some (.int .i64 rate) := hB.cell 2
  have x3 : (w.alloc (.cells #[.int .i64 k0, .int .i64 k1, .int .i64 rate, .int .i64 buf, .int .i64 jit] 32)).cell? ⟨w.heap.size, 3, none⟩ = some (.int .i64 buf) := hB.cell 3
  have x4 : (w.alloc (.cells #[.int .i64 k0, .int .i64 k1, .int .i64 rate, .int .i64 buf, .int .i64 jit] 32)).cell? ⟨w.heap.size, 4, none⟩ = some (.int .i64 jit) := hB.cell 4
  have hl := hB.lt
  clear hB
  generalize w.alloc (.cells #[.int .i64 k0, .int .i64 k1, .int .i64 rate, .int .i64 buf, .int .i64 jit] 32) = wq at *
  generalize w.heap.size = G at *
  go_loopw [9] (fun i wr => ∃ j : Nat, j ≤ 2 ∧ i = .int .i64 j ∧ More wq wr) (fun i _ => 2 - (intOf i).toNat)
  case atStart => exact ⟨0, by omega, rfl, More.refl _⟩
  case round =>
    obtain ⟨j, hj, hi, os, d, rfl⟩ := hrel
    rcases (show j = 0 ∨ j = 1 ∨ j = 2 by omega) with rfl | rfl | rfl
    · have hi : _ = Value.int .i64 0 := hi
      subst hi
      rcases hk0.out with rfl | rfl | rfl
      · go_wp2_with (refine (of_1 _).mono ?_; rintro e w' ⟨rfl, os1, d1, rfl⟩)
        go_roundw
        case rel => exact ⟨1, by omega, by go_num, (by repeat (first | (with_reducible assumption) | (with_reducible exact More.refl _) | (with_reducible refine More.alloc ?_ _) | (with_reducible refine More.more ?_ _ _) | (with_reducible refine More.drewN ?_ _) | (with_reducible refine More.drew ?_)))⟩
        case measure => simp [intOf]
      · go_wp2_with (refine (of_2 _).mono ?_; rintro e w' ⟨rfl, os1, d1, rfl⟩)
        go_roundw
        case rel => exact ⟨1, by omega, by go_num, (by repeat (first | (with_reducible assumption) | (with_reducible exact More.refl _) | (with_reducible refine More.alloc ?_ _) | (with_reducible refine More.more ?_ _ _) | (with_reducible refine More.drewN ?_ _) | (with_reducible refine More.drew ?_)))⟩
        case measure => simp [intOf]
      · go_wp2_with (refine (of_3 _).mono ?_; rintro e w' ⟨rfl, os1, d1, rfl⟩)
        go_roundw
        case rel => exact ⟨1, by omega, by go_num, (by repeat (first | (with_reducible assumption) | (with_reducible exact More.refl _) | (with_reducible refine More.alloc ?_ _) | (with_reducible refine More.more ?_ _ _) | (with_reducible refine More.drewN ?_ _) | (with_reducible refine More.drew ?_)))⟩
        case measure => simp [intOf]
    · have hi : _ = Value.int .i64 1 := hi
      subst hi
      rcases hk1.out with rfl | rfl | rfl
      · go_wp2_with (refine (of_1 _).mono ?_; rintro e w' ⟨rfl, os1, d1, rfl⟩)
        go_roundw
        case rel => exact ⟨2, by omega, by go_num, (by repeat (first | (with_reducible assumption) | (with_reducible exact More.refl _) | (with_reducible refine More.alloc ?_ _) | (with_reducible refine More.more ?_ _ _) | (with_reducible refine More.drewN ?_ _) | (with_reducible refine More.drew ?_)))⟩
        case measure => simp [intOf]
      · go_wp2_with (refine (of_2 _).mono ?_; rintro e w' ⟨rfl, os1, d1, rfl⟩)
        go_roundw
        case rel => exact ⟨2, by omega, by go_num, (by repeat (first | (with_reducible assumption) | (with_reducible exact More.refl _) | (with_reducible refine More.alloc ?_ _) | (with_reducible refine More.more ?_ _ _) | (with_reducible refine More.drewN ?_ _) | (with_reducible refine More.drew ?_)))⟩
        case measure => simp [intOf]
      · go_wp2_with (refine (of_3 _).mono ?_; rintro e w' ⟨rfl, os1, d1, rfl⟩)
        go_roundw
        case rel => exact ⟨2, by omega, by go_num, (by repeat (first | (with_reducible assumption) | (with_reducible exact More.refl _) | (with_reducible refine More.alloc ?_ _) | (with_reducible refine More.more ?_ _ _) | (with_reducible refine More.drewN ?_ _) | (with_reducible refine More.drew ?_)))⟩
        case measure => simp [intOf]
    · have hi : _ = Value.int .i64 2 := hi
      subst hi
      have g0 : decide (rate < 1) = true := by simp; omega
      go_wp2
      go_ret
      exact ⟨rfl, hm.trans (by repeat (first | (with_reducible assumption) | (with_reducible exact More.refl _) | (with_reducible refine More.alloc ?_ _) | (with_reducible refine More.more ?_ _ _) | (with_reducible refine More.drewN ?_ _) | (with_reducible refine More.drew ?_)))⟩
set_option maxRecDepth 20000 in
set_option maxHeartbeats 4000000 in
theorem wrong_n1 (k0 k1 rate buf jit : Int) (w : World) (hk0 : Hid (dKind k0)) (hk1 : Hid (dKind k1)) (n0 : ¬ rate < 1) (hn : 12 < rate) :
    Calls Tryz.prog 52 #[.agg #[.int .i64 k0, .int .i64 k1, .int .i64 rate, .int .i64 buf, .int .i64 jit]] w fun e w' => e = .returned (.int .i64 2) ∧ More w w' := by
  go_enter Tryz.func52, Tryz.ntmps52
  go_wp2_with fail
  have hB := Blk.new w 32 #[.int .i64 k0, .int .i64 k1, .int .i64 rate, .int .i64 buf, .int .i64 jit]
  have hm : More w (w.alloc (.cells #[.int .i64 k0, .int .i64 k1, .int .i64 rate, .int .i64 buf, .int .i64 jit] 32)) := (by repeat (first | (with_reducible assumption) | (with_reducible exact More.refl _) | (with_reducible refine More.alloc ?_ _) | (with_reducible refine More.more ?_ _ _) | (with_reducible refine More.drewN ?_ _) | (with_reducible refine More.drew ?_)))
  have x2 : (w.alloc (.cells #[.int .i64 k0, .int .i64 k1, .int .i64 rate, .int .i64 buf, .int .i64 jit] 32)).cell? ⟨w.heap.size, 2, none⟩ = some (.int .i64 rate) := hB.cell 2
  have x3 : (w.alloc (.cells #[.int .i64 k0, .int .i64 k1, .int .i64 rate, .int .i64 buf, .int .i64 jit] 32)).cell? ⟨w.heap.size, 3, none⟩ = some (.int .i64 buf) := hB.cell 3
  have x4 : (w.alloc (.cells #[.int .i64 k0, .int .i64 k1, .int .i64 rate, .int .i64 buf, .int .i64 jit] 32)).cell? ⟨w.heap.size, 4, none⟩ = some (.int .i64 jit) := hB.cell 4
  have hl := hB.lt
  clear hB
  generalize w.alloc (.cells #[.int .i64 k0, .int .i64 k1, .int .i64 rate, .int .i64 buf, .int .i64 jit] 32) = wq at *
  generalize w.heap.size = G at *
  go_loopw [9] (fun i wr => ∃ j : Nat, j ≤ 2 ∧ i = .int .i64 j ∧ More wq wr) (fun i _ => 2 - (intOf i).toNat)
  case atStart => exact ⟨0, by omega, rfl, More.refl _⟩
  case round =>
    obtain ⟨j, hj, hi, os, d, rfl⟩ := hrel
    rcases (show j = 0 ∨ j = 1 ∨ j = 2 by omega) with rfl | rfl | rfl
    · have hi : _ = Value.int .i64 0 := hi
      subst hi
      rcases hk0.out with rfl | rfl | rfl
      · go_wp2_with (refine (of_1 _).mono ?_; rintro e w' ⟨rfl, os1, d1, rfl⟩)
        go_roundw
        case rel => exact ⟨1, by omega, by go_num, (by repeat (first | (with_reducible assumption) | (with_reducible exact More.refl _) | (with_reducible refine More.alloc ?_ _) | (with_reducible refine More.more ?_ _ _) | (with_reducible refine More.drewN ?_ _) | (with_reducible refine More.drew ?_)))⟩
        case measure => simp [intOf]
      · go_wp2_with (refine (of_2 _).mono ?_; rintro e w' ⟨rfl, os1, d1, rfl⟩)
        go_roundw
        case rel => exact ⟨1, by omega, by go_num, (by repeat (first | (with_reducible assumption) | (with_reducible exact More.refl _) | (with_reducible refine More.alloc ?_ _) | (with_reducible refine More.more ?_ _ _) | (with_reducible refine More.drewN ?_ _) | (with_reducible refine More.drew ?_)))⟩
        case measure => simp [intOf]
      · go_wp2_with (refine (of_3 _).mono ?_; rintro e w' ⟨rfl, os1, d1, rfl⟩)
        go_roundw
        case rel => exact ⟨1, by omega, by go_num, (by repeat (first | (with_reducible assumption) | (with_reducible exact More.refl _) | (with_reducible refine More.alloc ?_ _) | (with_reducible refine More.more ?_ _ _) | (with_reducible refine More.drewN ?_ _) | (with_reducible refine More.drew ?_)))⟩
        case measure => simp [intOf]
    · have hi : _ = Value.int .i64 1 := hi
      subst hi
      rcases hk1.out with rfl | rfl | rfl
      · go_wp2_with (refine (of_1 _).mono ?_; rintro e w' ⟨rfl, os1, d1, rfl⟩)
        go_roundw
        case rel => exact ⟨2, by omega, by go_num, (by repeat (first | (with_reducible assumption) | (with_reducible exact More.refl _) | (with_reducible refine More.alloc ?_ _) | (with_reducible refine More.more ?_ _ _) | (with_reducible refine More.drewN ?_ _) | (with_reducible refine More.drew ?_)))⟩
        case measure => simp [intOf]
      · go_wp2_with (refine (of_2 _).mono ?_; rintro e w' ⟨rfl, os1, d1, rfl⟩)
        go_roundw
        case rel => exact ⟨2, by omega, by go_num, (by repeat (first | (with_reducible assumption) | (with_reducible exact More.refl _) | (with_reducible refine More.alloc ?_ _) | (with_reducible refine More.more ?_ _ _) | (with_reducible refine More.drewN ?_ _) | (with_reducible refine More.drew ?_)))⟩
        case measure => simp [intOf]
      · go_wp2_with (refine (of_3 _).mono ?_; rintro e w' ⟨rfl, os1, d1, rfl⟩)
        go_roundw
        case rel => exact ⟨2, by omega, by go_num, (by repeat (first | (with_reducible assumption) | (with_reducible exact More.refl _) | (with_reducible refine More.alloc ?_ _) | (with_reducible refine More.more ?_ _ _) | (with_reducible refine More.drewN ?_ _) | (with_reducible refine More.drew ?_)))⟩
        case measure => simp [intOf]
    · have hi : _ = Value.int .i64 2 := hi
      subst hi
      have g0 : decide (rate < 1) = false := by simp; omega
      have g1 : decide (12 < rate) = true := by simp; omega
      go_wp2
      go_ret
      exact ⟨rfl, hm.trans (by repeat (first | (with_reducible assumption) | (with_reducible exact More.refl _) | (with_reducible refine More.alloc ?_ _) | (with_reducible refine More.more ?_ _ _) | (with_reducible refine More.drewN ?_ _) | (with_reducible refine More.drew ?_)))⟩
set_option maxRecDepth 20000 in
set_option maxHeartbeats 4000000 in
theorem wrong_n2 (k0 k1 rate buf jit : Int) (w : World) (hk0 : Hid (dKind k0)) (hk1 : Hid (dKind k1)) (n0 : ¬ rate < 1) (n1 : ¬ 12 < rate) (hn : buf < 0) :
    Calls Tryz.prog 52 #[.agg #[.int .i64 k0, .int .i64 k1, .int .i64 rate, .int .i64 buf, .int .i64 jit]] w fun e w' => e = .returned (.int .i64 2) ∧ More w w' := by
  go_enter Tryz.func52, Tryz.ntmps52
  go_wp2_with fail
  have hB := Blk.new w 32 #[.int .i64 k0, .int .i64 k1, .int .i64 rate, .int .i64 buf, .int .i64 jit]
  have hm : More w (w.alloc (.cells #[.int .i64 k0, .int .i64 k1, .int .i64 rate, .int .i64 buf, .int .i64 jit] 32)) := (by repeat (first | (with_reducible assumption) | (with_reducible exact More.refl _) | (with_reducible refine More.alloc ?_ _) | (with_reducible refine More.more ?_ _ _) | (with_reducible refine More.drewN ?_ _) | (with_reducible refine More.drew ?_)))
  have x2 : (w.alloc (.cells #[.int .i64 k0, .int .i64 k1, .int .i64 rate, .int .i64 buf, .int .i64 jit] 32)).cell? ⟨w.heap.size, 2, none⟩ = some (.int .i64 rate) := hB.cell 2
  have x3 : (w.alloc (.cells #[.int .i64 k0, .int .i64 k1, .int .i64 rate, .int .i64 buf, .int .i64 jit] 32)).cell? ⟨w.heap.size, 3, none⟩ = some (.int .i64 buf) := hB.cell 3
  have x4 : (w.alloc (.cells #[.int .i64 k0, .int .i64 k1, .int .i64 rate, .int .i64 buf, .int .i64 jit] 32)).cell? ⟨w.heap.size, 4, none⟩ = some (.int .i64 jit) := hB.cell 4
  have hl := hB.lt
  clear hB
  generalize w.alloc (.cells #[.int .i64 k0, .int .i64 k1, .int .i64 rate, .int .i64 buf, .int .i64 jit] 32) = wq at *
  generalize w.heap.size = G at *
  go_loopw [9] (fun i wr => ∃ j : Nat, j ≤ 2 ∧ i = .int .i64 j ∧ More wq wr) (fun i _ => 2 - (intOf i).toNat)
  case atStart => exact ⟨0, by omega, rfl, More.refl _⟩
  case round =>
    obtain ⟨j, hj, hi, os, d, rfl⟩ := hrel
    rcases (show j = 0 ∨ j = 1 ∨ j = 2 by omega) with rfl | rfl | rfl
    · have hi : _ = Value.int .i64 0 := hi
      subst hi
      rcases hk0.out with rfl | rfl | rfl
      · go_wp2_with (refine (of_1 _).mono ?_; rintro e w' ⟨rfl, os1, d1, rfl⟩)
        go_roundw
        case rel => exact ⟨1, by omega, by go_num, (by repeat (first | (with_reducible assumption) | (with_reducible exact More.refl _) | (with_reducible refine More.alloc ?_ _) | (with_reducible refine More.more ?_ _ _) | (with_reducible refine More.drewN ?_ _) | (with_reducible refine More.drew ?_)))⟩
        case measure => simp [intOf]
      · go_wp2_with (refine (of_2 _).mono ?_; rintro e w' ⟨rfl, os1, d1, rfl⟩)
        go_roundw
        case rel => exact ⟨1, by omega, by go_num, (by repeat (first | (with_reducible assumption) | (with_reducible exact More.refl _) | (with_reducible refine More.alloc ?_ _) | (with_reducible refine More.more ?_ _ _) | (with_reducible refine More.drewN ?_ _) | (with_reducible refine More.drew ?_)))⟩
        case measure => simp [intOf]
      · go_wp2_with (refine (of_3 _).mono ?_; rintro e w' ⟨rfl, os1, d1, rfl⟩)
        go_roundw
        case rel => exact ⟨1, by omega, by go_num, (by repeat (first | (with_reducible assumption) | (with_reducible exact More.refl _) | (with_reducible refine More.alloc ?_ _) | (with_reducible refine More.more ?_ _ _) | (with_reducible refine More.drewN ?_ _) | (with_reducible refine More.drew ?_)))⟩
        case measure => simp [intOf]
    · have hi : _ = Value.int .i64 1 := hi
      subst hi
      rcases hk1.out with rfl | rfl | rfl
      · go_wp2_with (refine (of_1 _).mono ?_; rintro e w' ⟨rfl, os1, d1, rfl⟩)
        go_roundw
        case rel => exact ⟨2, by omega, by go_num, (by repeat (first | (with_reducible assumption) | (with_reducible exact More.refl _) | (with_reducible refine More.alloc ?_ _) | (with_reducible refine More.more ?_ _ _) | (with_reducible refine More.drewN ?_ _) | (with_reducible refine More.drew ?_)))⟩
        case measure => simp [intOf]
      · go_wp2_with (refine (of_2 _).mono ?_; rintro e w' ⟨rfl, os1, d1, rfl⟩)
        go_roundw
        case rel => exact ⟨2, by omega, by go_num, (by repeat (first | (with_reducible assumption) | (with_reducible exact More.refl _) | (with_reducible refine More.alloc ?_ _) | (with_reducible refine More.more ?_ _ _) | (with_reducible refine More.drewN ?_ _) | (with_reducible refine More.drew ?_)))⟩
        case measure => simp [intOf]
      · go_wp2_with (refine (of_3 _).mono ?_; rintro e w' ⟨rfl, os1, d1, rfl⟩)
        go_roundw
        case rel => exact ⟨2, by omega, by go_num, (by repeat (first | (with_reducible assumption) | (with_reducible exact More.refl _) | (with_reducible refine More.alloc ?_ _) | (with_reducible refine More.more ?_ _ _) | (with_reducible refine More.drewN ?_ _) | (with_reducible refine More.drew ?_)))⟩
        case measure => simp [intOf]
    · have hi : _ = Value.int .i64 2 := hi
      subst hi
      have g0 : decide (rate < 1) = false := by simp; omega
      have g1 : decide (12 < rate) = false := by simp; omega
      have g2 : decide (buf < 0) = true := by simp; omega
      go_wp2
      go_ret
      exact ⟨rfl, hm.trans (by repeat (first | (with_reducible assumption) | (with_reducible exact More.refl _) | (with_reducible refine More.alloc ?_ _) | (with_reducible refine More.more ?_ _ _) | (with_reducible refine More.drewN ?_ _) | (with_reducible refine More.drew ?_)))⟩
set_option maxRecDepth 20000 in
set_option maxHeartbeats 4000000 in
theorem wrong_n3 (k0 k1 rate buf jit : Int) (w : World) (hk0 : Hid (dKind k0)) (hk1 : Hid (dKind k1)) (n0 : ¬ rate < 1) (n1 : ¬ 12 < rate) (n2 : ¬ buf < 0) (hn : 16 < buf) :
    Calls Tryz.prog 52 #[.agg #[.int .i64 k0, .int .i64 k1, .int .i64 rate, .int .i64 buf, .int .i64 jit]] w fun e w' => e = .returned (.int .i64 2) ∧ More w w' := by
  go_enter Tryz.func52, Tryz.ntmps52
  go_wp2_with fail
  have hB := Blk.new w 32 #[.int .i64 k0, .int .i64 k1, .int .i64 rate, .int .i64 buf, .int .i64 jit]
  have hm : More w (w.alloc (.cells #[.int .i64 k0, .int .i64 k1, .int .i64 rate, .int .i64 buf, .int .i64 jit] 32)) := (by repeat (first | (with_reducible assumption) | (with_reducible exact More.refl _) | (with_reducible refine More.alloc ?_ _) | (with_reducible refine More.more ?_ _ _) | (with_reducible refine More.drewN ?_ _) | (with_reducible refine More.drew ?_)))
  have x2 : (w.alloc (.cells #[.int .i64 k0, .int .i64 k1, .int .i64 rate, .int .i64 buf, .int .i64 jit] 32)).cell? ⟨w.heap.size, 2, none⟩ = some (.int .i64 rate) := hB.cell 2
  have x3 : (w.alloc (.cells #[.int .i64 k0, .int .i64 k1, .int .i64 rate, .int .i64 buf, .int .i64 jit] 32)).cell? ⟨w.heap.size, 3, none⟩ = some (.int .i64 buf) := hB.cell 3
  have x4 : (w.alloc (.cells #[.int .i64 k0, .int .i64 k1, .int .i64 rate, .int .i64 buf, .int .i64 jit] 32)).cell? ⟨w.heap.size, 4, none⟩ = some (.int .i64 jit) := hB.cell 4
  have hl := hB.lt
  clear hB
  generalize w.alloc (.cells #[.int .i64 k0, .int .i64 k1, .int .i64 rate, .int .i64 buf, .int .i64 jit] 32) = wq at *
  generalize w.heap.size = G at *
  go_loopw [9] (fun i wr => ∃ j : Nat, j ≤ 2 ∧ i = .int .i64 j ∧ More wq wr) (fun i _ => 2 - (intOf i).toNat)
  case atStart => exact ⟨0, by omega, rfl, More.refl _⟩
  case round =>
    obtain ⟨j, hj, hi, os, d, rfl⟩ := hrel
    rcases (show j = 0 ∨ j = 1 ∨ j = 2 by omega) with rfl | rfl | rfl
    · have hi : _ = Value.int .i64 0 := hi
      subst hi
      rcases hk0.out with rfl | rfl | rfl
      · go_wp2_with (refine (of_1 _).mono ?_; rintro e w' ⟨rfl, os1, d1, rfl⟩)
        go_roundw
        case rel => exact ⟨1, by omega, by go_num, (by repeat (first | (with_reducible assumption) | (with_reducible exact More.refl _) | (with_reducible refine More.alloc ?_ _) | (with_reducible refine More.more ?_ _ _) | (with_reducible refine More.drewN ?_ _) | (with_reducible refine More.drew ?_)))⟩
        case measure => simp [intOf]
      · go_wp2_with (refine (of_2 _).mono ?_; rintro e w' ⟨rfl, os1, d1, rfl⟩)
        go_roundw
        case rel => exact ⟨1, by omega, by go_num, (by repeat (first | (with_reducible assumption) | (with_reducible exact More.refl _) | (with_reducible refine More.alloc ?_ _) | (with_reducible refine More.more ?_ _ _) | (with_reducible refine More.drewN ?_ _) | (with_reducible refine More.drew ?_)))⟩
        case measure => simp [intOf]
      · go_wp2_with (refine (of_3 _).mono ?_; rintro e w' ⟨rfl, os1, d1, rfl⟩)
        go_roundw
        case rel => exact ⟨1, by omega, by go_num, (by repeat (first | (with_reducible assumption) | (with_reducible exact More.refl _) | (with_reducible refine More.alloc ?_ _) | (with_reducible refine More.more ?_ _ _) | (with_reducible refine More.drewN ?_ _) | (with_reducible refine More.drew ?_)))⟩
        case measure => simp [intOf]
    · have hi : _ = Value.int .i64 1 := hi
      subst hi
      rcases hk1.out with rfl | rfl | rfl
      · go_wp2_with (refine (of_1 _).mono ?_; rintro e w' ⟨rfl, os1, d1, rfl⟩)
        go_roundw
        case rel => exact ⟨2, by omega, by go_num, (by repeat (first | (with_reducible assumption) | (with_reducible exact More.refl _) | (with_reducible refine More.alloc ?_ _) | (with_reducible refine More.more ?_ _ _) | (with_reducible refine More.drewN ?_ _) | (with_reducible refine More.drew ?_)))⟩
        case measure => simp [intOf]
      · go_wp2_with (refine (of_2 _).mono ?_; rintro e w' ⟨rfl, os1, d1, rfl⟩)
        go_roundw
        case rel => exact ⟨2, by omega, by go_num, (by repeat (first | (with_reducible assumption) | (with_reducible exact More.refl _) | (with_reducible refine More.alloc ?_ _) | (with_reducible refine More.more ?_ _ _) | (with_reducible refine More.drewN ?_ _) | (with_reducible refine More.drew ?_)))⟩
        case measure => simp [intOf]
      · go_wp2_with (refine (of_3 _).mono ?_; rintro e w' ⟨rfl, os1, d1, rfl⟩)
        go_roundw
        case rel => exact ⟨2, by omega, by go_num, (by repeat (first | (with_reducible assumption) | (with_reducible exact More.refl _) | (with_reducible refine More.alloc ?_ _) | (with_reducible refine More.more ?_ _ _) | (with_reducible refine More.drewN ?_ _) | (with_reducible refine More.drew ?_)))⟩
        case measure => simp [intOf]
    · have hi : _ = Value.int .i64 2 := hi
      subst hi
      have g0 : decide (rate < 1) = false := by simp; omega
      have g1 : decide (12 < rate) = false := by simp; omega
      have g2 : decide (buf < 0) = false := by simp; omega
      have g3 : decide (16 < buf) = true := by simp; omega
      go_wp2
      go_ret
      exact ⟨rfl, hm.trans (by repeat (first | (with_reducible assumption) | (with_reducible exact More.refl _) | (with_reducible refine More.alloc ?_ _) | (with_reducible refine More.more ?_ _ _) | (with_reducible refine More.drewN ?_ _) | (with_reducible refine More.drew ?_)))⟩
set_option maxRecDepth 20000 in
set_option maxHeartbeats 4000000 in
theorem wrong_n4 (k0 k1 rate buf jit : Int) (w : World) (hk0 : Hid (dKind k0)) (hk1 : Hid (dKind k1)) (n0 : ¬ rate < 1) (n1 : ¬ 12 < rate) (n2 : ¬ buf < 0) (n3 : ¬ 16 < buf) (hn : jit < 0) :
    Calls Tryz.prog 52 #[.agg #[.int .i64 k0, .int .i64 k1, .int .i64 rate, .int .i64 buf, .int .i64 jit]] w fun e w' => e = .returned (.int .i64 2) ∧ More w w' := by
  go_enter Tryz.func52, Tryz.ntmps52
  go_wp2_with fail
  have hB := Blk.new w 32 #[.int .i64 k0, .int .i64 k1, .int .i64 rate, .int .i64 buf, .int .i64 jit]
  have hm : More w (w.alloc (.cells #[.int .i64 k0, .int .i64 k1, .int .i64 rate, .int .i64 buf, .int .i64 jit] 32)) := (by repeat (first | (with_reducible assumption) | (with_reducible exact More.refl _) | (with_reducible refine More.alloc ?_ _) | (with_reducible refine More.more ?_ _ _) | (with_reducible refine More.drewN ?_ _) | (with_reducible refine More.drew ?_)))
  have x2 : (w.alloc (.cells #[.int .i64 k0, .int .i64 k1, .int .i64 rate, .int .i64 buf, .int .i64 jit] 32)).cell? ⟨w.heap.size, 2, none⟩ = some (.int .i64 rate) := hB.cell 2
  have x3 : (w.alloc (.cells #[.int .i64 k0, .int .i64 k1, .int .i64 rate, .int .i64 buf, .int .i64 jit] 32)).cell? ⟨w.heap.size, 3, none⟩ = some (.int .i64 buf) := hB.cell 3
  have x4 : (w.alloc (.cells #[.int .i64 k0, .int .i64 k1, .int .i64 rate, .int .i64 buf, .int .i64 jit] 32)).cell? ⟨w.heap.size, 4, none⟩ = some (.int .i64 jit) := hB.cell 4
  have hl := hB.lt
  clear hB
  generalize w.alloc (.cells #[.int .i64 k0, .int .i64 k1, .int .i64 rate, .int .i64 buf, .int .i64 jit] 32) = wq at *
  generalize w.heap.size = G at *
  go_loopw [9] (fun i wr => ∃ j : Nat, j ≤ 2 ∧ i = .int .i64 j ∧ More wq wr) (fun i _ => 2 - (intOf i).toNat)
  case atStart => exact ⟨0, by omega, rfl, More.refl _⟩
  case round =>
    obtain ⟨j, hj, hi, os, d, rfl⟩ := hrel
    rcases (show j = 0 ∨ j = 1 ∨ j = 2 by omega) with rfl | rfl | rfl
    · have hi : _ = Value.int .i64 0 := hi
      subst hi
      rcases hk0.out with rfl | rfl | rfl
      · go_wp2_with (refine (of_1 _).mono ?_; rintro e w' ⟨rfl, os1, d1, rfl⟩)
        go_roundw
        case rel => exact ⟨1, by omega, by go_num, (by repeat (first | (with_reducible assumption) | (with_reducible exact More.refl _) | (with_reducible refine More.alloc ?_ _) | (with_reducible refine More.more ?_ _ _) | (with_reducible refine More.drewN ?_ _) | (with_reducible refine More.drew ?_)))⟩
        case measure => simp [intOf]
      · go_wp2_with (refine (of_2 _).mono ?_; rintro e w' ⟨rfl, os1, d1, rfl⟩)
        go_roundw
        case rel => exact ⟨1, by omega, by go_num, (by repeat (first | (with_reducible assumption) | (with_reducible exact More.refl _) | (with_reducible refine More.alloc ?_ _) | (with_reducible refine More.more ?_ _ _) | (with_reducible refine More.drewN ?_ _) | (with_reducible refine More.drew ?_)))⟩
        case measure => simp [intOf]
      · go_wp2_with (refine (of_3 _).mono ?_; rintro e w' ⟨rfl, os1, d1, rfl⟩)
        go_roundw
        case rel => exact ⟨1, by omega, by go_num, (by repeat (first | (with_reducible assumption) | (with_reducible exact More.refl _) | (with_reducible refine More.alloc ?_ _) | (with_reducible refine More.more ?_ _ _) | (with_reducible refine More.drewN ?_ _) | (with_reducible refine More.drew ?_)))⟩
        case measure => simp [intOf]
    · have hi : _ = Value.int .i64 1 := hi
      subst hi
      rcases hk1.out with rfl | rfl | rfl
      · go_wp2_with (refine (of_1 _).mono ?_; rintro e w' ⟨rfl, os1, d1, rfl⟩)
        go_roundw
        case rel => exact ⟨2, by omega, by go_num, (by repeat (first | (with_reducible assumption) | (with_reducible exact More.refl _) | (with_reducible refine More.alloc ?_ _) | (with_reducible refine More.more ?_ _ _) | (with_reducible refine More.drewN ?_ _) | (with_reducible refine More.drew ?_)))⟩
        case measure => simp [intOf]
      · go_wp2_with (refine (of_2 _).mono ?_; rintro e w' ⟨rfl, os1, d1, rfl⟩)
        go_roundw
        case rel => exact ⟨2, by omega, by go_num, (by repeat (first | (with_reducible assumption) | (with_reducible exact More.refl _) | (with_reducible refine More.alloc ?_ _) | (with_reducible refine More.more ?_ _ _) | (with_reducible refine More.drewN ?_ _) | (with_reducible refine More.drew ?_)))⟩
        case measure => simp [intOf]
      · go_wp2_with (refine (of_3 _).mono ?_; rintro e w' ⟨rfl, os1, d1, rfl⟩)
        go_roundw
        case rel => exact ⟨2, by omega, by go_num, (by repeat (first | (with_reducible assumption) | (with_reducible exact More.refl _) | (with_reducible refine More.alloc ?_ _) | (with_reducible refine More.more ?_ _ _) | (with_reducible refine More.drewN ?_ _) | (with_reducible refine More.drew ?_)))⟩
        case measure => simp [intOf]
    · have hi : _ = Value.int .i64 2 := hi
      subst hi
      have g0 : decide (rate < 1) = false := by simp; omega
      have g1 : decide (12 < rate) = false := by simp; omega
      have g2 : decide (buf < 0) = false := by simp; omega
      have g3 : decide (16 < buf) = false := by simp; omega
      have g4 : decide (jit < 0) = true := by simp; omega
      go_wp2
      go_ret
      exact ⟨rfl, hm.trans (by repeat (first | (with_reducible assumption) | (with_reducible exact More.refl _) | (with_reducible refine More.alloc ?_ _) | (with_reducible refine More.more ?_ _ _) | (with_reducible refine More.drewN ?_ _) | (with_reducible refine More.drew ?_)))⟩
set_option maxRecDepth 20000 in
set_option maxHeartbeats 4000000 in
theorem wrong_n5 (k0 k1 rate buf jit : Int) (w : World) (hk0 : Hid (dKind k0)) (hk1 : Hid (dKind k1)) (n0 : ¬ rate < 1) (n1 : ¬ 12 < rate) (n2 : ¬ buf < 0) (n3 : ¬ 16 < buf) (n4 : ¬ jit < 0) (hn : 3 < jit) :
    Calls Tryz.prog 52 #[.agg #[.int .i64 k0, .int .i64 k1, .int .i64 rate, .int .i64 buf, .int .i64 jit]] w fun e w' => e = .returned (.int .i64 2) ∧ More w w' := by
  go_enter Tryz.func52, Tryz.ntmps52
  go_wp2_with fail
  have hB := Blk.new w 32 #[.int .i64 k0, .int .i64 k1, .int .i64 rate, .int .i64 buf, .int .i64 jit]
  have hm : More w (w.alloc (.cells #[.int .i64 k0, .int .i64 k1, .int .i64 rate, .int .i64 buf, .int .i64 jit] 32)) := (by repeat (first | (with_reducible assumption) | (with_reducible exact More.refl _) | (with_reducible refine More.alloc ?_ _) | (with_reducible refine More.more ?_ _ _) | (with_reducible refine More.drewN ?_ _) | (with_reducible refine More.drew ?_)))
  have x2 : (w.alloc (.cells #[.int .i64 k0, .int .i64 k1, .int .i64 rate, .int .i64 buf, .int .i64 jit] 32)).cell? ⟨w.heap.size, 2, none⟩ = some (.int .i64 rate) := hB.cell 2
  have x3 : (w.alloc (.cells #[.int .i64 k0, .int .i64 k1, .int .i64 rate, .int .i64 buf, .int .i64 jit] 32)).cell? ⟨w.heap.size, 3, none⟩ = some (.int .i64 buf) := hB.cell 3
  have x4 : (w.alloc (.cells #[.int .i64 k0, .int .i64 k1, .int .i64 rate, .int .i64 buf, .int .i64 jit] 32)).cell? ⟨w.heap.size, 4, none⟩ = some (.int .i64 jit) := hB.cell 4
  have hl := hB.lt
  clear hB
  generalize w.alloc (.cells #[.int .i64 k0, .int .i64 k1, .int .i64 rate, .int .i64 buf, .int .i64 jit] 32) = wq at *
  generalize w.heap.size = G at *
  go_loopw [9] (fun i wr => ∃ j : Nat, j ≤ 2 ∧ i = .int .i64 j ∧ More wq wr) (fun i _ => 2 - (intOf i).toNat)
  case atStart => exact ⟨0, by omega, rfl, More.refl _⟩
  case round =>
    obtain ⟨j, hj, hi, os, d, rfl⟩ := hrel
    rcases (show j = 0 ∨ j = 1 ∨ j = 2 by omega) with rfl | rfl | rfl
    · have hi : _ = Value.int .i64 0 := hi
      subst hi
      rcases hk0.out with rfl | rfl | rfl
      · go_wp2_with (refine (of_1 _).mono ?_; rintro e w' ⟨rfl, os1, d1, rfl⟩)
        go_roundw
        case rel => exact ⟨1, by omega, by go_num, (by repeat (first | (with_reducible assumption) | (with_reducible exact More.refl _) | (with_reducible refine More.alloc ?_ _) | (with_reducible refine More.more ?_ _ _) | (with_reducible refine More.drewN ?_ _) | (with_reducible refine More.drew ?_)))⟩
        case measure => simp [intOf]
      · go_wp2_with (refine (of_2 _).mono ?_; rintro e w' ⟨rfl, os1, d1, rfl⟩)
        go_roundw
        case rel => exact ⟨1, by omega, by go_num, (by repeat (first | (with_reducible assumption) | (with_reducible exact More.refl _) | (with_reducible refine More.alloc ?_ _) | (with_reducible refine More.more ?_ _ _) | (with_reducible refine More.drewN ?_ _) | (with_reducible refine More.drew ?_)))⟩
        case measure => simp [intOf]
      · go_wp2_with (refine (of_3 _).mono ?_; rintro e w' ⟨rfl, os1, d1, rfl⟩)
        go_roundw
        case rel => exact ⟨1, by omega, by go_num, (by repeat (first | (with_reducible assumption) | (with_reducible exact More.refl _) | (with_reducible refine More.alloc ?_ _) | (with_reducible refine More.more ?_ _ _) | (with_reducible refine More.drewN ?_ _) | (with_reducible refine More.drew ?_)))⟩
        case measure => simp [intOf]
    · have hi : _ = Value.int .i64 1 := hi
      subst hi
      rcases hk1.out with rfl | rfl | rfl
      · go_wp2_with (refine (of_1 _).mono ?_; rintro e w' ⟨rfl, os1, d1, rfl⟩)
        go_roundw
        case rel => exact ⟨2, by omega, by go_num, (by repeat (first | (with_reducible assumption) | (with_reducible exact More.refl _) | (with_reducible refine More.alloc ?_ _) | (with_reducible refine More.more ?_ _ _) | (with_reducible refine More.drewN ?_ _) | (with_reducible refine More.drew ?_)))⟩
        case measure => simp [intOf]
      · go_wp2_with (refine (of_2 _).mono ?_; rintro e w' ⟨rfl, os1, d1, rfl⟩)
        go_roundw
        case rel => exact ⟨2, by omega, by go_num, (by repeat (first | (with_reducible assumption) | (with_reducible exact More.refl _) | (with_reducible refine More.alloc ?_ _) | (with_reducible refine More.more ?_ _ _) | (with_reducible refine More.drewN ?_ _) | (with_reducible refine More.drew ?_)))⟩
        case measure => simp [intOf]
      · go_wp2_with (refine (of_3 _).mono ?_; rintro e w' ⟨rfl, os1, d1, rfl⟩)
        go_roundw
        case rel => exact ⟨2, by omega, by go_num, (by repeat (first | (with_reducible assumption) | (with_reducible exact More.refl _) | (with_reducible refine More.alloc ?_ _) | (with_reducible refine More.more ?_ _ _) | (with_reducible refine More.drewN ?_ _) | (with_reducible refine More.drew ?_)))⟩
        case measure => simp [intOf]
    · have hi : _ = Value.int .i64 2 := hi
      subst hi
      have g0 : decide (rate < 1) = false := by simp; omega
      have g1 : decide (12 < rate) = false := by simp; omega
      have g2 : decide (buf < 0) = false := by simp; omega
      have g3 : decide (16 < buf) = false := by simp; omega
      have g4 : decide (jit < 0) = false := by simp; omega
      have g5 : decide (3 < jit) = true := by simp; omega
      go_wp2
      go_ret
      exact ⟨rfl, hm.trans (by repeat (first | (with_reducible assumption) | (with_reducible exact More.refl _) | (with_reducible refine More.alloc ?_ _) | (with_reducible refine More.more ?_ _ _) | (with_reducible refine More.drewN ?_ _) | (with_reducible refine More.drew ?_)))⟩
set_option maxRecDepth 20000 in
set_option maxHeartbeats 4000000 in
theorem wrong_kind0 (k0 k1 rate buf jit : Int) (w : World) (hk0 : Hid (¬ dKind k0)) :
    Calls Tryz.prog 52 #[.agg #[.int .i64 k0, .int .i64 k1, .int .i64 rate, .int .i64 buf, .int .i64 jit]] w fun e w' => e = .returned (.int .i64 5) ∧ More w w' := by
  go_enter Tryz.func52, Tryz.ntmps52
  go_wp2_with fail
  have hB := Blk.new w 32 #[.int .i64 k0, .int .i64 k1, .int .i64 rate, .int .i64 buf, .int .i64 jit]
  have hm : More w (w.alloc (.cells #[.int .i64 k0, .int .i64 k1, .int .i64 rate, .int .i64 buf, .int .i64 jit] 32)) := (by repeat (first | (with_reducible assumption) | (with_reducible exact More.refl _) | (with_reducible refine More.alloc ?_ _) | (with_reducible refine More.more ?_ _ _) | (with_reducible refine More.drewN ?_ _) | (with_reducible refine More.drew ?_)))
  have x2 : (w.alloc (.cells #[.int .i64 k0, .int .i64 k1, .int .i64 rate, .int .i64 buf, .int .i64 jit] 32)).cell? ⟨w.heap.size, 2, none⟩ = some (.int .i64 rate) := hB.cell 2
  have x3 : (w.alloc (.cells #[.int .i64 k0, .int .i64 k1, .int .i64 rate, .int .i64 buf, .int .i64 jit] 32)).cell? ⟨w.heap.size, 3, none⟩ = some (.int .i64 buf) := hB.cell 3
  have x4 : (w.alloc (.cells #[.int .i64 k0, .int .i64 k1, .int .i64 rate, .int .i64 buf, .int .i64 jit] 32)).cell? ⟨w.heap.size, 4, none⟩ = some (.int .i64 jit) := hB.cell 4
  have hl := hB.lt
  clear hB
  generalize w.alloc (.cells #[.int .i64 k0, .int .i64 k1, .int .i64 rate, .int .i64 buf, .int .i64 jit] 32) = wq at *
  generalize w.heap.size = G at *
  go_loopw [9] (fun i wr => ∃ j : Nat, j ≤ 0 ∧ i = .int .i64 j ∧ More wq wr) (fun i _ => 2 - (intOf i).toNat)
  case atStart => exact ⟨0, by omega, rfl, More.refl _⟩
  case round =>
    obtain ⟨j, hj, hi, os, d, rfl⟩ := hrel
    obtain rfl : j = 0 := by omega
    have hi : _ = Value.int .i64 0 := hi
    subst hi
    go_wp2_with (refine (of_none k0 hk0.out _).mono ?_; rintro e w' ⟨rfl, os1, d1, rfl⟩)
    go_ret
    exact ⟨rfl, hm.trans (by repeat (first | (with_reducible assumption) | (with_reducible exact More.refl _) | (with_reducible refine More.alloc ?_ _) | (with_reducible refine More.more ?_ _ _) | (with_reducible refine More.drewN ?_ _) | (with_reducible refine More.drew ?_)))⟩
set_option maxRecDepth 20000 in
set_option maxHeartbeats 4000000 in
theorem wrong_kind1 (k0 k1 rate buf jit : Int) (w : World) (hk0 : Hid (dKind k0)) (hk1 : Hid (¬ dKind k1)) :
    Calls Tryz.prog 52 #[.agg #[.int .i64 k0, .int .i64 k1, .int .i64 rate, .int .i64 buf, .int .i64 jit]] w fun e w' => e = .returned (.int .i64 5) ∧ More w w' := by
  go_enter Tryz.func52, Tryz.ntmps52
  go_wp2_with fail
  have hB := Blk.new w 32 #[.int .i64 k0, .int .i64 k1, .int .i64 rate, .int .i64 buf, .int .i64 jit]
  have hm : More w (w.alloc (.cells #[.int .i64 k0, .int .i64 k1, .int .i64 rate, .int .i64 buf, .int .i64 jit] 32)) := (by repeat (first | (with_reducible assumption) | (with_reducible exact More.refl _) | (with_reducible refine More.alloc ?_ _) | (with_reducible refine More.more ?_ _ _) | (with_reducible refine More.drewN ?_ _) | (with_reducible refine More.drew ?_)))
  have x2 : (w.alloc (.cells #[.int .i64 k0, .int .i64 k1, .int .i64 rate, .int .i64 buf, .int .i64 jit] 32)).cell? ⟨w.heap.size, 2, none⟩ = some (.int .i64 rate) := hB.cell 2
  have x3 : (w.alloc (.cells #[.int .i64 k0, .int .i64 k1, .int .i64 rate, .int .i64 buf, .int .i64 jit] 32)).cell? ⟨w.heap.size, 3, none⟩ = some (.int .i64 buf) := hB.cell 3
  have x4 : (w.alloc (.cells #[.int .i64 k0, .int .i64 k1, .int .i64 rate, .int .i64 buf, .int .i64 jit] 32)).cell? ⟨w.heap.size, 4, none⟩ = some (.int .i64 jit) := hB.cell 4
  have hl := hB.lt
  clear hB
  generalize w.alloc (.cells #[.int .i64 k0, .int .i64 k1, .int .i64 rate, .int .i64 buf, .int .i64 jit] 32) = wq at *
  generalize w.heap.size = G at *
  go_loopw [9] (fun i wr => ∃ j : Nat, j ≤ 1 ∧ i = .int .i64 j ∧ More wq wr) (fun i _ => 2 - (intOf i).toNat)
  case atStart => exact ⟨0, by omega, rfl, More.refl _⟩
  case round =>
    obtain ⟨j, hj, hi, os, d, rfl⟩ := hrel
    rcases (show j = 0 ∨ j = 1 by omega) with rfl | rfl
    · have hi : _ = Value.int .i64 0 := hi
      subst hi
      rcases hk0.out with rfl | rfl | rfl
      · go_wp2_with (refine (of_1 _).mono ?_; rintro e w' ⟨rfl, os1, d1, rfl⟩)
        go_roundw
        case rel => exact ⟨1, by omega, by go_num, (by repeat (first | (with_reducible assumption) | (with_reducible exact More.refl _) | (with_reducible refine More.alloc ?_ _) | (with_reducible refine More.more ?_ _ _) | (with_reducible refine More.drewN ?_ _) | (with_reducible refine More.drew ?_)))⟩
        case measure => simp [intOf]
      · go_wp2_with (refine (of_2 _).mono ?_; rintro e w' ⟨rfl, os1, d1, rfl⟩)
        go_roundw
        case rel => exact ⟨1, by omega, by go_num, (by repeat (first | (with_reducible assumption) | (with_reducible exact More.refl _) | (with_reducible refine More.alloc ?_ _) | (with_reducible refine More.more ?_ _ _) | (with_reducible refine More.drewN ?_ _) | (with_reducible refine More.drew ?_)))⟩
        case measure => simp [intOf]
      · go_wp2_with (refine (of_3 _).mono ?_; rintro e w' ⟨rfl, os1, d1, rfl⟩)
        go_roundw
        case rel => exact ⟨1, by omega, by go_num, (by repeat (first | (with_reducible assumption) | (with_reducible exact More.refl _) | (with_reducible refine More.alloc ?_ _) | (with_reducible refine More.more ?_ _ _) | (with_reducible refine More.drewN ?_ _) | (with_reducible refine More.drew ?_)))⟩
        case measure => simp [intOf]
    · have hi : _ = Value.int .i64 1 := hi
      subst hi
      go_wp2_with (refine (of_none k1 hk1.out _).mono ?_; rintro e w' ⟨rfl, os1, d1, rfl⟩)
      go_ret
      exact ⟨rfl, hm.trans (by repeat (first | (with_reducible assumption) | (with_reducible exact More.refl _) | (with_reducible refine More.alloc ?_ _) | (with_reducible refine More.more ?_ _ _) | (with_reducible refine More.drewN ?_ _) | (with_reducible refine More.drew ?_)))⟩
/-- What Wrong answers. -/
def DWrong (k0 k1 rate buf jit er : Int) : Prop := (dKind k0 ∧ dKind k1 ∧ dNums rate buf jit ∧ er = 0) ∨ (¬ (dKind k0 ∧ dKind k1 ∧ dNums rate buf jit) ∧ er ≠ 0)
theorem wrong_any (k0 k1 rate buf jit : Int) (w : World) : Calls Tryz.prog 52 #[.agg #[.int .i64 k0, .int .i64 k1, .int .i64 rate, .int .i64 buf, .int .i64 jit]] w fun e w' => ∃ er, e = .returned (.int .i64 er) ∧ Hid (DWrong k0 k1 rate buf jit er) ∧ More w w' := by
  by_cases h0 : dKind k0
  · by_cases h1 : dKind k1
    · by_cases hn : dNums rate buf jit
      · exact (wrong_ok k0 k1 rate buf jit w h0 h1 hn).mono fun e w' ⟨a, b⟩ => ⟨0, a, .inl ⟨h0, h1, hn, rfl⟩, b⟩
      · have hr : ¬ (dKind k0 ∧ dKind k1 ∧ dNums rate buf jit) := fun h => hn h.2.2
        by_cases c0 : rate < 1
        · exact (wrong_n0 k0 k1 rate buf jit w h0 h1  c0).mono fun e w' ⟨a, b⟩ => ⟨2, a, .inr ⟨hr, by decide⟩, b⟩
        by_cases c1 : 12 < rate
        · exact (wrong_n1 k0 k1 rate buf jit w h0 h1 c0 c1).mono fun e w' ⟨a, b⟩ => ⟨2, a, .inr ⟨hr, by decide⟩, b⟩
        by_cases c2 : buf < 0
        · exact (wrong_n2 k0 k1 rate buf jit w h0 h1 c0 c1 c2).mono fun e w' ⟨a, b⟩ => ⟨2, a, .inr ⟨hr, by decide⟩, b⟩
        by_cases c3 : 16 < buf
        · exact (wrong_n3 k0 k1 rate buf jit w h0 h1 c0 c1 c2 c3).mono fun e w' ⟨a, b⟩ => ⟨2, a, .inr ⟨hr, by decide⟩, b⟩
        by_cases c4 : jit < 0
        · exact (wrong_n4 k0 k1 rate buf jit w h0 h1 c0 c1 c2 c3 c4).mono fun e w' ⟨a, b⟩ => ⟨2, a, .inr ⟨hr, by decide⟩, b⟩
        by_cases c5 : 3 < jit
        · exact (wrong_n5 k0 k1 rate buf jit w h0 h1 c0 c1 c2 c3 c4 c5).mono fun e w' ⟨a, b⟩ => ⟨2, a, .inr ⟨hr, by decide⟩, b⟩
        exact absurd (by unfold dNums; omega) hn
    · exact (wrong_kind1 k0 k1 rate buf jit w h0 h1).mono fun e w' ⟨a, b⟩ => ⟨5, a, .inr ⟨fun h => h1 h.2.1, by decide⟩, b⟩
  · exact (wrong_kind0 k0 k1 rate buf jit w h0).mono fun e w' ⟨a, b⟩ => ⟨5, a, .inr ⟨fun h => h0 h.1, by decide⟩, b⟩
end Go.Proofs.YtgmljgcmfooniaaGreatDoor
