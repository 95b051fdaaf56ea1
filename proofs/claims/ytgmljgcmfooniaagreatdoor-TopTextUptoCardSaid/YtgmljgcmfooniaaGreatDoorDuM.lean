/- Texts in one: DuelL, DuelY, DuelW, DuelX. Conditions: those of each law. -/
import Derived.Test.YtgmljgcmfooniaaGreatDoorSq
import Derived.Test.YtgmljgcmfooniaaGreatDoorDuelR1
import Derived.Test.YtgmljgcmfooniaaGreatDoorDuelZ
import Derived.Laws.Tables
import Derived.Laws.Rows
import Derived.Test.YtgmljgcmfooniaaGreatDoorDuelP
import Derived.Test.YtgmljgcmfooniaaGreatDoorKitC
import Derived.Deep.Cut
/- DuelL -/
set_option linter.unusedVariables false
set_option linter.unusedSimpArgs false
namespace Go.Proofs.YtgmljgcmfooniaaGreatDoor
open Go.RowKit Go.Tide
theorem mo_ {w w' : World} (h : More w w' := by repeat (first | (with_reducible exact More.refl _) | (with_reducible refine More.alloc ?_ _) | (with_reducible refine More.more ?_ _ _) | (with_reducible refine More.drewN ?_ _) | (with_reducible refine More.drew ?_))) : More w w' := h
theorem md_ {w w' : World} (h : More w w' := by repeat (first | (with_reducible assumption) | (with_reducible exact More.refl _) | (with_reducible refine More.alloc ?_ _) | (with_reducible refine More.more ?_ _ _) | (with_reducible refine More.drewN ?_ _) | (with_reducible refine More.drew ?_))) : More w w' := h
theorem bk_ {w : World} {g : Nat} {t : TypeId} {cs : Array Value} (h : Blk w g t cs := by repeat (first | (with_reducible assumption) | ((with_reducible refine Blk.new' ?_); (simp [Nat.add_assoc]; done)) | (with_reducible refine Blk.alloc ?_ _) | (with_reducible refine Blk.more ?_ _ _) | (with_reducible refine Blk.drew ?_) | (with_reducible refine Blk.drewN ?_ _))) : Blk w g t cs := h
/-- Whether a state is right by the rules. -/
def dRight (k0 k1 rate buf jit : Int) (a0 a1 a2 a3 a4 a5 b0 b1 b2 b3 b4 b5 w0 w1 : Int) : Prop := CR k0 a0 a1 a2 a3 a4 a5 = true ∧ 0 ≤ w0 ∧ CR k1 b0 b1 b2 b3 b4 b5 = true ∧ 0 ≤ w1 ∧ w0 + w1 ≤ buf
theorem right_yes (k0 k1 rate buf jit : Int) (a0 a1 a2 a3 a4 a5 b0 b1 b2 b3 b4 b5 w0 w1 : Int) (w : World) (hk0 : Hid (dKind k0)) (hk1 : Hid (dKind k1)) (hn : dNums rate buf jit) (h : dRight k0 k1 rate buf jit a0 a1 a2 a3 a4 a5 b0 b1 b2 b3 b4 b5 w0 w1) :
    Calls Tryz.prog 69 #[.agg #[.int .i64 k0, .int .i64 k1, .int .i64 rate, .int .i64 buf, .int .i64 jit], .agg #[.int .i64 a0, .int .i64 a1, .int .i64 a2, .int .i64 a3, .int .i64 a4, .int .i64 a5, .int .i64 b0, .int .i64 b1, .int .i64 b2, .int .i64 b3, .int .i64 b4, .int .i64 b5, .int .i64 w0, .int .i64 w1]] w fun e w' => e = .returned (.bool true) ∧ More w w' :=
  right_ok k0 k1 rate buf jit a0 a1 a2 a3 a4 a5 b0 b1 b2 b3 b4 b5 w0 w1 w hk0 hk1 hn h.1 h.2.1 h.2.2.1 h.2.2.2.1 h.2.2.2.2
theorem hsr {w : World} {g : Nat} {t : TypeId} {cs ds : Array Value} (h : Blk w (g + 1) t cs) : Blk (w.setRow g ds) (g + 1) t cs := (setRow_other w g (g + 1) ds (by omega)).trans h
theorem hsq {w : World} {g : Nat} {t : TypeId} {cs ds es : Array Value} (h : Blk w g t cs) : Blk ((w.setRow g ds).setRow (g + 1) es) g t ds := (setRow_other _ (g + 1) g es (by omega)).trans (setRow_heap _ _ _ ds _ _ h)
set_option maxRecDepth 20000 in
set_option maxHeartbeats 4000000 in
theorem step_l0 (k0 k1 rate buf jit : Int) (a0 a1 a2 a3 a4 a5 b0 b1 b2 b3 b4 b5 w0 w1 : Int) (l0 l1 : Int) (w : World) (hk0 : Hid (dKind k0)) (hk1 : Hid (dKind k1)) (hn : dNums rate buf jit) (h : Hid (dRight k0 k1 rate buf jit a0 a1 a2 a3 a4 a5 b0 b1 b2 b3 b4 b5 w0 w1)) (hl : l0 < 0) :
    Calls Tryz.prog 42 #[.agg #[.int .i64 k0, .int .i64 k1, .int .i64 rate, .int .i64 buf, .int .i64 jit], .agg #[.int .i64 a0, .int .i64 a1, .int .i64 a2, .int .i64 a3, .int .i64 a4, .int .i64 a5, .int .i64 b0, .int .i64 b1, .int .i64 b2, .int .i64 b3, .int .i64 b4, .int .i64 b5, .int .i64 w0, .int .i64 w1], .agg #[.int .i64 l0, .int .i64 l1]] w fun e w' => e = .returned (.tuple #[.agg #[.int .i64 0, .int .i64 0, .int .i64 0, .int .i64 0, .int .i64 0, .int .i64 0, .int .i64 0, .int .i64 0, .int .i64 0, .int .i64 0, .int .i64 0, .int .i64 0, .int .i64 0, .int .i64 0], .agg #[.int .i64 0, .int .i64 0, .int .i64 0, .int .i64 0, .int .i64 0, .int .i64 0], .int .i64 2]) ∧ More w w' := by
  have hnn := hn
  obtain ⟨n1, n2, n3, n4, n5, n6⟩ := hnn
  obtain ⟨t, i1⟩ : ∃ t, IntKind.i64.wrap (w0 + w1) = t := ⟨_, rfl⟩
  obtain ⟨dl, i2⟩ : ∃ dl, IntKind.i64.wrap (t.tdiv rate) = dl := ⟨_, rfl⟩
  have g0 : (rate == 0) = false := by simp; omega
  have u0 : decide (l0 < 0) = true := by simp; omega
  go_enter Tryz.func42, Tryz.ntmps42
  go_wp2_with fail
  refine (wrong_ok k0 k1 rate buf jit _ hk0 hk1 hn).mono ?_
  rintro e w1 ⟨rfl, os1, d1, rfl⟩
  go_wp2_with fail
  refine (right_yes k0 k1 rate buf jit a0 a1 a2 a3 a4 a5 b0 b1 b2 b3 b4 b5 w0 w1 _ hk0 hk1 hn h.out).mono ?_
  rintro e w1 ⟨rfl, os2, d2, rfl⟩
  go_wp2_with fail
  obtain ⟨wq, hG1_⟩ : ∃ W, W = ((((((((w.alloc (.cells #[.int .i64 k0, .int .i64 k1, .int .i64 rate, .int .i64 buf, .int .i64 jit] 32)).alloc (.cells #[.int .i64 a0, .int .i64 a1, .int .i64 a2, .int .i64 a3, .int .i64 a4, .int .i64 a5, .int .i64 b0, .int .i64 b1, .int .i64 b2, .int .i64 b3, .int .i64 b4, .int .i64 b5, .int .i64 w0, .int .i64 w1] 44)).alloc (.cells #[.int .i64 l0, .int .i64 l1] 30)).alloc (.cells #[.int .i64 0, .int .i64 0, .int .i64 0, .int .i64 0, .int .i64 0, .int .i64 0, .int .i64 0, .int .i64 0, .int .i64 0, .int .i64 0, .int .i64 0, .int .i64 0, .int .i64 0, .int .i64 0] 44)).alloc (.cells #[.int .i64 0, .int .i64 0, .int .i64 0, .int .i64 0, .int .i64 0, .int .i64 0] 93)).more os1 d1).more os2 d2)) := ⟨_, rfl⟩
  have hm : More w wq := (by rw [hG1_]; exact md_)
  have hB1 : Blk wq w.heap.size 32 #[.int .i64 k0, .int .i64 k1, .int .i64 rate, .int .i64 buf, .int .i64 jit] := (by rw [hG1_]; exact bk_)
  have hB4 : Blk wq (w.heap.size + 3) 44 #[.int .i64 0, .int .i64 0, .int .i64 0, .int .i64 0, .int .i64 0, .int .i64 0, .int .i64 0, .int .i64 0, .int .i64 0, .int .i64 0, .int .i64 0, .int .i64 0, .int .i64 0, .int .i64 0] := (by rw [hG1_]; exact bk_)
  have hB5 : Blk wq (w.heap.size + 4) 93 #[.int .i64 0, .int .i64 0, .int .i64 0, .int .i64 0, .int .i64 0, .int .i64 0] := (by rw [hG1_]; exact bk_)
  have hl := hB5.lt
  have e4 : wq.cell? ⟨w.heap.size, 4, none⟩ = some (.int .i64 jit) := hB1.cell 4
  rw [← hG1_]
  clear hG1_
  go_loopw [45] (fun i wr => ∃ j : Nat, j ≤ 0 ∧ i = .int .i64 j ∧ wr = wq) (fun i _ => 0 - (intOf i).toNat)
  case atStart => exact ⟨0, by omega, rfl, rfl⟩
  case round =>
    obtain ⟨j, hj, hi, hwr⟩ := hrel
    subst hwr
    obtain rfl : j = 0 := by omega
    have hi : _ = Value.int .i64 0 := hi
    subst hi
    go_wp2_with (first | (refine wpList_store_row rfl _ _ _ rfl (w.heap.size + 3) #[.int .i64 0, .int .i64 0, .int .i64 0, .int .i64 0, .int .i64 0, .int .i64 0, .int .i64 0, .int .i64 0, .int .i64 0, .int .i64 0, .int .i64 0, .int .i64 0, .int .i64 0, .int .i64 0] rfl rfl 44 #[.int .i64 0, .int .i64 0, .int .i64 0, .int .i64 0, .int .i64 0, .int .i64 0, .int .i64 0, .int .i64 0, .int .i64 0, .int .i64 0, .int .i64 0, .int .i64 0, .int .i64 0, .int .i64 0] hB4 (by kernel_rfl) rfl (by simp [Value.oneCell']) ?_) | (refine wpList_store_row rfl _ _ _ rfl (w.heap.size + 4) #[.int .i64 0, .int .i64 0, .int .i64 0, .int .i64 0, .int .i64 0, .int .i64 0] rfl rfl 93 #[.int .i64 0, .int .i64 0, .int .i64 0, .int .i64 0, .int .i64 0, .int .i64 0] (hsr hB5) (by kernel_rfl) rfl (by simp [Value.oneCell']) ?_))
    obtain ⟨w9, hG2_⟩ : ∃ W, W = ((wr.setRow (w.heap.size + 3) #[.int .i64 0, .int .i64 0, .int .i64 0, .int .i64 0, .int .i64 0, .int .i64 0, .int .i64 0, .int .i64 0, .int .i64 0, .int .i64 0, .int .i64 0, .int .i64 0, .int .i64 0, .int .i64 0]).setRow (w.heap.size + 4) #[.int .i64 0, .int .i64 0, .int .i64 0, .int .i64 0, .int .i64 0, .int .i64 0]) := ⟨_, rfl⟩
    have hX1 : Blk w9 (w.heap.size + 3) 44 #[.int .i64 0, .int .i64 0, .int .i64 0, .int .i64 0, .int .i64 0, .int .i64 0, .int .i64 0, .int .i64 0, .int .i64 0, .int .i64 0, .int .i64 0, .int .i64 0, .int .i64 0, .int .i64 0] := (by rw [hG2_]; exact hsq hB4)
    have hX2 : Blk w9 (w.heap.size + 4) 93 #[.int .i64 0, .int .i64 0, .int .i64 0, .int .i64 0, .int .i64 0, .int .i64 0] := (by rw [hG2_]; exact setRow_heap _ _ _ _ _ _ (hsr hB5))
    have hX3 : Below w.heap.size w w9 := (by rw [hG2_]; exact below_setRow (below_setRow hm.below (by omega) _) (by omega) _)
    rw [← hG2_]
    clear hG2_
    have m0 : w9.cell? ⟨w.heap.size + 3, 0, none⟩ = some (.int .i64 0) := Blk.cell hX1 0
    have m1 : w9.cell? ⟨w.heap.size + 3, 1, none⟩ = some (.int .i64 0) := Blk.cell hX1 1
    have m2 : w9.cell? ⟨w.heap.size + 3, 2, none⟩ = some (.int .i64 0) := Blk.cell hX1 2
    have m3 : w9.cell? ⟨w.heap.size + 3, 3, none⟩ = some (.int .i64 0) := Blk.cell hX1 3
    have m4 : w9.cell? ⟨w.heap.size + 3, 4, none⟩ = some (.int .i64 0) := Blk.cell hX1 4
    have m5 : w9.cell? ⟨w.heap.size + 3, 5, none⟩ = some (.int .i64 0) := Blk.cell hX1 5
    have m6 : w9.cell? ⟨w.heap.size + 3, 6, none⟩ = some (.int .i64 0) := Blk.cell hX1 6
    have m7 : w9.cell? ⟨w.heap.size + 3, 7, none⟩ = some (.int .i64 0) := Blk.cell hX1 7
    have m8 : w9.cell? ⟨w.heap.size + 3, 8, none⟩ = some (.int .i64 0) := Blk.cell hX1 8
    have m9 : w9.cell? ⟨w.heap.size + 3, 9, none⟩ = some (.int .i64 0) := Blk.cell hX1 9
    have m10 : w9.cell? ⟨w.heap.size + 3, 10, none⟩ = some (.int .i64 0) := Blk.cell hX1 10
    have m11 : w9.cell? ⟨w.heap.size + 3, 11, none⟩ = some (.int .i64 0) := Blk.cell hX1 11
    have m12 : w9.cell? ⟨w.heap.size + 3, 12, none⟩ = some (.int .i64 0) := Blk.cell hX1 12
    have m13 : w9.cell? ⟨w.heap.size + 3, 13, none⟩ = some (.int .i64 0) := Blk.cell hX1 13
    have o0 : w9.cell? ⟨w.heap.size + 4, 0, none⟩ = some (.int .i64 0) := Blk.cell hX2 0
    have o1 : w9.cell? ⟨w.heap.size + 4, 1, none⟩ = some (.int .i64 0) := Blk.cell hX2 1
    have o2 : w9.cell? ⟨w.heap.size + 4, 2, none⟩ = some (.int .i64 0) := Blk.cell hX2 2
    have o3 : w9.cell? ⟨w.heap.size + 4, 3, none⟩ = some (.int .i64 0) := Blk.cell hX2 3
    have o4 : w9.cell? ⟨w.heap.size + 4, 4, none⟩ = some (.int .i64 0) := Blk.cell hX2 4
    have o5 : w9.cell? ⟨w.heap.size + 4, 5, none⟩ = some (.int .i64 0) := Blk.cell hX2 5
    refine bodyPost_ret (v := .tuple #[.agg #[.int .i64 0, .int .i64 0, .int .i64 0, .int .i64 0, .int .i64 0, .int .i64 0, .int .i64 0, .int .i64 0, .int .i64 0, .int .i64 0, .int .i64 0, .int .i64 0, .int .i64 0, .int .i64 0], .agg #[.int .i64 0, .int .i64 0, .int .i64 0, .int .i64 0, .int .i64 0, .int .i64 0], .int .i64 2]) ?_ rfl ?_
    · simp [results, Tryz.results42, go_sem, m0, m1, m2, m3, m4, m5, m6, m7, m8, m9, m10, m11, m12, m13, o0, o1, o2, o3, o4, o5]
    · exact ⟨rfl, More.of_below hX3⟩
set_option maxRecDepth 20000 in
set_option maxHeartbeats 4000000 in
theorem step_l1 (k0 k1 rate buf jit : Int) (a0 a1 a2 a3 a4 a5 b0 b1 b2 b3 b4 b5 w0 w1 : Int) (l0 l1 : Int) (w : World) (hk0 : Hid (dKind k0)) (hk1 : Hid (dKind k1)) (hn : dNums rate buf jit) (h : Hid (dRight k0 k1 rate buf jit a0 a1 a2 a3 a4 a5 b0 b1 b2 b3 b4 b5 w0 w1)) (hl0 : 0 ≤ l0) (hl : jit < l0) :
    Calls Tryz.prog 42 #[.agg #[.int .i64 k0, .int .i64 k1, .int .i64 rate, .int .i64 buf, .int .i64 jit], .agg #[.int .i64 a0, .int .i64 a1, .int .i64 a2, .int .i64 a3, .int .i64 a4, .int .i64 a5, .int .i64 b0, .int .i64 b1, .int .i64 b2, .int .i64 b3, .int .i64 b4, .int .i64 b5, .int .i64 w0, .int .i64 w1], .agg #[.int .i64 l0, .int .i64 l1]] w fun e w' => e = .returned (.tuple #[.agg #[.int .i64 0, .int .i64 0, .int .i64 0, .int .i64 0, .int .i64 0, .int .i64 0, .int .i64 0, .int .i64 0, .int .i64 0, .int .i64 0, .int .i64 0, .int .i64 0, .int .i64 0, .int .i64 0], .agg #[.int .i64 0, .int .i64 0, .int .i64 0, .int .i64 0, .int .i64 0, .int .i64 0], .int .i64 2]) ∧ More w w' := by
  have hnn := hn
  obtain ⟨n1, n2, n3, n4, n5, n6⟩ := hnn
  obtain ⟨t, i1⟩ : ∃ t, IntKind.i64.wrap (w0 + w1) = t := ⟨_, rfl⟩
  obtain ⟨dl, i2⟩ : ∃ dl, IntKind.i64.wrap (t.tdiv rate) = dl := ⟨_, rfl⟩
  have g0 : (rate == 0) = false := by simp; omega
  have u0 : decide (l0 < 0) = false := by simp; omega
  have u1 : decide (jit < l0) = true := by simp; omega
  go_enter Tryz.func42, Tryz.ntmps42
  go_wp2_with fail
  refine (wrong_ok k0 k1 rate buf jit _ hk0 hk1 hn).mono ?_
  rintro e w1 ⟨rfl, os1, d1, rfl⟩
  go_wp2_with fail
  refine (right_yes k0 k1 rate buf jit a0 a1 a2 a3 a4 a5 b0 b1 b2 b3 b4 b5 w0 w1 _ hk0 hk1 hn h.out).mono ?_
  rintro e w1 ⟨rfl, os2, d2, rfl⟩
  go_wp2_with fail
  obtain ⟨wq, hG3_⟩ : ∃ W, W = ((((((((w.alloc (.cells #[.int .i64 k0, .int .i64 k1, .int .i64 rate, .int .i64 buf, .int .i64 jit] 32)).alloc (.cells #[.int .i64 a0, .int .i64 a1, .int .i64 a2, .int .i64 a3, .int .i64 a4, .int .i64 a5, .int .i64 b0, .int .i64 b1, .int .i64 b2, .int .i64 b3, .int .i64 b4, .int .i64 b5, .int .i64 w0, .int .i64 w1] 44)).alloc (.cells #[.int .i64 l0, .int .i64 l1] 30)).alloc (.cells #[.int .i64 0, .int .i64 0, .int .i64 0, .int .i64 0, .int .i64 0, .int .i64 0, .int .i64 0, .int .i64 0, .int .i64 0, .int .i64 0, .int .i64 0, .int .i64 0, .int .i64 0, .int .i64 0] 44)).alloc (.cells #[.int .i64 0, .int .i64 0, .int .i64 0, .int .i64 0, .int .i64 0, .int .i64 0] 93)).more os1 d1).more os2 d2)) := ⟨_, rfl⟩
  have hm : More w wq := (by rw [hG3_]; exact md_)
  have hB1 : Blk wq w.heap.size 32 #[.int .i64 k0, .int .i64 k1, .int .i64 rate, .int .i64 buf, .int .i64 jit] := (by rw [hG3_]; exact bk_)
  have hB4 : Blk wq (w.heap.size + 3) 44 #[.int .i64 0, .int .i64 0, .int .i64 0, .int .i64 0, .int .i64 0, .int .i64 0, .int .i64 0, .int .i64 0, .int .i64 0, .int .i64 0, .int .i64 0, .int .i64 0, .int .i64 0, .int .i64 0] := (by rw [hG3_]; exact bk_)
  have hB5 : Blk wq (w.heap.size + 4) 93 #[.int .i64 0, .int .i64 0, .int .i64 0, .int .i64 0, .int .i64 0, .int .i64 0] := (by rw [hG3_]; exact bk_)
  have hl := hB5.lt
  have e4 : wq.cell? ⟨w.heap.size, 4, none⟩ = some (.int .i64 jit) := hB1.cell 4
  rw [← hG3_]
  clear hG3_
  go_loopw [45] (fun i wr => ∃ j : Nat, j ≤ 0 ∧ i = .int .i64 j ∧ wr = wq) (fun i _ => 0 - (intOf i).toNat)
  case atStart => exact ⟨0, by omega, rfl, rfl⟩
  case round =>
    obtain ⟨j, hj, hi, hwr⟩ := hrel
    subst hwr
    obtain rfl : j = 0 := by omega
    have hi : _ = Value.int .i64 0 := hi
    subst hi
    go_wp2_with (first | (refine wpList_store_row rfl _ _ _ rfl (w.heap.size + 3) #[.int .i64 0, .int .i64 0, .int .i64 0, .int .i64 0, .int .i64 0, .int .i64 0, .int .i64 0, .int .i64 0, .int .i64 0, .int .i64 0, .int .i64 0, .int .i64 0, .int .i64 0, .int .i64 0] rfl rfl 44 #[.int .i64 0, .int .i64 0, .int .i64 0, .int .i64 0, .int .i64 0, .int .i64 0, .int .i64 0, .int .i64 0, .int .i64 0, .int .i64 0, .int .i64 0, .int .i64 0, .int .i64 0, .int .i64 0] hB4 (by kernel_rfl) rfl (by simp [Value.oneCell']) ?_) | (refine wpList_store_row rfl _ _ _ rfl (w.heap.size + 4) #[.int .i64 0, .int .i64 0, .int .i64 0, .int .i64 0, .int .i64 0, .int .i64 0] rfl rfl 93 #[.int .i64 0, .int .i64 0, .int .i64 0, .int .i64 0, .int .i64 0, .int .i64 0] (hsr hB5) (by kernel_rfl) rfl (by simp [Value.oneCell']) ?_))
    obtain ⟨w9, hG4_⟩ : ∃ W, W = ((wr.setRow (w.heap.size + 3) #[.int .i64 0, .int .i64 0, .int .i64 0, .int .i64 0, .int .i64 0, .int .i64 0, .int .i64 0, .int .i64 0, .int .i64 0, .int .i64 0, .int .i64 0, .int .i64 0, .int .i64 0, .int .i64 0]).setRow (w.heap.size + 4) #[.int .i64 0, .int .i64 0, .int .i64 0, .int .i64 0, .int .i64 0, .int .i64 0]) := ⟨_, rfl⟩
    have hX1 : Blk w9 (w.heap.size + 3) 44 #[.int .i64 0, .int .i64 0, .int .i64 0, .int .i64 0, .int .i64 0, .int .i64 0, .int .i64 0, .int .i64 0, .int .i64 0, .int .i64 0, .int .i64 0, .int .i64 0, .int .i64 0, .int .i64 0] := (by rw [hG4_]; exact hsq hB4)
    have hX2 : Blk w9 (w.heap.size + 4) 93 #[.int .i64 0, .int .i64 0, .int .i64 0, .int .i64 0, .int .i64 0, .int .i64 0] := (by rw [hG4_]; exact setRow_heap _ _ _ _ _ _ (hsr hB5))
    have hX3 : Below w.heap.size w w9 := (by rw [hG4_]; exact below_setRow (below_setRow hm.below (by omega) _) (by omega) _)
    rw [← hG4_]
    clear hG4_
    have m0 : w9.cell? ⟨w.heap.size + 3, 0, none⟩ = some (.int .i64 0) := Blk.cell hX1 0
    have m1 : w9.cell? ⟨w.heap.size + 3, 1, none⟩ = some (.int .i64 0) := Blk.cell hX1 1
    have m2 : w9.cell? ⟨w.heap.size + 3, 2, none⟩ = some (.int .i64 0) := Blk.cell hX1 2
    have m3 : w9.cell? ⟨w.heap.size + 3, 3, none⟩ = some (.int .i64 0) := Blk.cell hX1 3
    have m4 : w9.cell? ⟨w.heap.size + 3, 4, none⟩ = some (.int .i64 0) := Blk.cell hX1 4
    have m5 : w9.cell? ⟨w.heap.size + 3, 5, none⟩ = some (.int .i64 0) := Blk.cell hX1 5
    have m6 : w9.cell? ⟨w.heap.size + 3, 6, none⟩ = some (.int .i64 0) := Blk.cell hX1 6
    have m7 : w9.cell? ⟨w.heap.size + 3, 7, none⟩ = some (.int .i64 0) := Blk.cell hX1 7
    have m8 : w9.cell? ⟨w.heap.size + 3, 8, none⟩ = some (.int .i64 0) := Blk.cell hX1 8
    have m9 : w9.cell? ⟨w.heap.size + 3, 9, none⟩ = some (.int .i64 0) := Blk.cell hX1 9
    have m10 : w9.cell? ⟨w.heap.size + 3, 10, none⟩ = some (.int .i64 0) := Blk.cell hX1 10
    have m11 : w9.cell? ⟨w.heap.size + 3, 11, none⟩ = some (.int .i64 0) := Blk.cell hX1 11
    have m12 : w9.cell? ⟨w.heap.size + 3, 12, none⟩ = some (.int .i64 0) := Blk.cell hX1 12
    have m13 : w9.cell? ⟨w.heap.size + 3, 13, none⟩ = some (.int .i64 0) := Blk.cell hX1 13
    have o0 : w9.cell? ⟨w.heap.size + 4, 0, none⟩ = some (.int .i64 0) := Blk.cell hX2 0
    have o1 : w9.cell? ⟨w.heap.size + 4, 1, none⟩ = some (.int .i64 0) := Blk.cell hX2 1
    have o2 : w9.cell? ⟨w.heap.size + 4, 2, none⟩ = some (.int .i64 0) := Blk.cell hX2 2
    have o3 : w9.cell? ⟨w.heap.size + 4, 3, none⟩ = some (.int .i64 0) := Blk.cell hX2 3
    have o4 : w9.cell? ⟨w.heap.size + 4, 4, none⟩ = some (.int .i64 0) := Blk.cell hX2 4
    have o5 : w9.cell? ⟨w.heap.size + 4, 5, none⟩ = some (.int .i64 0) := Blk.cell hX2 5
    refine bodyPost_ret (v := .tuple #[.agg #[.int .i64 0, .int .i64 0, .int .i64 0, .int .i64 0, .int .i64 0, .int .i64 0, .int .i64 0, .int .i64 0, .int .i64 0, .int .i64 0, .int .i64 0, .int .i64 0, .int .i64 0, .int .i64 0], .agg #[.int .i64 0, .int .i64 0, .int .i64 0, .int .i64 0, .int .i64 0, .int .i64 0], .int .i64 2]) ?_ rfl ?_
    · simp [results, Tryz.results42, go_sem, m0, m1, m2, m3, m4, m5, m6, m7, m8, m9, m10, m11, m12, m13, o0, o1, o2, o3, o4, o5]
    · exact ⟨rfl, More.of_below hX3⟩
set_option maxRecDepth 20000 in
set_option maxHeartbeats 4000000 in
theorem step_l2 (k0 k1 rate buf jit : Int) (a0 a1 a2 a3 a4 a5 b0 b1 b2 b3 b4 b5 w0 w1 : Int) (l0 l1 : Int) (w : World) (hk0 : Hid (dKind k0)) (hk1 : Hid (dKind k1)) (hn : dNums rate buf jit) (h : Hid (dRight k0 k1 rate buf jit a0 a1 a2 a3 a4 a5 b0 b1 b2 b3 b4 b5 w0 w1)) (hl0 : 0 ≤ l0) (hl1 : l0 ≤ jit) (hl : l1 < 0) :
    Calls Tryz.prog 42 #[.agg #[.int .i64 k0, .int .i64 k1, .int .i64 rate, .int .i64 buf, .int .i64 jit], .agg #[.int .i64 a0, .int .i64 a1, .int .i64 a2, .int .i64 a3, .int .i64 a4, .int .i64 a5, .int .i64 b0, .int .i64 b1, .int .i64 b2, .int .i64 b3, .int .i64 b4, .int .i64 b5, .int .i64 w0, .int .i64 w1], .agg #[.int .i64 l0, .int .i64 l1]] w fun e w' => e = .returned (.tuple #[.agg #[.int .i64 0, .int .i64 0, .int .i64 0, .int .i64 0, .int .i64 0, .int .i64 0, .int .i64 0, .int .i64 0, .int .i64 0, .int .i64 0, .int .i64 0, .int .i64 0, .int .i64 0, .int .i64 0], .agg #[.int .i64 0, .int .i64 0, .int .i64 0, .int .i64 0, .int .i64 0, .int .i64 0], .int .i64 2]) ∧ More w w' := by
  have hnn := hn
  obtain ⟨n1, n2, n3, n4, n5, n6⟩ := hnn
  obtain ⟨t, i1⟩ : ∃ t, IntKind.i64.wrap (w0 + w1) = t := ⟨_, rfl⟩
  obtain ⟨dl, i2⟩ : ∃ dl, IntKind.i64.wrap (t.tdiv rate) = dl := ⟨_, rfl⟩
  have g0 : (rate == 0) = false := by simp; omega
  have u0 : decide (l0 < 0) = false := by simp; omega
  have u1 : decide (jit < l0) = false := by simp; omega
  have u2 : decide (l1 < 0) = true := by simp; omega
  go_enter Tryz.func42, Tryz.ntmps42
  go_wp2_with fail
  refine (wrong_ok k0 k1 rate buf jit _ hk0 hk1 hn).mono ?_
  rintro e w1 ⟨rfl, os1, d1, rfl⟩
  go_wp2_with fail
  refine (right_yes k0 k1 rate buf jit a0 a1 a2 a3 a4 a5 b0 b1 b2 b3 b4 b5 w0 w1 _ hk0 hk1 hn h.out).mono ?_
  rintro e w1 ⟨rfl, os2, d2, rfl⟩
  go_wp2_with fail
  obtain ⟨wq, hG5_⟩ : ∃ W, W = ((((((((w.alloc (.cells #[.int .i64 k0, .int .i64 k1, .int .i64 rate, .int .i64 buf, .int .i64 jit] 32)).alloc (.cells #[.int .i64 a0, .int .i64 a1, .int .i64 a2, .int .i64 a3, .int .i64 a4, .int .i64 a5, .int .i64 b0, .int .i64 b1, .int .i64 b2, .int .i64 b3, .int .i64 b4, .int .i64 b5, .int .i64 w0, .int .i64 w1] 44)).alloc (.cells #[.int .i64 l0, .int .i64 l1] 30)).alloc (.cells #[.int .i64 0, .int .i64 0, .int .i64 0, .int .i64 0, .int .i64 0, .int .i64 0, .int .i64 0, .int .i64 0, .int .i64 0, .int .i64 0, .int .i64 0, .int .i64 0, .int .i64 0, .int .i64 0] 44)).alloc (.cells #[.int .i64 0, .int .i64 0, .int .i64 0, .int .i64 0, .int .i64 0, .int .i64 0] 93)).more os1 d1).more os2 d2)) := ⟨_, rfl⟩
  have hm : More w wq := (by rw [hG5_]; exact md_)
  have hB1 : Blk wq w.heap.size 32 #[.int .i64 k0, .int .i64 k1, .int .i64 rate, .int .i64 buf, .int .i64 jit] := (by rw [hG5_]; exact bk_)
  have hB4 : Blk wq (w.heap.size + 3) 44 #[.int .i64 0, .int .i64 0, .int .i64 0, .int .i64 0, .int .i64 0, .int .i64 0, .int .i64 0, .int .i64 0, .int .i64 0, .int .i64 0, .int .i64 0, .int .i64 0, .int .i64 0, .int .i64 0] := (by rw [hG5_]; exact bk_)
  have hB5 : Blk wq (w.heap.size + 4) 93 #[.int .i64 0, .int .i64 0, .int .i64 0, .int .i64 0, .int .i64 0, .int .i64 0] := (by rw [hG5_]; exact bk_)
  have hl := hB5.lt
  have e4 : wq.cell? ⟨w.heap.size, 4, none⟩ = some (.int .i64 jit) := hB1.cell 4
  rw [← hG5_]
  clear hG5_
  go_loopw [45] (fun i wr => ∃ j : Nat, j ≤ 1 ∧ i = .int .i64 j ∧ wr = wq) (fun i _ => 1 - (intOf i).toNat)
  case atStart => exact ⟨0, by omega, rfl, rfl⟩
  case round =>
    obtain ⟨j, hj, hi, hwr⟩ := hrel
    subst hwr
    rcases (show j = 0 ∨ j = 1 by omega) with rfl | rfl
    · have hi : _ = Value.int .i64 0 := hi
      subst hi
      go_wp2
      go_roundw
      case rel => exact ⟨1, by omega, by go_num, by first | rfl | trivial⟩
      case measure => simp [intOf]
    · have hi : _ = Value.int .i64 1 := hi
      subst hi
      go_wp2_with (first | (refine wpList_store_row rfl _ _ _ rfl (w.heap.size + 3) #[.int .i64 0, .int .i64 0, .int .i64 0, .int .i64 0, .int .i64 0, .int .i64 0, .int .i64 0, .int .i64 0, .int .i64 0, .int .i64 0, .int .i64 0, .int .i64 0, .int .i64 0, .int .i64 0] rfl rfl 44 #[.int .i64 0, .int .i64 0, .int .i64 0, .int .i64 0, .int .i64 0, .int .i64 0, .int .i64 0, .int .i64 0, .int .i64 0, .int .i64 0, .int .i64 0, .int .i64 0, .int .i64 0, .int .i64 0] hB4 (by kernel_rfl) rfl (by simp [Value.oneCell']) ?_) | (refine wpList_store_row rfl _ _ _ rfl (w.heap.size + 4) #[.int .i64 0, .int .i64 0, .int .i64 0, .int .i64 0, .int .i64 0, .int .i64 0] rfl rfl 93 #[.int .i64 0, .int .i64 0, .int .i64 0, .int .i64 0, .int .i64 0, .int .i64 0] (hsr hB5) (by kernel_rfl) rfl (by simp [Value.oneCell']) ?_))
      obtain ⟨w9, hG6_⟩ : ∃ W, W = ((wr.setRow (w.heap.size + 3) #[.int .i64 0, .int .i64 0, .int .i64 0, .int .i64 0, .int .i64 0, .int .i64 0, .int .i64 0, .int .i64 0, .int .i64 0, .int .i64 0, .int .i64 0, .int .i64 0, .int .i64 0, .int .i64 0]).setRow (w.heap.size + 4) #[.int .i64 0, .int .i64 0, .int .i64 0, .int .i64 0, .int .i64 0, .int .i64 0]) := ⟨_, rfl⟩
      have hX1 : Blk w9 (w.heap.size + 3) 44 #[.int .i64 0, .int .i64 0, .int .i64 0, .int .i64 0, .int .i64 0, .int .i64 0, .int .i64 0, .int .i64 0, .int .i64 0, .int .i64 0, .int .i64 0, .int .i64 0, .int .i64 0, .int .i64 0] := (by rw [hG6_]; exact hsq hB4)
      have hX2 : Blk w9 (w.heap.size + 4) 93 #[.int .i64 0, .int .i64 0, .int .i64 0, .int .i64 0, .int .i64 0, .int .i64 0] := (by rw [hG6_]; exact setRow_heap _ _ _ _ _ _ (hsr hB5))
      have hX3 : Below w.heap.size w w9 := (by rw [hG6_]; exact below_setRow (below_setRow hm.below (by omega) _) (by omega) _)
      rw [← hG6_]
      clear hG6_
      have m0 : w9.cell? ⟨w.heap.size + 3, 0, none⟩ = some (.int .i64 0) := Blk.cell hX1 0
      have m1 : w9.cell? ⟨w.heap.size + 3, 1, none⟩ = some (.int .i64 0) := Blk.cell hX1 1
      have m2 : w9.cell? ⟨w.heap.size + 3, 2, none⟩ = some (.int .i64 0) := Blk.cell hX1 2
      have m3 : w9.cell? ⟨w.heap.size + 3, 3, none⟩ = some (.int .i64 0) := Blk.cell hX1 3
      have m4 : w9.cell? ⟨w.heap.size + 3, 4, none⟩ = some (.int .i64 0) := Blk.cell hX1 4
      have m5 : w9.cell? ⟨w.heap.size + 3, 5, none⟩ = some (.int .i64 0) := Blk.cell hX1 5
      have m6 : w9.cell? ⟨w.heap.size + 3, 6, none⟩ = some (.int .i64 0) := Blk.cell hX1 6
      have m7 : w9.cell? ⟨w.heap.size + 3, 7, none⟩ = some (.int .i64 0) := Blk.cell hX1 7
      have m8 : w9.cell? ⟨w.heap.size + 3, 8, none⟩ = some (.int .i64 0) := Blk.cell hX1 8
      have m9 : w9.cell? ⟨w.heap.size + 3, 9, none⟩ = some (.int .i64 0) := Blk.cell hX1 9
      have m10 : w9.cell? ⟨w.heap.size + 3, 10, none⟩ = some (.int .i64 0) := Blk.cell hX1 10
      have m11 : w9.cell? ⟨w.heap.size + 3, 11, none⟩ = some (.int .i64 0) := Blk.cell hX1 11
      have m12 : w9.cell? ⟨w.heap.size + 3, 12, none⟩ = some (.int .i64 0) := Blk.cell hX1 12
      have m13 : w9.cell? ⟨w.heap.size + 3, 13, none⟩ = some (.int .i64 0) := Blk.cell hX1 13
      have o0 : w9.cell? ⟨w.heap.size + 4, 0, none⟩ = some (.int .i64 0) := Blk.cell hX2 0
      have o1 : w9.cell? ⟨w.heap.size + 4, 1, none⟩ = some (.int .i64 0) := Blk.cell hX2 1
      have o2 : w9.cell? ⟨w.heap.size + 4, 2, none⟩ = some (.int .i64 0) := Blk.cell hX2 2
      have o3 : w9.cell? ⟨w.heap.size + 4, 3, none⟩ = some (.int .i64 0) := Blk.cell hX2 3
      have o4 : w9.cell? ⟨w.heap.size + 4, 4, none⟩ = some (.int .i64 0) := Blk.cell hX2 4
      have o5 : w9.cell? ⟨w.heap.size + 4, 5, none⟩ = some (.int .i64 0) := Blk.cell hX2 5
      refine bodyPost_ret (v := .tuple #[.agg #[.int .i64 0, .int .i64 0, .int .i64 0, .int .i64 0, .int .i64 0, .int .i64 0, .int .i64 0, .int .i64 0, .int .i64 0, .int .i64 0, .int .i64 0, .int .i64 0, .int .i64 0, .int .i64 0], .agg #[.int .i64 0, .int .i64 0, .int .i64 0, .int .i64 0, .int .i64 0, .int .i64 0], .int .i64 2]) ?_ rfl ?_
      · simp [results, Tryz.results42, go_sem, m0, m1, m2, m3, m4, m5, m6, m7, m8, m9, m10, m11, m12, m13, o0, o1, o2, o3, o4, o5]
      · exact ⟨rfl, More.of_below hX3⟩
set_option maxRecDepth 20000 in
set_option maxHeartbeats 4000000 in
theorem step_l3 (k0 k1 rate buf jit : Int) (a0 a1 a2 a3 a4 a5 b0 b1 b2 b3 b4 b5 w0 w1 : Int) (l0 l1 : Int) (w : World) (hk0 : Hid (dKind k0)) (hk1 : Hid (dKind k1)) (hn : dNums rate buf jit) (h : Hid (dRight k0 k1 rate buf jit a0 a1 a2 a3 a4 a5 b0 b1 b2 b3 b4 b5 w0 w1)) (hl0 : 0 ≤ l0) (hl1 : l0 ≤ jit) (hl2 : 0 ≤ l1) (hl : jit < l1) :
    Calls Tryz.prog 42 #[.agg #[.int .i64 k0, .int .i64 k1, .int .i64 rate, .int .i64 buf, .int .i64 jit], .agg #[.int .i64 a0, .int .i64 a1, .int .i64 a2, .int .i64 a3, .int .i64 a4, .int .i64 a5, .int .i64 b0, .int .i64 b1, .int .i64 b2, .int .i64 b3, .int .i64 b4, .int .i64 b5, .int .i64 w0, .int .i64 w1], .agg #[.int .i64 l0, .int .i64 l1]] w fun e w' => e = .returned (.tuple #[.agg #[.int .i64 0, .int .i64 0, .int .i64 0, .int .i64 0, .int .i64 0, .int .i64 0, .int .i64 0, .int .i64 0, .int .i64 0, .int .i64 0, .int .i64 0, .int .i64 0, .int .i64 0, .int .i64 0], .agg #[.int .i64 0, .int .i64 0, .int .i64 0, .int .i64 0, .int .i64 0, .int .i64 0], .int .i64 2]) ∧ More w w' := by
  have hnn := hn
  obtain ⟨n1, n2, n3, n4, n5, n6⟩ := hnn
  obtain ⟨t, i1⟩ : ∃ t, IntKind.i64.wrap (w0 + w1) = t := ⟨_, rfl⟩
  obtain ⟨dl, i2⟩ : ∃ dl, IntKind.i64.wrap (t.tdiv rate) = dl := ⟨_, rfl⟩
  have g0 : (rate == 0) = false := by simp; omega
  have u0 : decide (l0 < 0) = false := by simp; omega
  have u1 : decide (jit < l0) = false := by simp; omega
  have u2 : decide (l1 < 0) = false := by simp; omega
  have u3 : decide (jit < l1) = true := by simp; omega
  go_enter Tryz.func42, Tryz.ntmps42
  go_wp2_with fail
  refine (wrong_ok k0 k1 rate buf jit _ hk0 hk1 hn).mono ?_
  rintro e w1 ⟨rfl, os1, d1, rfl⟩
  go_wp2_with fail
  refine (right_yes k0 k1 rate buf jit a0 a1 a2 a3 a4 a5 b0 b1 b2 b3 b4 b5 w0 w1 _ hk0 hk1 hn h.out).mono ?_
  rintro e w1 ⟨rfl, os2, d2, rfl⟩
  go_wp2_with fail
  obtain ⟨wq, hG7_⟩ : ∃ W, W = ((((((((w.alloc (.cells #[.int .i64 k0, .int .i64 k1, .int .i64 rate, .int .i64 buf, .int .i64 jit] 32)).alloc (.cells #[.int .i64 a0, .int .i64 a1, .int .i64 a2, .int .i64 a3, .int .i64 a4, .int .i64 a5, .int .i64 b0, .int .i64 b1, .int .i64 b2, .int .i64 b3, .int .i64 b4, .int .i64 b5, .int .i64 w0, .int .i64 w1] 44)).alloc (.cells #[.int .i64 l0, .int .i64 l1] 30)).alloc (.cells #[.int .i64 0, .int .i64 0, .int .i64 0, .int .i64 0, .int .i64 0, .int .i64 0, .int .i64 0, .int .i64 0, .int .i64 0, .int .i64 0, .int .i64 0, .int .i64 0, .int .i64 0, .int .i64 0] 44)).alloc (.cells #[.int .i64 0, .int .i64 0, .int .i64 0, .int .i64 0, .int .i64 0, .int .i64 0] 93)).more os1 d1).more os2 d2)) := ⟨_, rfl⟩
  have hm : More w wq := (by rw [hG7_]; exact md_)
  have hB1 : Blk wq w.heap.size 32 #[.int .i64 k0, .int .i64 k1, .int .i64 rate, .int .i64 buf, .int .i64 jit] := (by rw [hG7_]; exact bk_)
  have hB4 : Blk wq (w.heap.size + 3) 44 #[.int .i64 0, .int .i64 0, .int .i64 0, .int .i64 0, .int .i64 0, .int .i64 0, .int .i64 0, .int .i64 0, .int .i64 0, .int .i64 0, .int .i64 0, .int .i64 0, .int .i64 0, .int .i64 0] := (by rw [hG7_]; exact bk_)
  have hB5 : Blk wq (w.heap.size + 4) 93 #[.int .i64 0, .int .i64 0, .int .i64 0, .int .i64 0, .int .i64 0, .int .i64 0] := (by rw [hG7_]; exact bk_)
  have hl := hB5.lt
  have e4 : wq.cell? ⟨w.heap.size, 4, none⟩ = some (.int .i64 jit) := hB1.cell 4
  rw [← hG7_]
  clear hG7_
  go_loopw [45] (fun i wr => ∃ j : Nat, j ≤ 1 ∧ i = .int .i64 j ∧ wr = wq) (fun i _ => 1 - (intOf i).toNat)
  case atStart => exact ⟨0, by omega, rfl, rfl⟩
  case round =>
    obtain ⟨j, hj, hi, hwr⟩ := hrel
    subst hwr
    rcases (show j = 0 ∨ j = 1 by omega) with rfl | rfl
    · have hi : _ = Value.int .i64 0 := hi
      subst hi
      go_wp2
      go_roundw
      case rel => exact ⟨1, by omega, by go_num, by first | rfl | trivial⟩
      case measure => simp [intOf]
    · have hi : _ = Value.int .i64 1 := hi
      subst hi
      go_wp2_with (first | (refine wpList_store_row rfl _ _ _ rfl (w.heap.size + 3) #[.int .i64 0, .int .i64 0, .int .i64 0, .int .i64 0, .int .i64 0, .int .i64 0, .int .i64 0, .int .i64 0, .int .i64 0, .int .i64 0, .int .i64 0, .int .i64 0, .int .i64 0, .int .i64 0] rfl rfl 44 #[.int .i64 0, .int .i64 0, .int .i64 0, .int .i64 0, .int .i64 0, .int .i64 0, .int .i64 0, .int .i64 0, .int .i64 0, .int .i64 0, .int .i64 0, .int .i64 0, .int .i64 0, .int .i64 0] hB4 (by kernel_rfl) rfl (by simp [Value.oneCell']) ?_) | (refine wpList_store_row rfl _ _ _ rfl (w.heap.size + 4) #[.int .i64 0, .int .i64 0, .int .i64 0, .int .i64 0, .int .i64 0, .int .i64 0] rfl rfl 93 #[.int .i64 0, .int .i64 0, .int .i64 0, .int .i64 0, .int .i64 0, .int .i64 0] (hsr hB5) (by kernel_rfl) rfl (by simp [Value.oneCell']) ?_))
      obtain ⟨w9, hG8_⟩ : ∃ W, W = ((wr.setRow (w.heap.size + 3) #[.int .i64 0, .int .i64 0, .int .i64 0, .int .i64 0, .int .i64 0, .int .i64 0, .int .i64 0, .int .i64 0, .int .i64 0, .int .i64 0, .int .i64 0, .int .i64 0, .int .i64 0, .int .i64 0]).setRow (w.heap.size + 4) #[.int .i64 0, .int .i64 0, .int .i64 0, .int .i64 0, .int .i64 0, .int .i64 0]) := ⟨_, rfl⟩
      have hX1 : Blk w9 (w.heap.size + 3) 44 #[.int .i64 0, .int .i64 0, .int .i64 0, .int .i64 0, .int .i64 0, .int .i64 0, .int .i64 0, .int .i64 0, .int .i64 0, .int .i64 0, .int .i64 0, .int .i64 0, .int .i64 0, .int .i64 0] := (by rw [hG8_]; exact hsq hB4)
      have hX2 : Blk w9 (w.heap.size + 4) 93 #[.int .i64 0, .int .i64 0, .int .i64 0, .int .i64 0, .int .i64 0, .int .i64 0] := (by rw [hG8_]; exact setRow_heap _ _ _ _ _ _ (hsr hB5))
      have hX3 : Below w.heap.size w w9 := (by rw [hG8_]; exact below_setRow (below_setRow hm.below (by omega) _) (by omega) _)
      rw [← hG8_]
      clear hG8_
      have m0 : w9.cell? ⟨w.heap.size + 3, 0, none⟩ = some (.int .i64 0) := Blk.cell hX1 0
      have m1 : w9.cell? ⟨w.heap.size + 3, 1, none⟩ = some (.int .i64 0) := Blk.cell hX1 1
      have m2 : w9.cell? ⟨w.heap.size + 3, 2, none⟩ = some (.int .i64 0) := Blk.cell hX1 2
      have m3 : w9.cell? ⟨w.heap.size + 3, 3, none⟩ = some (.int .i64 0) := Blk.cell hX1 3
      have m4 : w9.cell? ⟨w.heap.size + 3, 4, none⟩ = some (.int .i64 0) := Blk.cell hX1 4
      have m5 : w9.cell? ⟨w.heap.size + 3, 5, none⟩ = some (.int .i64 0) := Blk.cell hX1 5
      have m6 : w9.cell? ⟨w.heap.size + 3, 6, none⟩ = some (.int .i64 0) := Blk.cell hX1 6
      have m7 : w9.cell? ⟨w.heap.size + 3, 7, none⟩ = some (.int .i64 0) := Blk.cell hX1 7
      have m8 : w9.cell? ⟨w.heap.size + 3, 8, none⟩ = some (.int .i64 0) := Blk.cell hX1 8
      have m9 : w9.cell? ⟨w.heap.size + 3, 9, none⟩ = some (.int .i64 0) := Blk.cell hX1 9
      have m10 : w9.cell? ⟨w.heap.size + 3, 10, none⟩ = some (.int .i64 0) := Blk.cell hX1 10
      have m11 : w9.cell? ⟨w.heap.size + 3, 11, none⟩ = some (.int .i64 0) := Blk.cell hX1 11
      have m12 : w9.cell? ⟨w.heap.size + 3, 12, none⟩ = some (.int .i64 0) := Blk.cell hX1 12
      have m13 : w9.cell? ⟨w.heap.size + 3, 13, none⟩ = some (.int .i64 0) := Blk.cell hX1 13
      have o0 : w9.cell? ⟨w.heap.size + 4, 0, none⟩ = some (.int .i64 0) := Blk.cell hX2 0
      have o1 : w9.cell? ⟨w.heap.size + 4, 1, none⟩ = some (.int .i64 0) := Blk.cell hX2 1
      have o2 : w9.cell? ⟨w.heap.size + 4, 2, none⟩ = some (.int .i64 0) := Blk.cell hX2 2
      have o3 : w9.cell? ⟨w.heap.size + 4, 3, none⟩ = some (.int .i64 0) := Blk.cell hX2 3
      have o4 : w9.cell? ⟨w.heap.size + 4, 4, none⟩ = some (.int .i64 0) := Blk.cell hX2 4
      have o5 : w9.cell? ⟨w.heap.size + 4, 5, none⟩ = some (.int .i64 0) := Blk.cell hX2 5
      refine bodyPost_ret (v := .tuple #[.agg #[.int .i64 0, .int .i64 0, .int .i64 0, .int .i64 0, .int .i64 0, .int .i64 0, .int .i64 0, .int .i64 0, .int .i64 0, .int .i64 0, .int .i64 0, .int .i64 0, .int .i64 0, .int .i64 0], .agg #[.int .i64 0, .int .i64 0, .int .i64 0, .int .i64 0, .int .i64 0, .int .i64 0], .int .i64 2]) ?_ rfl ?_
      · simp [results, Tryz.results42, go_sem, m0, m1, m2, m3, m4, m5, m6, m7, m8, m9, m10, m11, m12, m13, o0, o1, o2, o3, o4, o5]
      · exact ⟨rfl, More.of_below hX3⟩
end Go.Proofs.YtgmljgcmfooniaaGreatDoor
/- DuelY -/
namespace Go
open Go.RowKit
theorem own_set {w : World} {base b i size n : Nat} {e : TypeId} {v : Value} {xs : List Value} (h : w.ownsRow base e size v n xs) (hb : b < base) (u : Value) : (w.setCell ⟨b, i, none⟩ u).ownsRow base e size v n xs :=
  h.kept (⟨rfl, rfl, rfl, by simp [World.setCell], fun k hk hne => Below.heap_setCell w ⟨b, i, none⟩ u k (fun h => hne (by rw [h]))⟩ : w.grownBy (w.setCell ⟨b, i, none⟩ u) (some b)) (.inr (own_ne h hb))
theorem own_base_le {w : World} {base base' size n : Nat} {e : TypeId} {v : Value} {xs : List Value} (h : w.ownsRow base e size v n xs) (hb : base' ≤ base) : w.ownsRow base' e size v n xs := by
  refine ⟨h.1, ?_⟩
  rcases h.2 with h1 | ⟨g, cap, cur, e1, e2, e3⟩
  · exact .inl h1
  · exact .inr ⟨g, cap, cur, e1, Nat.le_trans hb e2, e3⟩
end Go
namespace Go.Proofs.YtgmljgcmfooniaaGreatDoor
open Go.RowKit Go.Tide
theorem step_late (r : DRules) (s : DSt) (l0 l1 : Int) (w : World) (hr : r.ok) (h : s.ok r) (hl : ¬ dLate r l0 l1) :
    Calls Tryz.prog 42 #[.agg #[.int .i64 r.k0, .int .i64 r.k1, .int .i64 r.rate, .int .i64 r.buf, .int .i64 r.jit], .agg #[.int .i64 s.a.c0, .int .i64 s.a.c1, .int .i64 s.a.c2, .int .i64 s.a.c3, .int .i64 s.a.c4, .int .i64 s.a.c5, .int .i64 s.b.c0, .int .i64 s.b.c1, .int .i64 s.b.c2, .int .i64 s.b.c3, .int .i64 s.b.c4, .int .i64 s.b.c5, .int .i64 s.w0, .int .i64 s.w1], .agg #[.int .i64 l0, .int .i64 l1]] w fun e w' =>
      e = .returned (.tuple #[.agg #[.int .i64 0, .int .i64 0, .int .i64 0, .int .i64 0, .int .i64 0, .int .i64 0, .int .i64 0, .int .i64 0, .int .i64 0, .int .i64 0, .int .i64 0, .int .i64 0, .int .i64 0, .int .i64 0], .agg #[.int .i64 0, .int .i64 0, .int .i64 0, .int .i64 0, .int .i64 0, .int .i64 0], .int .i64 2]) ∧ More w w' := by
  have hd : dRight r.k0 r.k1 r.rate r.buf r.jit s.a.c0 s.a.c1 s.a.c2 s.a.c3 s.a.c4 s.a.c5 s.b.c0 s.b.c1 s.b.c2 s.b.c3 s.b.c4 s.b.c5 s.w0 s.w1 := ⟨h.1, by omega, h.2.1, by omega, by have := h.2.2; omega⟩
  obtain ⟨h0, h1, hn⟩ := hr
  by_cases c0 : l0 < 0
  · exact step_l0 r.k0 r.k1 r.rate r.buf r.jit s.a.c0 s.a.c1 s.a.c2 s.a.c3 s.a.c4 s.a.c5 s.b.c0 s.b.c1 s.b.c2 s.b.c3 s.b.c4 s.b.c5 s.w0 s.w1 l0 l1 w h0 h1 hn hd c0
  by_cases c1 : r.jit < l0
  · exact step_l1 r.k0 r.k1 r.rate r.buf r.jit s.a.c0 s.a.c1 s.a.c2 s.a.c3 s.a.c4 s.a.c5 s.b.c0 s.b.c1 s.b.c2 s.b.c3 s.b.c4 s.b.c5 s.w0 s.w1 l0 l1 w h0 h1 hn hd (by omega) c1
  by_cases c2 : l1 < 0
  · exact step_l2 r.k0 r.k1 r.rate r.buf r.jit s.a.c0 s.a.c1 s.a.c2 s.a.c3 s.a.c4 s.a.c5 s.b.c0 s.b.c1 s.b.c2 s.b.c3 s.b.c4 s.b.c5 s.w0 s.w1 l0 l1 w h0 h1 hn hd (by omega) (by omega) c2
  by_cases c3 : r.jit < l1
  · exact step_l3 r.k0 r.k1 r.rate r.buf r.jit s.a.c0 s.a.c1 s.a.c2 s.a.c3 s.a.c4 s.a.c5 s.b.c0 s.b.c1 s.b.c2 s.b.c3 s.b.c4 s.b.c5 s.w0 s.w1 l0 l1 w h0 h1 hn hd (by omega) (by omega) (by omega) c3
  exact absurd ⟨⟨by omega, by omega⟩, by omega, by omega⟩ hl
theorem roundInfo : (Tryz.prog.info? 93).map (fun i => (i.zero, i.size, i.bytes)) = some (some (.agg #[.int .i64 0, .int .i64 0, .int .i64 0, .int .i64 0, .int .i64 0, .int .i64 0]), 6, 48) := by kernel_rfl
set_option maxRecDepth 20000 in
set_option maxHeartbeats 3000000 in
theorem play_ok (r : DRules) (a : Option Addr) (n c : Nat) (f : Nat → Nat → Int) (w : World) (hf : RowC w 2 a n f) (hn : n ≤ 1048576) (hr : r.ok) (hall : dAll r f n) :
    Calls Tryz.prog 13 #[.agg #[.int .i64 r.k0, .int .i64 r.k1, .int .i64 r.rate, .int .i64 r.buf, .int .i64 r.jit], .slice a n c] w fun e w' => ∃ ao co, e = .returned (.tuple #[.slice ao n co, .agg #[.int .i64 (dRun r f n).a.c0, .int .i64 (dRun r f n).a.c1, .int .i64 (dRun r f n).a.c2, .int .i64 (dRun r f n).a.c3, .int .i64 (dRun r f n).a.c4, .int .i64 (dRun r f n).a.c5, .int .i64 (dRun r f n).b.c0, .int .i64 (dRun r f n).b.c1, .int .i64 (dRun r f n).b.c2, .int .i64 (dRun r f n).b.c3, .int .i64 (dRun r f n).b.c4, .int .i64 (dRun r f n).b.c5, .int .i64 (dRun r f n).w0, .int .i64 (dRun r f n).w1], .int .i64 0]) ∧ w'.ownsRow w.heap.size 93 6 (.slice ao n co) n (cellsC 6 n (dRows r f)) ∧ Below w.heap.size w w' := by
  obtain ⟨i0_, hi, hz0, hz1, hz2⟩ := info_parts roundInfo
  have HR := Lib.hid hr
  have HA := Lib.hid hall
  clear hall
  have hrn := hr.2.2
  obtain ⟨m1, m2, m3, m4, m5, m6⟩ := hrn
  go_enter Tryz.func13, Tryz.ntmps13
  go_wp2_with fail
  refine (start_ok r.k0 r.k1 r.rate r.buf r.jit _ HR.out.1 HR.out.2.1 HR.out.2.2).mono ?_
  rintro e w1 ⟨rfl, os1, d1, rfl⟩
  go_wp2_with fail
  have hm : More w (((w.alloc (.cells #[.int .i64 r.k0, .int .i64 r.k1, .int .i64 r.rate, .int .i64 r.buf, .int .i64 r.jit] 32)).alloc (.cells #[.int .i64 0, .int .i64 0, .int .i64 0, .int .i64 0, .int .i64 0, .int .i64 0, .int .i64 0, .int .i64 0, .int .i64 0, .int .i64 0, .int .i64 0, .int .i64 0, .int .i64 0, .int .i64 0] 44)).more os1 d1) := md_
  have hB1 : Blk (((w.alloc (.cells #[.int .i64 r.k0, .int .i64 r.k1, .int .i64 r.rate, .int .i64 r.buf, .int .i64 r.jit] 32)).alloc (.cells #[.int .i64 0, .int .i64 0, .int .i64 0, .int .i64 0, .int .i64 0, .int .i64 0, .int .i64 0, .int .i64 0, .int .i64 0, .int .i64 0, .int .i64 0, .int .i64 0, .int .i64 0, .int .i64 0] 44)).more os1 d1) w.heap.size 32 #[.int .i64 r.k0, .int .i64 r.k1, .int .i64 r.rate, .int .i64 r.buf, .int .i64 r.jit] := bk_
  have hB2 : Blk (((w.alloc (.cells #[.int .i64 r.k0, .int .i64 r.k1, .int .i64 r.rate, .int .i64 r.buf, .int .i64 r.jit] 32)).alloc (.cells #[.int .i64 0, .int .i64 0, .int .i64 0, .int .i64 0, .int .i64 0, .int .i64 0, .int .i64 0, .int .i64 0, .int .i64 0, .int .i64 0, .int .i64 0, .int .i64 0, .int .i64 0, .int .i64 0] 44)).more os1 d1) (w.heap.size + 1) 44 #[.int .i64 0, .int .i64 0, .int .i64 0, .int .i64 0, .int .i64 0, .int .i64 0, .int .i64 0, .int .i64 0, .int .i64 0, .int .i64 0, .int .i64 0, .int .i64 0, .int .i64 0, .int .i64 0] := bk_
  have hfz : RowC (((w.alloc (.cells #[.int .i64 r.k0, .int .i64 r.k1, .int .i64 r.rate, .int .i64 r.buf, .int .i64 r.jit] 32)).alloc (.cells #[.int .i64 0, .int .i64 0, .int .i64 0, .int .i64 0, .int .i64 0, .int .i64 0, .int .i64 0, .int .i64 0, .int .i64 0, .int .i64 0, .int .i64 0, .int .i64 0, .int .i64 0, .int .i64 0] 44)).more os1 d1) 2 a n f := (by repeat (first | (with_reducible assumption) | (with_reducible exact RowC.nil) | (with_reducible apply RowC.drewN) | (with_reducible apply RowC.drew) | (with_reducible apply RowC.more) | (with_reducible apply RowC.alloc)))
  have hl : w.heap.size + 1 < (((w.alloc (.cells #[.int .i64 r.k0, .int .i64 r.k1, .int .i64 r.rate, .int .i64 r.buf, .int .i64 r.jit] 32)).alloc (.cells #[.int .i64 0, .int .i64 0, .int .i64 0, .int .i64 0, .int .i64 0, .int .i64 0, .int .i64 0, .int .i64 0, .int .i64 0, .int .i64 0, .int .i64 0, .int .i64 0, .int .i64 0, .int .i64 0] 44)).more os1 d1).heap.size := hB2.lt
  have hO0 : w.heap.size + (2 + os1.size) = (((w.alloc (.cells #[.int .i64 r.k0, .int .i64 r.k1, .int .i64 r.rate, .int .i64 r.buf, .int .i64 r.jit] 32)).alloc (.cells #[.int .i64 0, .int .i64 0, .int .i64 0, .int .i64 0, .int .i64 0, .int .i64 0, .int .i64 0, .int .i64 0, .int .i64 0, .int .i64 0, .int .i64 0, .int .i64 0, .int .i64 0, .int .i64 0] 44)).more os1 d1).heap.size := by simp; omega
  rw [hO0]
  clear hO0
  generalize (((w.alloc (.cells #[.int .i64 r.k0, .int .i64 r.k1, .int .i64 r.rate, .int .i64 r.buf, .int .i64 r.jit] 32)).alloc (.cells #[.int .i64 0, .int .i64 0, .int .i64 0, .int .i64 0, .int .i64 0, .int .i64 0, .int .i64 0, .int .i64 0, .int .i64 0, .int .i64 0, .int .i64 0, .int .i64 0, .int .i64 0, .int .i64 0] 44)).more os1 d1) = wz at *
  have hN : Hid (Blk (wz.alloc (.cells #[.int .i64 r.k0, .int .i64 1, .int .i64 (-1), .int .i64 0, .int .i64 0, .int .i64 0, .int .i64 r.k1, .int .i64 1, .int .i64 (-1), .int .i64 0, .int .i64 0, .int .i64 0, .int .i64 0, .int .i64 0] 44)) wz.heap.size 44 #[.int .i64 (dRun r f 0).a.c0, .int .i64 (dRun r f 0).a.c1, .int .i64 (dRun r f 0).a.c2, .int .i64 (dRun r f 0).a.c3, .int .i64 (dRun r f 0).a.c4, .int .i64 (dRun r f 0).a.c5, .int .i64 (dRun r f 0).b.c0, .int .i64 (dRun r f 0).b.c1, .int .i64 (dRun r f 0).b.c2, .int .i64 (dRun r f 0).b.c3, .int .i64 (dRun r f 0).b.c4, .int .i64 (dRun r f 0).b.c5, .int .i64 (dRun r f 0).w0, .int .i64 (dRun r f 0).w1]) := Blk.new wz 44 #[.int .i64 r.k0, .int .i64 1, .int .i64 (-1), .int .i64 0, .int .i64 0, .int .i64 0, .int .i64 r.k1, .int .i64 1, .int .i64 (-1), .int .i64 0, .int .i64 0, .int .i64 0, .int .i64 0, .int .i64 0]
  have hbe0 : Below wz.heap.size wz (wz.alloc (.cells #[.int .i64 r.k0, .int .i64 1, .int .i64 (-1), .int .i64 0, .int .i64 0, .int .i64 0, .int .i64 r.k1, .int .i64 1, .int .i64 (-1), .int .i64 0, .int .i64 0, .int .i64 0, .int .i64 0, .int .i64 0] 44)) := (Below.refl _ _).alloc (Nat.le_refl _) _
  have ha0 : Hid (dAll r f 0) := fun k hk => absurd hk (by omega)
  generalize wz.alloc (.cells #[.int .i64 r.k0, .int .i64 1, .int .i64 (-1), .int .i64 0, .int .i64 0, .int .i64 0, .int .i64 r.k1, .int .i64 1, .int .i64 (-1), .int .i64 0, .int .i64 0, .int .i64 0, .int .i64 0, .int .i64 0] 44) = w8 at *
  have hmz := hm.below
  have hmzs := hmz.size
  go_loopw [9, 26] (fun out i wr => ∃ k : Nat, i = .int .i64 k ∧ k ≤ n ∧ wr.ownsRow (wz.heap.size + 1) 93 6 out k (cellsC 6 k (dRows r f)) ∧ Hid (Blk wr wz.heap.size 44 #[.int .i64 (dRun r f k).a.c0, .int .i64 (dRun r f k).a.c1, .int .i64 (dRun r f k).a.c2, .int .i64 (dRun r f k).a.c3, .int .i64 (dRun r f k).a.c4, .int .i64 (dRun r f k).a.c5, .int .i64 (dRun r f k).b.c0, .int .i64 (dRun r f k).b.c1, .int .i64 (dRun r f k).b.c2, .int .i64 (dRun r f k).b.c3, .int .i64 (dRun r f k).b.c4, .int .i64 (dRun r f k).b.c5, .int .i64 (dRun r f k).w0, .int .i64 (dRun r f k).w1]) ∧ Below wz.heap.size wz wr ∧ Hid (dAll r f k)) (fun _ i _ => n - (intOf i).toNat)
  case atStart => exact ⟨0, rfl, Nat.zero_le _, World.ownsRow_nil _ _ _ _, hN, hbe0, ha0⟩
  case round =>
    obtain ⟨k, rfl, hk, hown, hS, hbe, hall⟩ := hrel
    obtain ⟨ao, co, hv, hco⟩ := own_sliceC hown
    subst hv
    have hsz := hbe.size
    have hSl := hS.out.lt
    by_cases hlt : k < n
    · have hlate := HA.out k hlt
      obtain ⟨b, off, x, y, rfl, hb, hcx, hcy, hx, hy⟩ := (hfz.below hbe (Nat.le_refl _)).at2 hlt
      have hC1 : Blk wr w.heap.size 32 #[.int .i64 r.k0, .int .i64 r.k1, .int .i64 r.rate, .int .i64 r.buf, .int .i64 r.jit] := hB1.below hbe (by omega)
      have e0 : wr.cell? ⟨w.heap.size, 0, none⟩ = some (.int .i64 r.k0) := hC1.cell 0
      have e1 : wr.cell? ⟨w.heap.size, 1, none⟩ = some (.int .i64 r.k1) := hC1.cell 1
      have e2 : wr.cell? ⟨w.heap.size, 2, none⟩ = some (.int .i64 r.rate) := hC1.cell 2
      have e3 : wr.cell? ⟨w.heap.size, 3, none⟩ = some (.int .i64 r.buf) := hC1.cell 3
      have e4 : wr.cell? ⟨w.heap.size, 4, none⟩ = some (.int .i64 r.jit) := hC1.cell 4
      have hlg : w.heap.size < wr.heap.size := by omega
      have hok := Lib.hid (run_ok HR.out k hall.out)
      have hrow : Hid (∀ j, dRows r f k j = dRow r (dRun r f k) j) := fun j => rfl
      obtain ⟨s, hs⟩ : ∃ s, Hid (dRun r f k = s) := ⟨_, rfl⟩
      rw [hs.out] at hS hok hrow
      have hS' := hS.out
      have s0 : wr.cell? ⟨wz.heap.size, 0, none⟩ = some (.int .i64 s.a.c0) := hS'.cell 0
      have s1 : wr.cell? ⟨wz.heap.size, 1, none⟩ = some (.int .i64 s.a.c1) := hS'.cell 1
      have s2 : wr.cell? ⟨wz.heap.size, 2, none⟩ = some (.int .i64 s.a.c2) := hS'.cell 2
      have s3 : wr.cell? ⟨wz.heap.size, 3, none⟩ = some (.int .i64 s.a.c3) := hS'.cell 3
      have s4 : wr.cell? ⟨wz.heap.size, 4, none⟩ = some (.int .i64 s.a.c4) := hS'.cell 4
      have s5 : wr.cell? ⟨wz.heap.size, 5, none⟩ = some (.int .i64 s.a.c5) := hS'.cell 5
      have s6 : wr.cell? ⟨wz.heap.size, 6, none⟩ = some (.int .i64 s.b.c0) := hS'.cell 6
      have s7 : wr.cell? ⟨wz.heap.size, 7, none⟩ = some (.int .i64 s.b.c1) := hS'.cell 7
      have s8 : wr.cell? ⟨wz.heap.size, 8, none⟩ = some (.int .i64 s.b.c2) := hS'.cell 8
      have s9 : wr.cell? ⟨wz.heap.size, 9, none⟩ = some (.int .i64 s.b.c3) := hS'.cell 9
      have s10 : wr.cell? ⟨wz.heap.size, 10, none⟩ = some (.int .i64 s.b.c4) := hS'.cell 10
      have s11 : wr.cell? ⟨wz.heap.size, 11, none⟩ = some (.int .i64 s.b.c5) := hS'.cell 11
      have s12 : wr.cell? ⟨wz.heap.size, 12, none⟩ = some (.int .i64 s.w0) := hS'.cell 12
      have s13 : wr.cell? ⟨wz.heap.size, 13, none⟩ = some (.int .i64 s.w1) := hS'.cell 13
      have hlx : dLate r x y := by rw [hx.out, hy.out]; exact hlate
      obtain ⟨s', hs'⟩ : ∃ s', Hid (dGo r s x y = s') := ⟨_, rfl⟩
      obtain ⟨q, hq⟩ : ∃ q, Hid (dRow r s = q) := ⟨_, rfl⟩
      go_wp2_with fail
      refine (step_go r s x y _ HR.out hok.out hlx s' hs' q hq).mono ?_
      rintro e w1 ⟨rfl, os2, d2, rfl⟩
      have hgo : Hid (dRun r f (k + 1) = s') := by show dGo r (dRun r f k) (f k 0) (f k 1) = s'; rw [hs.out, ← hx.out, ← hy.out]; exact hs'.out
      have hwy : ((wr.alloc (.cells #[.int .i64 x, .int .i64 y] 30)).more os2 d2).heap.size = wr.heap.size + (1 + os2.size) := by simp; omega
      have hoy : ((wr.alloc (.cells #[.int .i64 x, .int .i64 y] 30)).more os2 d2).ownsRow (wz.heap.size + 1) 93 6 (.slice ao k co) k (cellsC 6 k (dRows r f)) := own_more (hown.alloc _) _ _
      have hSy : Blk ((wr.alloc (.cells #[.int .i64 x, .int .i64 y] 30)).more os2 d2) wz.heap.size 44 #[.int .i64 s.a.c0, .int .i64 s.a.c1, .int .i64 s.a.c2, .int .i64 s.a.c3, .int .i64 s.a.c4, .int .i64 s.a.c5, .int .i64 s.b.c0, .int .i64 s.b.c1, .int .i64 s.b.c2, .int .i64 s.b.c3, .int .i64 s.b.c4, .int .i64 s.b.c5, .int .i64 s.w0, .int .i64 s.w1] := (hS'.alloc _).more _ _
      have hby : Below wz.heap.size wz ((wr.alloc (.cells #[.int .i64 x, .int .i64 y] 30)).more os2 d2) := (hbe.alloc hsz _).more (by simp; omega) _ _

      have hszy : wz.heap.size < ((wr.alloc (.cells #[.int .i64 x, .int .i64 y] 30)).more os2 d2).heap.size := by omega
      clear hown hS hS' hbe hC1 e0 e1 e2 e3 e4 s0 s1 s2 s3 s4 s5 s6 s7 s8 s9 s10 s11 s12 s13 hwy
      generalize ((wr.alloc (.cells #[.int .i64 x, .int .i64 y] 30)).more os2 d2) = wy at *
      have s0 : wy.cell? ⟨wz.heap.size, 0, none⟩ = some (.int .i64 s.a.c0) := hSy.cell 0
      have t0 : wy.frozen? ⟨wz.heap.size, 0, none⟩ = false := hSy.frozen 0
      have s1 : wy.cell? ⟨wz.heap.size, 1, none⟩ = some (.int .i64 s.a.c1) := hSy.cell 1
      have t1 : wy.frozen? ⟨wz.heap.size, 1, none⟩ = false := hSy.frozen 1
      have s2 : wy.cell? ⟨wz.heap.size, 2, none⟩ = some (.int .i64 s.a.c2) := hSy.cell 2
      have t2 : wy.frozen? ⟨wz.heap.size, 2, none⟩ = false := hSy.frozen 2
      have s3 : wy.cell? ⟨wz.heap.size, 3, none⟩ = some (.int .i64 s.a.c3) := hSy.cell 3
      have t3 : wy.frozen? ⟨wz.heap.size, 3, none⟩ = false := hSy.frozen 3
      have s4 : wy.cell? ⟨wz.heap.size, 4, none⟩ = some (.int .i64 s.a.c4) := hSy.cell 4
      have t4 : wy.frozen? ⟨wz.heap.size, 4, none⟩ = false := hSy.frozen 4
      have s5 : wy.cell? ⟨wz.heap.size, 5, none⟩ = some (.int .i64 s.a.c5) := hSy.cell 5
      have t5 : wy.frozen? ⟨wz.heap.size, 5, none⟩ = false := hSy.frozen 5
      have s6 : wy.cell? ⟨wz.heap.size, 6, none⟩ = some (.int .i64 s.b.c0) := hSy.cell 6
      have t6 : wy.frozen? ⟨wz.heap.size, 6, none⟩ = false := hSy.frozen 6
      have s7 : wy.cell? ⟨wz.heap.size, 7, none⟩ = some (.int .i64 s.b.c1) := hSy.cell 7
      have t7 : wy.frozen? ⟨wz.heap.size, 7, none⟩ = false := hSy.frozen 7
      have s8 : wy.cell? ⟨wz.heap.size, 8, none⟩ = some (.int .i64 s.b.c2) := hSy.cell 8
      have t8 : wy.frozen? ⟨wz.heap.size, 8, none⟩ = false := hSy.frozen 8
      have s9 : wy.cell? ⟨wz.heap.size, 9, none⟩ = some (.int .i64 s.b.c3) := hSy.cell 9
      have t9 : wy.frozen? ⟨wz.heap.size, 9, none⟩ = false := hSy.frozen 9
      have s10 : wy.cell? ⟨wz.heap.size, 10, none⟩ = some (.int .i64 s.b.c4) := hSy.cell 10
      have t10 : wy.frozen? ⟨wz.heap.size, 10, none⟩ = false := hSy.frozen 10
      have s11 : wy.cell? ⟨wz.heap.size, 11, none⟩ = some (.int .i64 s.b.c5) := hSy.cell 11
      have t11 : wy.frozen? ⟨wz.heap.size, 11, none⟩ = false := hSy.frozen 11
      have s12 : wy.cell? ⟨wz.heap.size, 12, none⟩ = some (.int .i64 s.w0) := hSy.cell 12
      have t12 : wy.frozen? ⟨wz.heap.size, 12, none⟩ = false := hSy.frozen 12
      have s13 : wy.cell? ⟨wz.heap.size, 13, none⟩ = some (.int .i64 s.w1) := hSy.cell 13
      have t13 : wy.frozen? ⟨wz.heap.size, 13, none⟩ = false := hSy.frozen 13
      have hoz : ((((((((((((((wy.setCell ⟨wz.heap.size, 0, none⟩ (.int .i64 s'.a.c0)).setCell ⟨wz.heap.size, 1, none⟩ (.int .i64 s'.a.c1)).setCell ⟨wz.heap.size, 2, none⟩ (.int .i64 s'.a.c2)).setCell ⟨wz.heap.size, 3, none⟩ (.int .i64 s'.a.c3)).setCell ⟨wz.heap.size, 4, none⟩ (.int .i64 s'.a.c4)).setCell ⟨wz.heap.size, 5, none⟩ (.int .i64 s'.a.c5)).setCell ⟨wz.heap.size, 6, none⟩ (.int .i64 s'.b.c0)).setCell ⟨wz.heap.size, 7, none⟩ (.int .i64 s'.b.c1)).setCell ⟨wz.heap.size, 8, none⟩ (.int .i64 s'.b.c2)).setCell ⟨wz.heap.size, 9, none⟩ (.int .i64 s'.b.c3)).setCell ⟨wz.heap.size, 10, none⟩ (.int .i64 s'.b.c4)).setCell ⟨wz.heap.size, 11, none⟩ (.int .i64 s'.b.c5)).setCell ⟨wz.heap.size, 12, none⟩ (.int .i64 s'.w0)).setCell ⟨wz.heap.size, 13, none⟩ (.int .i64 s'.w1)).ownsRow (wz.heap.size + 1) 93 6 (.slice ao k co) k (cellsC 6 k (dRows r f)) := (own_set (b := wz.heap.size) (i := 13) (own_set (b := wz.heap.size) (i := 12) (own_set (b := wz.heap.size) (i := 11) (own_set (b := wz.heap.size) (i := 10) (own_set (b := wz.heap.size) (i := 9) (own_set (b := wz.heap.size) (i := 8) (own_set (b := wz.heap.size) (i := 7) (own_set (b := wz.heap.size) (i := 6) (own_set (b := wz.heap.size) (i := 5) (own_set (b := wz.heap.size) (i := 4) (own_set (b := wz.heap.size) (i := 3) (own_set (b := wz.heap.size) (i := 2) (own_set (b := wz.heap.size) (i := 1) (own_set (b := wz.heap.size) (i := 0) hoy (Nat.lt_succ_self _) (.int .i64 s'.a.c0)) (Nat.lt_succ_self _) (.int .i64 s'.a.c1)) (Nat.lt_succ_self _) (.int .i64 s'.a.c2)) (Nat.lt_succ_self _) (.int .i64 s'.a.c3)) (Nat.lt_succ_self _) (.int .i64 s'.a.c4)) (Nat.lt_succ_self _) (.int .i64 s'.a.c5)) (Nat.lt_succ_self _) (.int .i64 s'.b.c0)) (Nat.lt_succ_self _) (.int .i64 s'.b.c1)) (Nat.lt_succ_self _) (.int .i64 s'.b.c2)) (Nat.lt_succ_self _) (.int .i64 s'.b.c3)) (Nat.lt_succ_self _) (.int .i64 s'.b.c4)) (Nat.lt_succ_self _) (.int .i64 s'.b.c5)) (Nat.lt_succ_self _) (.int .i64 s'.w0)) (Nat.lt_succ_self _) (.int .i64 s'.w1))
      have hSz : Blk ((((((((((((((wy.setCell ⟨wz.heap.size, 0, none⟩ (.int .i64 s'.a.c0)).setCell ⟨wz.heap.size, 1, none⟩ (.int .i64 s'.a.c1)).setCell ⟨wz.heap.size, 2, none⟩ (.int .i64 s'.a.c2)).setCell ⟨wz.heap.size, 3, none⟩ (.int .i64 s'.a.c3)).setCell ⟨wz.heap.size, 4, none⟩ (.int .i64 s'.a.c4)).setCell ⟨wz.heap.size, 5, none⟩ (.int .i64 s'.a.c5)).setCell ⟨wz.heap.size, 6, none⟩ (.int .i64 s'.b.c0)).setCell ⟨wz.heap.size, 7, none⟩ (.int .i64 s'.b.c1)).setCell ⟨wz.heap.size, 8, none⟩ (.int .i64 s'.b.c2)).setCell ⟨wz.heap.size, 9, none⟩ (.int .i64 s'.b.c3)).setCell ⟨wz.heap.size, 10, none⟩ (.int .i64 s'.b.c4)).setCell ⟨wz.heap.size, 11, none⟩ (.int .i64 s'.b.c5)).setCell ⟨wz.heap.size, 12, none⟩ (.int .i64 s'.w0)).setCell ⟨wz.heap.size, 13, none⟩ (.int .i64 s'.w1)) wz.heap.size 44 #[.int .i64 s'.a.c0, .int .i64 s'.a.c1, .int .i64 s'.a.c2, .int .i64 s'.a.c3, .int .i64 s'.a.c4, .int .i64 s'.a.c5, .int .i64 s'.b.c0, .int .i64 s'.b.c1, .int .i64 s'.b.c2, .int .i64 s'.b.c3, .int .i64 s'.b.c4, .int .i64 s'.b.c5, .int .i64 s'.w0, .int .i64 s'.w1] := by
        have hh := ((((((((((((((hSy.put 0 (.int .i64 s'.a.c0)).put 1 (.int .i64 s'.a.c1)).put 2 (.int .i64 s'.a.c2)).put 3 (.int .i64 s'.a.c3)).put 4 (.int .i64 s'.a.c4)).put 5 (.int .i64 s'.a.c5)).put 6 (.int .i64 s'.b.c0)).put 7 (.int .i64 s'.b.c1)).put 8 (.int .i64 s'.b.c2)).put 9 (.int .i64 s'.b.c3)).put 10 (.int .i64 s'.b.c4)).put 11 (.int .i64 s'.b.c5)).put 12 (.int .i64 s'.w0)).put 13 (.int .i64 s'.w1))
        simpa only [List.setIfInBounds_toArray, List.set_cons_zero, List.set_cons_succ] using hh
      have hbz : Below wz.heap.size wz ((((((((((((((wy.setCell ⟨wz.heap.size, 0, none⟩ (.int .i64 s'.a.c0)).setCell ⟨wz.heap.size, 1, none⟩ (.int .i64 s'.a.c1)).setCell ⟨wz.heap.size, 2, none⟩ (.int .i64 s'.a.c2)).setCell ⟨wz.heap.size, 3, none⟩ (.int .i64 s'.a.c3)).setCell ⟨wz.heap.size, 4, none⟩ (.int .i64 s'.a.c4)).setCell ⟨wz.heap.size, 5, none⟩ (.int .i64 s'.a.c5)).setCell ⟨wz.heap.size, 6, none⟩ (.int .i64 s'.b.c0)).setCell ⟨wz.heap.size, 7, none⟩ (.int .i64 s'.b.c1)).setCell ⟨wz.heap.size, 8, none⟩ (.int .i64 s'.b.c2)).setCell ⟨wz.heap.size, 9, none⟩ (.int .i64 s'.b.c3)).setCell ⟨wz.heap.size, 10, none⟩ (.int .i64 s'.b.c4)).setCell ⟨wz.heap.size, 11, none⟩ (.int .i64 s'.b.c5)).setCell ⟨wz.heap.size, 12, none⟩ (.int .i64 s'.w0)).setCell ⟨wz.heap.size, 13, none⟩ (.int .i64 s'.w1)) := ((((((((((((((hby.setCell (p := ⟨wz.heap.size, 0, none⟩) (Nat.le_refl _) (.int .i64 s'.a.c0)).setCell (p := ⟨wz.heap.size, 1, none⟩) (Nat.le_refl _) (.int .i64 s'.a.c1)).setCell (p := ⟨wz.heap.size, 2, none⟩) (Nat.le_refl _) (.int .i64 s'.a.c2)).setCell (p := ⟨wz.heap.size, 3, none⟩) (Nat.le_refl _) (.int .i64 s'.a.c3)).setCell (p := ⟨wz.heap.size, 4, none⟩) (Nat.le_refl _) (.int .i64 s'.a.c4)).setCell (p := ⟨wz.heap.size, 5, none⟩) (Nat.le_refl _) (.int .i64 s'.a.c5)).setCell (p := ⟨wz.heap.size, 6, none⟩) (Nat.le_refl _) (.int .i64 s'.b.c0)).setCell (p := ⟨wz.heap.size, 7, none⟩) (Nat.le_refl _) (.int .i64 s'.b.c1)).setCell (p := ⟨wz.heap.size, 8, none⟩) (Nat.le_refl _) (.int .i64 s'.b.c2)).setCell (p := ⟨wz.heap.size, 9, none⟩) (Nat.le_refl _) (.int .i64 s'.b.c3)).setCell (p := ⟨wz.heap.size, 10, none⟩) (Nat.le_refl _) (.int .i64 s'.b.c4)).setCell (p := ⟨wz.heap.size, 11, none⟩) (Nat.le_refl _) (.int .i64 s'.b.c5)).setCell (p := ⟨wz.heap.size, 12, none⟩) (Nat.le_refl _) (.int .i64 s'.w0)).setCell (p := ⟨wz.heap.size, 13, none⟩) (Nat.le_refl _) (.int .i64 s'.w1))
      have hsz7 : ((((((((((((((wy.setCell ⟨wz.heap.size, 0, none⟩ (.int .i64 s'.a.c0)).setCell ⟨wz.heap.size, 1, none⟩ (.int .i64 s'.a.c1)).setCell ⟨wz.heap.size, 2, none⟩ (.int .i64 s'.a.c2)).setCell ⟨wz.heap.size, 3, none⟩ (.int .i64 s'.a.c3)).setCell ⟨wz.heap.size, 4, none⟩ (.int .i64 s'.a.c4)).setCell ⟨wz.heap.size, 5, none⟩ (.int .i64 s'.a.c5)).setCell ⟨wz.heap.size, 6, none⟩ (.int .i64 s'.b.c0)).setCell ⟨wz.heap.size, 7, none⟩ (.int .i64 s'.b.c1)).setCell ⟨wz.heap.size, 8, none⟩ (.int .i64 s'.b.c2)).setCell ⟨wz.heap.size, 9, none⟩ (.int .i64 s'.b.c3)).setCell ⟨wz.heap.size, 10, none⟩ (.int .i64 s'.b.c4)).setCell ⟨wz.heap.size, 11, none⟩ (.int .i64 s'.b.c5)).setCell ⟨wz.heap.size, 12, none⟩ (.int .i64 s'.w0)).setCell ⟨wz.heap.size, 13, none⟩ (.int .i64 s'.w1)).heap.size = wy.heap.size := by simp [World.setCell]
      have hsz9 : wz.heap.size + 1 ≤ ((((((((((((((wy.setCell ⟨wz.heap.size, 0, none⟩ (.int .i64 s'.a.c0)).setCell ⟨wz.heap.size, 1, none⟩ (.int .i64 s'.a.c1)).setCell ⟨wz.heap.size, 2, none⟩ (.int .i64 s'.a.c2)).setCell ⟨wz.heap.size, 3, none⟩ (.int .i64 s'.a.c3)).setCell ⟨wz.heap.size, 4, none⟩ (.int .i64 s'.a.c4)).setCell ⟨wz.heap.size, 5, none⟩ (.int .i64 s'.a.c5)).setCell ⟨wz.heap.size, 6, none⟩ (.int .i64 s'.b.c0)).setCell ⟨wz.heap.size, 7, none⟩ (.int .i64 s'.b.c1)).setCell ⟨wz.heap.size, 8, none⟩ (.int .i64 s'.b.c2)).setCell ⟨wz.heap.size, 9, none⟩ (.int .i64 s'.b.c3)).setCell ⟨wz.heap.size, 10, none⟩ (.int .i64 s'.b.c4)).setCell ⟨wz.heap.size, 11, none⟩ (.int .i64 s'.b.c5)).setCell ⟨wz.heap.size, 12, none⟩ (.int .i64 s'.w0)).setCell ⟨wz.heap.size, 13, none⟩ (.int .i64 s'.w1)).heap.size := hSz.lt
      clear hoy hSy hby
      go_wp2_with (at_builtin; generalize ((((((((((((((wy.setCell ⟨wz.heap.size, 0, none⟩ (.int .i64 s'.a.c0)).setCell ⟨wz.heap.size, 1, none⟩ (.int .i64 s'.a.c1)).setCell ⟨wz.heap.size, 2, none⟩ (.int .i64 s'.a.c2)).setCell ⟨wz.heap.size, 3, none⟩ (.int .i64 s'.a.c3)).setCell ⟨wz.heap.size, 4, none⟩ (.int .i64 s'.a.c4)).setCell ⟨wz.heap.size, 5, none⟩ (.int .i64 s'.a.c5)).setCell ⟨wz.heap.size, 6, none⟩ (.int .i64 s'.b.c0)).setCell ⟨wz.heap.size, 7, none⟩ (.int .i64 s'.b.c1)).setCell ⟨wz.heap.size, 8, none⟩ (.int .i64 s'.b.c2)).setCell ⟨wz.heap.size, 9, none⟩ (.int .i64 s'.b.c3)).setCell ⟨wz.heap.size, 10, none⟩ (.int .i64 s'.b.c4)).setCell ⟨wz.heap.size, 11, none⟩ (.int .i64 s'.b.c5)).setCell ⟨wz.heap.size, 12, none⟩ (.int .i64 s'.w0)).setCell ⟨wz.heap.size, 13, none⟩ (.int .i64 s'.w1)) = w7 at *; refine wpList_append_own _ rfl (.tmp 43) (.tmp 45) 39 rfl (wz.heap.size + 1) 93 i0_ (.agg #[.int .i64 0, .int .i64 0, .int .i64 0, .int .i64 0, .int .i64 0, .int .i64 0]) 6 48 Tryz.underlying39 hi hz0 hz1 hz2 rfl (by decide) (.slice ao k co) k (cellsC 6 k (dRows r f)) rfl (((hoz.alloc _).alloc _).alloc _) _ 1 1 [.int .i64 (q 0), .int .i64 (q 1), .int .i64 (q 2), .int .i64 (q 3), .int .i64 (q 4), .int .i64 (q 5)] rfl rfl (Blk.news (cs := #[.int .i64 (q 0), .int .i64 (q 1), .int .i64 (q 2), .int .i64 (q 3), .int .i64 (q 4), .int .i64 (q 5)]) (t := 93) (Blk.new' (by simp; omega))) (by simp [Value.oneCell']) (by simp only [maxLen]; omega) (by omega) (by simp; omega) ?_; intro v' w5 hown5 hgrow5 hnil; clear hnil)
      have hSn : (Value.slice ao k co).ownBlock ≠ some wz.heap.size := own_ne hoz (Nat.lt_succ_self _)
      have hS5 : Hid (Blk w5 wz.heap.size 44 #[.int .i64 (dRun r f (k + 1)).a.c0, .int .i64 (dRun r f (k + 1)).a.c1, .int .i64 (dRun r f (k + 1)).a.c2, .int .i64 (dRun r f (k + 1)).a.c3, .int .i64 (dRun r f (k + 1)).a.c4, .int .i64 (dRun r f (k + 1)).a.c5, .int .i64 (dRun r f (k + 1)).b.c0, .int .i64 (dRun r f (k + 1)).b.c1, .int .i64 (dRun r f (k + 1)).b.c2, .int .i64 (dRun r f (k + 1)).b.c3, .int .i64 (dRun r f (k + 1)).b.c4, .int .i64 (dRun r f (k + 1)).b.c5, .int .i64 (dRun r f (k + 1)).w0, .int .i64 (dRun r f (k + 1)).w1]) := by
        rw [hgo.out]
        exact (((hSz.alloc _).alloc _).alloc _).grown hgrow5 (fun e => hSn e.symm)
      have hrows : cellsC 6 (k + 1) (dRows r f) = cellsC 6 k (dRows r f) ++ [.int .i64 (q 0), .int .i64 (q 1), .int .i64 (q 2), .int .i64 (q 3), .int .i64 (q 4), .int .i64 (q 5)] := by
        rw [cellsC_succ]
        congr 1
        rw [← hq.out]
        show [Value.int .i64 (dRows r f k 0), .int .i64 (dRows r f k 1), .int .i64 (dRows r f k 2), .int .i64 (dRows r f k 3), .int .i64 (dRows r f k 4), .int .i64 (dRows r f k 5)] = _
        rw [hrow.out, hrow.out, hrow.out, hrow.out, hrow.out, hrow.out]
      have hall' : Hid (dAll r f (k + 1)) := fun t ht => by
        rcases Nat.lt_succ_iff_lt_or_eq.1 ht with h | rfl
        · exact hall.out t h
        · rw [← hx.out, ← hy.out]; exact hlx
      have hb5 := (((hbz.alloc (by omega) _).alloc (by simp; omega) _).alloc (by simp; omega) _).grown hgrow5 (by simp; omega) (fun g hg => by have := own_base hoz g hg; omega)
      go_roundw
      case rel => exact ⟨k + 1, by go_num, by omega, by rw [hrows]; exact hown5, hS5, hb5, hall'⟩
      case measure => simp [intOf]; omega
    · obtain rfl : k = n := by omega
      have hC4 : Blk wr (w.heap.size + 1) 44 #[.int .i64 0, .int .i64 0, .int .i64 0, .int .i64 0, .int .i64 0, .int .i64 0, .int .i64 0, .int .i64 0, .int .i64 0, .int .i64 0, .int .i64 0, .int .i64 0, .int .i64 0, .int .i64 0] := hB2.below hbe (by omega)
      obtain ⟨s, hs⟩ : ∃ s, Hid (dRun r f k = s) := ⟨_, rfl⟩
      have hS' := hS.out
      rw [hs.out] at hS'
      have r0 : wr.cell? ⟨wz.heap.size, 0, none⟩ = some (.int .i64 s.a.c0) := hS'.cell 0
      have t0 : wr.cell? ⟨w.heap.size + 1, 0, none⟩ = some (.int .i64 0) := hC4.cell 0
      have v0 : wr.frozen? ⟨w.heap.size + 1, 0, none⟩ = false := hC4.frozen 0
      have r1 : wr.cell? ⟨wz.heap.size, 1, none⟩ = some (.int .i64 s.a.c1) := hS'.cell 1
      have t1 : wr.cell? ⟨w.heap.size + 1, 1, none⟩ = some (.int .i64 0) := hC4.cell 1
      have v1 : wr.frozen? ⟨w.heap.size + 1, 1, none⟩ = false := hC4.frozen 1
      have r2 : wr.cell? ⟨wz.heap.size, 2, none⟩ = some (.int .i64 s.a.c2) := hS'.cell 2
      have t2 : wr.cell? ⟨w.heap.size + 1, 2, none⟩ = some (.int .i64 0) := hC4.cell 2
      have v2 : wr.frozen? ⟨w.heap.size + 1, 2, none⟩ = false := hC4.frozen 2
      have r3 : wr.cell? ⟨wz.heap.size, 3, none⟩ = some (.int .i64 s.a.c3) := hS'.cell 3
      have t3 : wr.cell? ⟨w.heap.size + 1, 3, none⟩ = some (.int .i64 0) := hC4.cell 3
      have v3 : wr.frozen? ⟨w.heap.size + 1, 3, none⟩ = false := hC4.frozen 3
      have r4 : wr.cell? ⟨wz.heap.size, 4, none⟩ = some (.int .i64 s.a.c4) := hS'.cell 4
      have t4 : wr.cell? ⟨w.heap.size + 1, 4, none⟩ = some (.int .i64 0) := hC4.cell 4
      have v4 : wr.frozen? ⟨w.heap.size + 1, 4, none⟩ = false := hC4.frozen 4
      have r5 : wr.cell? ⟨wz.heap.size, 5, none⟩ = some (.int .i64 s.a.c5) := hS'.cell 5
      have t5 : wr.cell? ⟨w.heap.size + 1, 5, none⟩ = some (.int .i64 0) := hC4.cell 5
      have v5 : wr.frozen? ⟨w.heap.size + 1, 5, none⟩ = false := hC4.frozen 5
      have r6 : wr.cell? ⟨wz.heap.size, 6, none⟩ = some (.int .i64 s.b.c0) := hS'.cell 6
      have t6 : wr.cell? ⟨w.heap.size + 1, 6, none⟩ = some (.int .i64 0) := hC4.cell 6
      have v6 : wr.frozen? ⟨w.heap.size + 1, 6, none⟩ = false := hC4.frozen 6
      have r7 : wr.cell? ⟨wz.heap.size, 7, none⟩ = some (.int .i64 s.b.c1) := hS'.cell 7
      have t7 : wr.cell? ⟨w.heap.size + 1, 7, none⟩ = some (.int .i64 0) := hC4.cell 7
      have v7 : wr.frozen? ⟨w.heap.size + 1, 7, none⟩ = false := hC4.frozen 7
      have r8 : wr.cell? ⟨wz.heap.size, 8, none⟩ = some (.int .i64 s.b.c2) := hS'.cell 8
      have t8 : wr.cell? ⟨w.heap.size + 1, 8, none⟩ = some (.int .i64 0) := hC4.cell 8
      have v8 : wr.frozen? ⟨w.heap.size + 1, 8, none⟩ = false := hC4.frozen 8
      have r9 : wr.cell? ⟨wz.heap.size, 9, none⟩ = some (.int .i64 s.b.c3) := hS'.cell 9
      have t9 : wr.cell? ⟨w.heap.size + 1, 9, none⟩ = some (.int .i64 0) := hC4.cell 9
      have v9 : wr.frozen? ⟨w.heap.size + 1, 9, none⟩ = false := hC4.frozen 9
      have r10 : wr.cell? ⟨wz.heap.size, 10, none⟩ = some (.int .i64 s.b.c4) := hS'.cell 10
      have t10 : wr.cell? ⟨w.heap.size + 1, 10, none⟩ = some (.int .i64 0) := hC4.cell 10
      have v10 : wr.frozen? ⟨w.heap.size + 1, 10, none⟩ = false := hC4.frozen 10
      have r11 : wr.cell? ⟨wz.heap.size, 11, none⟩ = some (.int .i64 s.b.c5) := hS'.cell 11
      have t11 : wr.cell? ⟨w.heap.size + 1, 11, none⟩ = some (.int .i64 0) := hC4.cell 11
      have v11 : wr.frozen? ⟨w.heap.size + 1, 11, none⟩ = false := hC4.frozen 11
      have r12 : wr.cell? ⟨wz.heap.size, 12, none⟩ = some (.int .i64 s.w0) := hS'.cell 12
      have t12 : wr.cell? ⟨w.heap.size + 1, 12, none⟩ = some (.int .i64 0) := hC4.cell 12
      have v12 : wr.frozen? ⟨w.heap.size + 1, 12, none⟩ = false := hC4.frozen 12
      have r13 : wr.cell? ⟨wz.heap.size, 13, none⟩ = some (.int .i64 s.w1) := hS'.cell 13
      have t13 : wr.cell? ⟨w.heap.size + 1, 13, none⟩ = some (.int .i64 0) := hC4.cell 13
      have v13 : wr.frozen? ⟨w.heap.size + 1, 13, none⟩ = false := hC4.frozen 13
      have hown' := hown
      go_wp2_with fail
      go_region
      have hX1 : Blk ((((((((((((((wr.setCell ⟨w.heap.size + 1, 0, none⟩ (.int .i64 s.a.c0)).setCell ⟨w.heap.size + 1, 1, none⟩ (.int .i64 s.a.c1)).setCell ⟨w.heap.size + 1, 2, none⟩ (.int .i64 s.a.c2)).setCell ⟨w.heap.size + 1, 3, none⟩ (.int .i64 s.a.c3)).setCell ⟨w.heap.size + 1, 4, none⟩ (.int .i64 s.a.c4)).setCell ⟨w.heap.size + 1, 5, none⟩ (.int .i64 s.a.c5)).setCell ⟨w.heap.size + 1, 6, none⟩ (.int .i64 s.b.c0)).setCell ⟨w.heap.size + 1, 7, none⟩ (.int .i64 s.b.c1)).setCell ⟨w.heap.size + 1, 8, none⟩ (.int .i64 s.b.c2)).setCell ⟨w.heap.size + 1, 9, none⟩ (.int .i64 s.b.c3)).setCell ⟨w.heap.size + 1, 10, none⟩ (.int .i64 s.b.c4)).setCell ⟨w.heap.size + 1, 11, none⟩ (.int .i64 s.b.c5)).setCell ⟨w.heap.size + 1, 12, none⟩ (.int .i64 s.w0)).setCell ⟨w.heap.size + 1, 13, none⟩ (.int .i64 s.w1)) (w.heap.size + 1) 44 #[.int .i64 s.a.c0, .int .i64 s.a.c1, .int .i64 s.a.c2, .int .i64 s.a.c3, .int .i64 s.a.c4, .int .i64 s.a.c5, .int .i64 s.b.c0, .int .i64 s.b.c1, .int .i64 s.b.c2, .int .i64 s.b.c3, .int .i64 s.b.c4, .int .i64 s.b.c5, .int .i64 s.w0, .int .i64 s.w1] := by
        have hh := ((((((((((((((hC4.put 0 (.int .i64 s.a.c0)).put 1 (.int .i64 s.a.c1)).put 2 (.int .i64 s.a.c2)).put 3 (.int .i64 s.a.c3)).put 4 (.int .i64 s.a.c4)).put 5 (.int .i64 s.a.c5)).put 6 (.int .i64 s.b.c0)).put 7 (.int .i64 s.b.c1)).put 8 (.int .i64 s.b.c2)).put 9 (.int .i64 s.b.c3)).put 10 (.int .i64 s.b.c4)).put 11 (.int .i64 s.b.c5)).put 12 (.int .i64 s.w0)).put 13 (.int .i64 s.w1))
        simpa only [List.setIfInBounds_toArray, List.set_cons_zero, List.set_cons_succ] using hh
      have hX2 : ((((((((((((((wr.setCell ⟨w.heap.size + 1, 0, none⟩ (.int .i64 s.a.c0)).setCell ⟨w.heap.size + 1, 1, none⟩ (.int .i64 s.a.c1)).setCell ⟨w.heap.size + 1, 2, none⟩ (.int .i64 s.a.c2)).setCell ⟨w.heap.size + 1, 3, none⟩ (.int .i64 s.a.c3)).setCell ⟨w.heap.size + 1, 4, none⟩ (.int .i64 s.a.c4)).setCell ⟨w.heap.size + 1, 5, none⟩ (.int .i64 s.a.c5)).setCell ⟨w.heap.size + 1, 6, none⟩ (.int .i64 s.b.c0)).setCell ⟨w.heap.size + 1, 7, none⟩ (.int .i64 s.b.c1)).setCell ⟨w.heap.size + 1, 8, none⟩ (.int .i64 s.b.c2)).setCell ⟨w.heap.size + 1, 9, none⟩ (.int .i64 s.b.c3)).setCell ⟨w.heap.size + 1, 10, none⟩ (.int .i64 s.b.c4)).setCell ⟨w.heap.size + 1, 11, none⟩ (.int .i64 s.b.c5)).setCell ⟨w.heap.size + 1, 12, none⟩ (.int .i64 s.w0)).setCell ⟨w.heap.size + 1, 13, none⟩ (.int .i64 s.w1)).ownsRow (wz.heap.size + 1) 93 6 (.slice ao k co) k (cellsC 6 k (dRows r f)) := (own_set (b := w.heap.size + 1) (i := 13) (own_set (b := w.heap.size + 1) (i := 12) (own_set (b := w.heap.size + 1) (i := 11) (own_set (b := w.heap.size + 1) (i := 10) (own_set (b := w.heap.size + 1) (i := 9) (own_set (b := w.heap.size + 1) (i := 8) (own_set (b := w.heap.size + 1) (i := 7) (own_set (b := w.heap.size + 1) (i := 6) (own_set (b := w.heap.size + 1) (i := 5) (own_set (b := w.heap.size + 1) (i := 4) (own_set (b := w.heap.size + 1) (i := 3) (own_set (b := w.heap.size + 1) (i := 2) (own_set (b := w.heap.size + 1) (i := 1) (own_set (b := w.heap.size + 1) (i := 0) hown' (by omega) (.int .i64 s.a.c0)) (by omega) (.int .i64 s.a.c1)) (by omega) (.int .i64 s.a.c2)) (by omega) (.int .i64 s.a.c3)) (by omega) (.int .i64 s.a.c4)) (by omega) (.int .i64 s.a.c5)) (by omega) (.int .i64 s.b.c0)) (by omega) (.int .i64 s.b.c1)) (by omega) (.int .i64 s.b.c2)) (by omega) (.int .i64 s.b.c3)) (by omega) (.int .i64 s.b.c4)) (by omega) (.int .i64 s.b.c5)) (by omega) (.int .i64 s.w0)) (by omega) (.int .i64 s.w1))
      have hX3 : Below w.heap.size w ((((((((((((((wr.setCell ⟨w.heap.size + 1, 0, none⟩ (.int .i64 s.a.c0)).setCell ⟨w.heap.size + 1, 1, none⟩ (.int .i64 s.a.c1)).setCell ⟨w.heap.size + 1, 2, none⟩ (.int .i64 s.a.c2)).setCell ⟨w.heap.size + 1, 3, none⟩ (.int .i64 s.a.c3)).setCell ⟨w.heap.size + 1, 4, none⟩ (.int .i64 s.a.c4)).setCell ⟨w.heap.size + 1, 5, none⟩ (.int .i64 s.a.c5)).setCell ⟨w.heap.size + 1, 6, none⟩ (.int .i64 s.b.c0)).setCell ⟨w.heap.size + 1, 7, none⟩ (.int .i64 s.b.c1)).setCell ⟨w.heap.size + 1, 8, none⟩ (.int .i64 s.b.c2)).setCell ⟨w.heap.size + 1, 9, none⟩ (.int .i64 s.b.c3)).setCell ⟨w.heap.size + 1, 10, none⟩ (.int .i64 s.b.c4)).setCell ⟨w.heap.size + 1, 11, none⟩ (.int .i64 s.b.c5)).setCell ⟨w.heap.size + 1, 12, none⟩ (.int .i64 s.w0)).setCell ⟨w.heap.size + 1, 13, none⟩ (.int .i64 s.w1)) := (((((((((((((((hmz.trans (hbe.mono hmzs)).setCell (p := ⟨w.heap.size + 1, 0, none⟩) (by dsimp only; omega) (.int .i64 s.a.c0)).setCell (p := ⟨w.heap.size + 1, 1, none⟩) (by dsimp only; omega) (.int .i64 s.a.c1)).setCell (p := ⟨w.heap.size + 1, 2, none⟩) (by dsimp only; omega) (.int .i64 s.a.c2)).setCell (p := ⟨w.heap.size + 1, 3, none⟩) (by dsimp only; omega) (.int .i64 s.a.c3)).setCell (p := ⟨w.heap.size + 1, 4, none⟩) (by dsimp only; omega) (.int .i64 s.a.c4)).setCell (p := ⟨w.heap.size + 1, 5, none⟩) (by dsimp only; omega) (.int .i64 s.a.c5)).setCell (p := ⟨w.heap.size + 1, 6, none⟩) (by dsimp only; omega) (.int .i64 s.b.c0)).setCell (p := ⟨w.heap.size + 1, 7, none⟩) (by dsimp only; omega) (.int .i64 s.b.c1)).setCell (p := ⟨w.heap.size + 1, 8, none⟩) (by dsimp only; omega) (.int .i64 s.b.c2)).setCell (p := ⟨w.heap.size + 1, 9, none⟩) (by dsimp only; omega) (.int .i64 s.b.c3)).setCell (p := ⟨w.heap.size + 1, 10, none⟩) (by dsimp only; omega) (.int .i64 s.b.c4)).setCell (p := ⟨w.heap.size + 1, 11, none⟩) (by dsimp only; omega) (.int .i64 s.b.c5)).setCell (p := ⟨w.heap.size + 1, 12, none⟩) (by dsimp only; omega) (.int .i64 s.w0)).setCell (p := ⟨w.heap.size + 1, 13, none⟩) (by dsimp only; omega) (.int .i64 s.w1))
      generalize ((((((((((((((wr.setCell ⟨w.heap.size + 1, 0, none⟩ (.int .i64 s.a.c0)).setCell ⟨w.heap.size + 1, 1, none⟩ (.int .i64 s.a.c1)).setCell ⟨w.heap.size + 1, 2, none⟩ (.int .i64 s.a.c2)).setCell ⟨w.heap.size + 1, 3, none⟩ (.int .i64 s.a.c3)).setCell ⟨w.heap.size + 1, 4, none⟩ (.int .i64 s.a.c4)).setCell ⟨w.heap.size + 1, 5, none⟩ (.int .i64 s.a.c5)).setCell ⟨w.heap.size + 1, 6, none⟩ (.int .i64 s.b.c0)).setCell ⟨w.heap.size + 1, 7, none⟩ (.int .i64 s.b.c1)).setCell ⟨w.heap.size + 1, 8, none⟩ (.int .i64 s.b.c2)).setCell ⟨w.heap.size + 1, 9, none⟩ (.int .i64 s.b.c3)).setCell ⟨w.heap.size + 1, 10, none⟩ (.int .i64 s.b.c4)).setCell ⟨w.heap.size + 1, 11, none⟩ (.int .i64 s.b.c5)).setCell ⟨w.heap.size + 1, 12, none⟩ (.int .i64 s.w0)).setCell ⟨w.heap.size + 1, 13, none⟩ (.int .i64 s.w1)) = w9 at *
      have m0 : w9.cell? ⟨w.heap.size + 1, 0, none⟩ = some (.int .i64 s.a.c0) := hX1.cell 0
      have m1 : w9.cell? ⟨w.heap.size + 1, 1, none⟩ = some (.int .i64 s.a.c1) := hX1.cell 1
      have m2 : w9.cell? ⟨w.heap.size + 1, 2, none⟩ = some (.int .i64 s.a.c2) := hX1.cell 2
      have m3 : w9.cell? ⟨w.heap.size + 1, 3, none⟩ = some (.int .i64 s.a.c3) := hX1.cell 3
      have m4 : w9.cell? ⟨w.heap.size + 1, 4, none⟩ = some (.int .i64 s.a.c4) := hX1.cell 4
      have m5 : w9.cell? ⟨w.heap.size + 1, 5, none⟩ = some (.int .i64 s.a.c5) := hX1.cell 5
      have m6 : w9.cell? ⟨w.heap.size + 1, 6, none⟩ = some (.int .i64 s.b.c0) := hX1.cell 6
      have m7 : w9.cell? ⟨w.heap.size + 1, 7, none⟩ = some (.int .i64 s.b.c1) := hX1.cell 7
      have m8 : w9.cell? ⟨w.heap.size + 1, 8, none⟩ = some (.int .i64 s.b.c2) := hX1.cell 8
      have m9 : w9.cell? ⟨w.heap.size + 1, 9, none⟩ = some (.int .i64 s.b.c3) := hX1.cell 9
      have m10 : w9.cell? ⟨w.heap.size + 1, 10, none⟩ = some (.int .i64 s.b.c4) := hX1.cell 10
      have m11 : w9.cell? ⟨w.heap.size + 1, 11, none⟩ = some (.int .i64 s.b.c5) := hX1.cell 11
      have m12 : w9.cell? ⟨w.heap.size + 1, 12, none⟩ = some (.int .i64 s.w0) := hX1.cell 12
      have m13 : w9.cell? ⟨w.heap.size + 1, 13, none⟩ = some (.int .i64 s.w1) := hX1.cell 13
      go_wp2
      refine bodyPost_ret (v := .tuple #[.slice ao k co, .agg #[.int .i64 s.a.c0, .int .i64 s.a.c1, .int .i64 s.a.c2, .int .i64 s.a.c3, .int .i64 s.a.c4, .int .i64 s.a.c5, .int .i64 s.b.c0, .int .i64 s.b.c1, .int .i64 s.b.c2, .int .i64 s.b.c3, .int .i64 s.b.c4, .int .i64 s.b.c5, .int .i64 s.w0, .int .i64 s.w1], .int .i64 0]) ?_ rfl ?_
      · simp [results, Tryz.results13, go_sem, m0, m1, m2, m3, m4, m5, m6, m7, m8, m9, m10, m11, m12, m13]
      · exact ⟨ao, co, by rw [hs.out], own_base_le hX2 (by omega), hX3.drewN 1⟩
end Go.Proofs.YtgmljgcmfooniaaGreatDoor
/- DuelW -/
namespace Go
open Go.RowKit
end Go
namespace Go.Proofs.YtgmljgcmfooniaaGreatDoor
open Go.RowKit Go.Tide
theorem play_w (k0 k1 rate buf jit er : Int) (a : Option Addr) (n c : Nat) (w : World) (he : Hid (er ≠ 0)) (hc : ∀ W, Calls Tryz.prog 52 #[.agg #[.int .i64 k0, .int .i64 k1, .int .i64 rate, .int .i64 buf, .int .i64 jit]] W fun e w' => e = .returned (.int .i64 er) ∧ More W w') :
    Calls Tryz.prog 13 #[.agg #[.int .i64 k0, .int .i64 k1, .int .i64 rate, .int .i64 buf, .int .i64 jit], .slice a n c] w fun e w' => e = .returned (.tuple #[.slice none 0 0, .agg #[.int .i64 0, .int .i64 0, .int .i64 0, .int .i64 0, .int .i64 0, .int .i64 0, .int .i64 0, .int .i64 0, .int .i64 0, .int .i64 0, .int .i64 0, .int .i64 0, .int .i64 0, .int .i64 0], .int .i64 er]) ∧ More w w' := by
  have g : (er != 0) = true := by simpa using he.out
  have HC := Lib.hid hc
  clear hc
  go_enter Tryz.func13, Tryz.ntmps13
  go_wp2_with fail
  refine (start_w k0 k1 rate buf jit er _ he HC.out).mono ?_
  rintro e w1 ⟨rfl, os1, d1, rfl⟩
  go_wp2
  refine bodyPost_ret (v := .tuple #[.slice none 0 0, .agg #[.int .i64 0, .int .i64 0, .int .i64 0, .int .i64 0, .int .i64 0, .int .i64 0, .int .i64 0, .int .i64 0, .int .i64 0, .int .i64 0, .int .i64 0, .int .i64 0, .int .i64 0, .int .i64 0], .int .i64 er]) ?_ rfl ?_
  · simp [results, Tryz.results13, go_sem]
  · exact ⟨rfl, md_⟩
set_option maxRecDepth 20000 in
set_option maxHeartbeats 8000000 in
theorem play_bad (r : DRules) (a : Option Addr) (n c : Nat) (f : Nat → Nat → Int) (w : World) (hf : RowC w 2 a n f) (hn : n ≤ 1048576) (hr : r.ok) (m : Nat) (hm1 : m < n) (hall : dAll r f m) (hbad : ¬ dLate r (f m 0) (f m 1)) :
    Calls Tryz.prog 13 #[.agg #[.int .i64 r.k0, .int .i64 r.k1, .int .i64 r.rate, .int .i64 r.buf, .int .i64 r.jit], .slice a n c] w fun e w' => e = .returned (.tuple #[.slice none 0 0, .agg #[.int .i64 0, .int .i64 0, .int .i64 0, .int .i64 0, .int .i64 0, .int .i64 0, .int .i64 0, .int .i64 0, .int .i64 0, .int .i64 0, .int .i64 0, .int .i64 0, .int .i64 0, .int .i64 0], .int .i64 2]) ∧ More w w' := by
  obtain ⟨i0_, hi, hz0, hz1, hz2⟩ := info_parts roundInfo
  have HR := Lib.hid hr
  have HA := Lib.hid hall
  have HBad := Lib.hid hbad
  clear hall hbad
  have hrn := hr.2.2
  obtain ⟨m1, m2, m3, m4, m5, m6⟩ := hrn
  go_enter Tryz.func13, Tryz.ntmps13
  go_wp2_with fail
  refine (start_ok r.k0 r.k1 r.rate r.buf r.jit _ HR.out.1 HR.out.2.1 HR.out.2.2).mono ?_
  rintro e w1 ⟨rfl, os1, d1, rfl⟩
  go_wp2_with fail
  have hm : More w (((w.alloc (.cells #[.int .i64 r.k0, .int .i64 r.k1, .int .i64 r.rate, .int .i64 r.buf, .int .i64 r.jit] 32)).alloc (.cells #[.int .i64 0, .int .i64 0, .int .i64 0, .int .i64 0, .int .i64 0, .int .i64 0, .int .i64 0, .int .i64 0, .int .i64 0, .int .i64 0, .int .i64 0, .int .i64 0, .int .i64 0, .int .i64 0] 44)).more os1 d1) := md_
  have hB1 : Blk (((w.alloc (.cells #[.int .i64 r.k0, .int .i64 r.k1, .int .i64 r.rate, .int .i64 r.buf, .int .i64 r.jit] 32)).alloc (.cells #[.int .i64 0, .int .i64 0, .int .i64 0, .int .i64 0, .int .i64 0, .int .i64 0, .int .i64 0, .int .i64 0, .int .i64 0, .int .i64 0, .int .i64 0, .int .i64 0, .int .i64 0, .int .i64 0] 44)).more os1 d1) w.heap.size 32 #[.int .i64 r.k0, .int .i64 r.k1, .int .i64 r.rate, .int .i64 r.buf, .int .i64 r.jit] := bk_
  have hB2 : Blk (((w.alloc (.cells #[.int .i64 r.k0, .int .i64 r.k1, .int .i64 r.rate, .int .i64 r.buf, .int .i64 r.jit] 32)).alloc (.cells #[.int .i64 0, .int .i64 0, .int .i64 0, .int .i64 0, .int .i64 0, .int .i64 0, .int .i64 0, .int .i64 0, .int .i64 0, .int .i64 0, .int .i64 0, .int .i64 0, .int .i64 0, .int .i64 0] 44)).more os1 d1) (w.heap.size + 1) 44 #[.int .i64 0, .int .i64 0, .int .i64 0, .int .i64 0, .int .i64 0, .int .i64 0, .int .i64 0, .int .i64 0, .int .i64 0, .int .i64 0, .int .i64 0, .int .i64 0, .int .i64 0, .int .i64 0] := bk_
  have hfz : RowC (((w.alloc (.cells #[.int .i64 r.k0, .int .i64 r.k1, .int .i64 r.rate, .int .i64 r.buf, .int .i64 r.jit] 32)).alloc (.cells #[.int .i64 0, .int .i64 0, .int .i64 0, .int .i64 0, .int .i64 0, .int .i64 0, .int .i64 0, .int .i64 0, .int .i64 0, .int .i64 0, .int .i64 0, .int .i64 0, .int .i64 0, .int .i64 0] 44)).more os1 d1) 2 a n f := (by repeat (first | (with_reducible assumption) | (with_reducible exact RowC.nil) | (with_reducible apply RowC.drewN) | (with_reducible apply RowC.drew) | (with_reducible apply RowC.more) | (with_reducible apply RowC.alloc)))
  have hl : w.heap.size + 1 < (((w.alloc (.cells #[.int .i64 r.k0, .int .i64 r.k1, .int .i64 r.rate, .int .i64 r.buf, .int .i64 r.jit] 32)).alloc (.cells #[.int .i64 0, .int .i64 0, .int .i64 0, .int .i64 0, .int .i64 0, .int .i64 0, .int .i64 0, .int .i64 0, .int .i64 0, .int .i64 0, .int .i64 0, .int .i64 0, .int .i64 0, .int .i64 0] 44)).more os1 d1).heap.size := hB2.lt
  have hO0 : w.heap.size + (2 + os1.size) = (((w.alloc (.cells #[.int .i64 r.k0, .int .i64 r.k1, .int .i64 r.rate, .int .i64 r.buf, .int .i64 r.jit] 32)).alloc (.cells #[.int .i64 0, .int .i64 0, .int .i64 0, .int .i64 0, .int .i64 0, .int .i64 0, .int .i64 0, .int .i64 0, .int .i64 0, .int .i64 0, .int .i64 0, .int .i64 0, .int .i64 0, .int .i64 0] 44)).more os1 d1).heap.size := by simp; omega
  rw [hO0]
  clear hO0
  generalize (((w.alloc (.cells #[.int .i64 r.k0, .int .i64 r.k1, .int .i64 r.rate, .int .i64 r.buf, .int .i64 r.jit] 32)).alloc (.cells #[.int .i64 0, .int .i64 0, .int .i64 0, .int .i64 0, .int .i64 0, .int .i64 0, .int .i64 0, .int .i64 0, .int .i64 0, .int .i64 0, .int .i64 0, .int .i64 0, .int .i64 0, .int .i64 0] 44)).more os1 d1) = wz at *
  have hN : Hid (Blk (wz.alloc (.cells #[.int .i64 r.k0, .int .i64 1, .int .i64 (-1), .int .i64 0, .int .i64 0, .int .i64 0, .int .i64 r.k1, .int .i64 1, .int .i64 (-1), .int .i64 0, .int .i64 0, .int .i64 0, .int .i64 0, .int .i64 0] 44)) wz.heap.size 44 #[.int .i64 (dRun r f 0).a.c0, .int .i64 (dRun r f 0).a.c1, .int .i64 (dRun r f 0).a.c2, .int .i64 (dRun r f 0).a.c3, .int .i64 (dRun r f 0).a.c4, .int .i64 (dRun r f 0).a.c5, .int .i64 (dRun r f 0).b.c0, .int .i64 (dRun r f 0).b.c1, .int .i64 (dRun r f 0).b.c2, .int .i64 (dRun r f 0).b.c3, .int .i64 (dRun r f 0).b.c4, .int .i64 (dRun r f 0).b.c5, .int .i64 (dRun r f 0).w0, .int .i64 (dRun r f 0).w1]) := Blk.new wz 44 #[.int .i64 r.k0, .int .i64 1, .int .i64 (-1), .int .i64 0, .int .i64 0, .int .i64 0, .int .i64 r.k1, .int .i64 1, .int .i64 (-1), .int .i64 0, .int .i64 0, .int .i64 0, .int .i64 0, .int .i64 0]
  have hbe0 : Below wz.heap.size wz (wz.alloc (.cells #[.int .i64 r.k0, .int .i64 1, .int .i64 (-1), .int .i64 0, .int .i64 0, .int .i64 0, .int .i64 r.k1, .int .i64 1, .int .i64 (-1), .int .i64 0, .int .i64 0, .int .i64 0, .int .i64 0, .int .i64 0] 44)) := (Below.refl _ _).alloc (Nat.le_refl _) _
  have ha0 : Hid (dAll r f 0) := fun k hk => absurd hk (by omega)
  generalize wz.alloc (.cells #[.int .i64 r.k0, .int .i64 1, .int .i64 (-1), .int .i64 0, .int .i64 0, .int .i64 0, .int .i64 r.k1, .int .i64 1, .int .i64 (-1), .int .i64 0, .int .i64 0, .int .i64 0, .int .i64 0, .int .i64 0] 44) = w8 at *
  have hmz := hm.below
  have hmzs := hmz.size
  go_loopw [9, 26] (fun out i wr => ∃ k : Nat, i = .int .i64 k ∧ k ≤ m ∧ wr.ownsRow (wz.heap.size + 1) 93 6 out k (cellsC 6 k (dRows r f)) ∧ Hid (Blk wr wz.heap.size 44 #[.int .i64 (dRun r f k).a.c0, .int .i64 (dRun r f k).a.c1, .int .i64 (dRun r f k).a.c2, .int .i64 (dRun r f k).a.c3, .int .i64 (dRun r f k).a.c4, .int .i64 (dRun r f k).a.c5, .int .i64 (dRun r f k).b.c0, .int .i64 (dRun r f k).b.c1, .int .i64 (dRun r f k).b.c2, .int .i64 (dRun r f k).b.c3, .int .i64 (dRun r f k).b.c4, .int .i64 (dRun r f k).b.c5, .int .i64 (dRun r f k).w0, .int .i64 (dRun r f k).w1]) ∧ Below wz.heap.size wz wr ∧ Hid (dAll r f k)) (fun _ i _ => m - (intOf i).toNat)
  case atStart => exact ⟨0, rfl, Nat.zero_le _, World.ownsRow_nil _ _ _ _, hN, hbe0, ha0⟩
  case round =>
    obtain ⟨k, rfl, hk, hown, hS, hbe, hall⟩ := hrel
    obtain ⟨ao, co, hv, hco⟩ := own_sliceC hown
    subst hv
    have hsz := hbe.size
    have hSl := hS.out.lt
    by_cases hlm : k < m
    · have hlate := HA.out k hlm
      have hlt : k < n := by omega
      obtain ⟨b, off, x, y, rfl, hb, hcx, hcy, hx, hy⟩ := (hfz.below hbe (Nat.le_refl _)).at2 hlt
      have hC1 : Blk wr w.heap.size 32 #[.int .i64 r.k0, .int .i64 r.k1, .int .i64 r.rate, .int .i64 r.buf, .int .i64 r.jit] := hB1.below hbe (by omega)
      have e0 : wr.cell? ⟨w.heap.size, 0, none⟩ = some (.int .i64 r.k0) := hC1.cell 0
      have e1 : wr.cell? ⟨w.heap.size, 1, none⟩ = some (.int .i64 r.k1) := hC1.cell 1
      have e2 : wr.cell? ⟨w.heap.size, 2, none⟩ = some (.int .i64 r.rate) := hC1.cell 2
      have e3 : wr.cell? ⟨w.heap.size, 3, none⟩ = some (.int .i64 r.buf) := hC1.cell 3
      have e4 : wr.cell? ⟨w.heap.size, 4, none⟩ = some (.int .i64 r.jit) := hC1.cell 4
      have hlg : w.heap.size < wr.heap.size := by omega
      have hok := Lib.hid (run_ok HR.out k hall.out)
      have hrow : Hid (∀ j, dRows r f k j = dRow r (dRun r f k) j) := fun j => rfl
      obtain ⟨s, hs⟩ : ∃ s, Hid (dRun r f k = s) := ⟨_, rfl⟩
      rw [hs.out] at hS hok hrow
      have hS' := hS.out
      have s0 : wr.cell? ⟨wz.heap.size, 0, none⟩ = some (.int .i64 s.a.c0) := hS'.cell 0
      have s1 : wr.cell? ⟨wz.heap.size, 1, none⟩ = some (.int .i64 s.a.c1) := hS'.cell 1
      have s2 : wr.cell? ⟨wz.heap.size, 2, none⟩ = some (.int .i64 s.a.c2) := hS'.cell 2
      have s3 : wr.cell? ⟨wz.heap.size, 3, none⟩ = some (.int .i64 s.a.c3) := hS'.cell 3
      have s4 : wr.cell? ⟨wz.heap.size, 4, none⟩ = some (.int .i64 s.a.c4) := hS'.cell 4
      have s5 : wr.cell? ⟨wz.heap.size, 5, none⟩ = some (.int .i64 s.a.c5) := hS'.cell 5
      have s6 : wr.cell? ⟨wz.heap.size, 6, none⟩ = some (.int .i64 s.b.c0) := hS'.cell 6
      have s7 : wr.cell? ⟨wz.heap.size, 7, none⟩ = some (.int .i64 s.b.c1) := hS'.cell 7
      have s8 : wr.cell? ⟨wz.heap.size, 8, none⟩ = some (.int .i64 s.b.c2) := hS'.cell 8
      have s9 : wr.cell? ⟨wz.heap.size, 9, none⟩ = some (.int .i64 s.b.c3) := hS'.cell 9
      have s10 : wr.cell? ⟨wz.heap.size, 10, none⟩ = some (.int .i64 s.b.c4) := hS'.cell 10
      have s11 : wr.cell? ⟨wz.heap.size, 11, none⟩ = some (.int .i64 s.b.c5) := hS'.cell 11
      have s12 : wr.cell? ⟨wz.heap.size, 12, none⟩ = some (.int .i64 s.w0) := hS'.cell 12
      have s13 : wr.cell? ⟨wz.heap.size, 13, none⟩ = some (.int .i64 s.w1) := hS'.cell 13
      have hlx : dLate r x y := by rw [hx.out, hy.out]; exact hlate
      obtain ⟨s', hs'⟩ : ∃ s', Hid (dGo r s x y = s') := ⟨_, rfl⟩
      obtain ⟨q, hq⟩ : ∃ q, Hid (dRow r s = q) := ⟨_, rfl⟩
      go_wp2_with fail
      refine (step_go r s x y _ HR.out hok.out hlx s' hs' q hq).mono ?_
      rintro e w1 ⟨rfl, os2, d2, rfl⟩
      have hgo : Hid (dRun r f (k + 1) = s') := by show dGo r (dRun r f k) (f k 0) (f k 1) = s'; rw [hs.out, ← hx.out, ← hy.out]; exact hs'.out
      have hwy : ((wr.alloc (.cells #[.int .i64 x, .int .i64 y] 30)).more os2 d2).heap.size = wr.heap.size + (1 + os2.size) := by simp; omega
      have hoy : ((wr.alloc (.cells #[.int .i64 x, .int .i64 y] 30)).more os2 d2).ownsRow (wz.heap.size + 1) 93 6 (.slice ao k co) k (cellsC 6 k (dRows r f)) := own_more (hown.alloc _) _ _
      have hSy : Blk ((wr.alloc (.cells #[.int .i64 x, .int .i64 y] 30)).more os2 d2) wz.heap.size 44 #[.int .i64 s.a.c0, .int .i64 s.a.c1, .int .i64 s.a.c2, .int .i64 s.a.c3, .int .i64 s.a.c4, .int .i64 s.a.c5, .int .i64 s.b.c0, .int .i64 s.b.c1, .int .i64 s.b.c2, .int .i64 s.b.c3, .int .i64 s.b.c4, .int .i64 s.b.c5, .int .i64 s.w0, .int .i64 s.w1] := (hS'.alloc _).more _ _
      have hby : Below wz.heap.size wz ((wr.alloc (.cells #[.int .i64 x, .int .i64 y] 30)).more os2 d2) := (hbe.alloc hsz _).more (by simp; omega) _ _

      have hszy : wz.heap.size < ((wr.alloc (.cells #[.int .i64 x, .int .i64 y] 30)).more os2 d2).heap.size := by omega
      clear hown hS hS' hbe hC1 e0 e1 e2 e3 e4 s0 s1 s2 s3 s4 s5 s6 s7 s8 s9 s10 s11 s12 s13 hwy
      generalize ((wr.alloc (.cells #[.int .i64 x, .int .i64 y] 30)).more os2 d2) = wy at *
      have s0 : wy.cell? ⟨wz.heap.size, 0, none⟩ = some (.int .i64 s.a.c0) := hSy.cell 0
      have t0 : wy.frozen? ⟨wz.heap.size, 0, none⟩ = false := hSy.frozen 0
      have s1 : wy.cell? ⟨wz.heap.size, 1, none⟩ = some (.int .i64 s.a.c1) := hSy.cell 1
      have t1 : wy.frozen? ⟨wz.heap.size, 1, none⟩ = false := hSy.frozen 1
      have s2 : wy.cell? ⟨wz.heap.size, 2, none⟩ = some (.int .i64 s.a.c2) := hSy.cell 2
      have t2 : wy.frozen? ⟨wz.heap.size, 2, none⟩ = false := hSy.frozen 2
      have s3 : wy.cell? ⟨wz.heap.size, 3, none⟩ = some (.int .i64 s.a.c3) := hSy.cell 3
      have t3 : wy.frozen? ⟨wz.heap.size, 3, none⟩ = false := hSy.frozen 3
      have s4 : wy.cell? ⟨wz.heap.size, 4, none⟩ = some (.int .i64 s.a.c4) := hSy.cell 4
      have t4 : wy.frozen? ⟨wz.heap.size, 4, none⟩ = false := hSy.frozen 4
      have s5 : wy.cell? ⟨wz.heap.size, 5, none⟩ = some (.int .i64 s.a.c5) := hSy.cell 5
      have t5 : wy.frozen? ⟨wz.heap.size, 5, none⟩ = false := hSy.frozen 5
      have s6 : wy.cell? ⟨wz.heap.size, 6, none⟩ = some (.int .i64 s.b.c0) := hSy.cell 6
      have t6 : wy.frozen? ⟨wz.heap.size, 6, none⟩ = false := hSy.frozen 6
      have s7 : wy.cell? ⟨wz.heap.size, 7, none⟩ = some (.int .i64 s.b.c1) := hSy.cell 7
      have t7 : wy.frozen? ⟨wz.heap.size, 7, none⟩ = false := hSy.frozen 7
      have s8 : wy.cell? ⟨wz.heap.size, 8, none⟩ = some (.int .i64 s.b.c2) := hSy.cell 8
      have t8 : wy.frozen? ⟨wz.heap.size, 8, none⟩ = false := hSy.frozen 8
      have s9 : wy.cell? ⟨wz.heap.size, 9, none⟩ = some (.int .i64 s.b.c3) := hSy.cell 9
      have t9 : wy.frozen? ⟨wz.heap.size, 9, none⟩ = false := hSy.frozen 9
      have s10 : wy.cell? ⟨wz.heap.size, 10, none⟩ = some (.int .i64 s.b.c4) := hSy.cell 10
      have t10 : wy.frozen? ⟨wz.heap.size, 10, none⟩ = false := hSy.frozen 10
      have s11 : wy.cell? ⟨wz.heap.size, 11, none⟩ = some (.int .i64 s.b.c5) := hSy.cell 11
      have t11 : wy.frozen? ⟨wz.heap.size, 11, none⟩ = false := hSy.frozen 11
      have s12 : wy.cell? ⟨wz.heap.size, 12, none⟩ = some (.int .i64 s.w0) := hSy.cell 12
      have t12 : wy.frozen? ⟨wz.heap.size, 12, none⟩ = false := hSy.frozen 12
      have s13 : wy.cell? ⟨wz.heap.size, 13, none⟩ = some (.int .i64 s.w1) := hSy.cell 13
      have t13 : wy.frozen? ⟨wz.heap.size, 13, none⟩ = false := hSy.frozen 13
      have hoz : ((((((((((((((wy.setCell ⟨wz.heap.size, 0, none⟩ (.int .i64 s'.a.c0)).setCell ⟨wz.heap.size, 1, none⟩ (.int .i64 s'.a.c1)).setCell ⟨wz.heap.size, 2, none⟩ (.int .i64 s'.a.c2)).setCell ⟨wz.heap.size, 3, none⟩ (.int .i64 s'.a.c3)).setCell ⟨wz.heap.size, 4, none⟩ (.int .i64 s'.a.c4)).setCell ⟨wz.heap.size, 5, none⟩ (.int .i64 s'.a.c5)).setCell ⟨wz.heap.size, 6, none⟩ (.int .i64 s'.b.c0)).setCell ⟨wz.heap.size, 7, none⟩ (.int .i64 s'.b.c1)).setCell ⟨wz.heap.size, 8, none⟩ (.int .i64 s'.b.c2)).setCell ⟨wz.heap.size, 9, none⟩ (.int .i64 s'.b.c3)).setCell ⟨wz.heap.size, 10, none⟩ (.int .i64 s'.b.c4)).setCell ⟨wz.heap.size, 11, none⟩ (.int .i64 s'.b.c5)).setCell ⟨wz.heap.size, 12, none⟩ (.int .i64 s'.w0)).setCell ⟨wz.heap.size, 13, none⟩ (.int .i64 s'.w1)).ownsRow (wz.heap.size + 1) 93 6 (.slice ao k co) k (cellsC 6 k (dRows r f)) := (own_set (b := wz.heap.size) (i := 13) (own_set (b := wz.heap.size) (i := 12) (own_set (b := wz.heap.size) (i := 11) (own_set (b := wz.heap.size) (i := 10) (own_set (b := wz.heap.size) (i := 9) (own_set (b := wz.heap.size) (i := 8) (own_set (b := wz.heap.size) (i := 7) (own_set (b := wz.heap.size) (i := 6) (own_set (b := wz.heap.size) (i := 5) (own_set (b := wz.heap.size) (i := 4) (own_set (b := wz.heap.size) (i := 3) (own_set (b := wz.heap.size) (i := 2) (own_set (b := wz.heap.size) (i := 1) (own_set (b := wz.heap.size) (i := 0) hoy (Nat.lt_succ_self _) (.int .i64 s'.a.c0)) (Nat.lt_succ_self _) (.int .i64 s'.a.c1)) (Nat.lt_succ_self _) (.int .i64 s'.a.c2)) (Nat.lt_succ_self _) (.int .i64 s'.a.c3)) (Nat.lt_succ_self _) (.int .i64 s'.a.c4)) (Nat.lt_succ_self _) (.int .i64 s'.a.c5)) (Nat.lt_succ_self _) (.int .i64 s'.b.c0)) (Nat.lt_succ_self _) (.int .i64 s'.b.c1)) (Nat.lt_succ_self _) (.int .i64 s'.b.c2)) (Nat.lt_succ_self _) (.int .i64 s'.b.c3)) (Nat.lt_succ_self _) (.int .i64 s'.b.c4)) (Nat.lt_succ_self _) (.int .i64 s'.b.c5)) (Nat.lt_succ_self _) (.int .i64 s'.w0)) (Nat.lt_succ_self _) (.int .i64 s'.w1))
      have hSz : Blk ((((((((((((((wy.setCell ⟨wz.heap.size, 0, none⟩ (.int .i64 s'.a.c0)).setCell ⟨wz.heap.size, 1, none⟩ (.int .i64 s'.a.c1)).setCell ⟨wz.heap.size, 2, none⟩ (.int .i64 s'.a.c2)).setCell ⟨wz.heap.size, 3, none⟩ (.int .i64 s'.a.c3)).setCell ⟨wz.heap.size, 4, none⟩ (.int .i64 s'.a.c4)).setCell ⟨wz.heap.size, 5, none⟩ (.int .i64 s'.a.c5)).setCell ⟨wz.heap.size, 6, none⟩ (.int .i64 s'.b.c0)).setCell ⟨wz.heap.size, 7, none⟩ (.int .i64 s'.b.c1)).setCell ⟨wz.heap.size, 8, none⟩ (.int .i64 s'.b.c2)).setCell ⟨wz.heap.size, 9, none⟩ (.int .i64 s'.b.c3)).setCell ⟨wz.heap.size, 10, none⟩ (.int .i64 s'.b.c4)).setCell ⟨wz.heap.size, 11, none⟩ (.int .i64 s'.b.c5)).setCell ⟨wz.heap.size, 12, none⟩ (.int .i64 s'.w0)).setCell ⟨wz.heap.size, 13, none⟩ (.int .i64 s'.w1)) wz.heap.size 44 #[.int .i64 s'.a.c0, .int .i64 s'.a.c1, .int .i64 s'.a.c2, .int .i64 s'.a.c3, .int .i64 s'.a.c4, .int .i64 s'.a.c5, .int .i64 s'.b.c0, .int .i64 s'.b.c1, .int .i64 s'.b.c2, .int .i64 s'.b.c3, .int .i64 s'.b.c4, .int .i64 s'.b.c5, .int .i64 s'.w0, .int .i64 s'.w1] := by
        have hh := ((((((((((((((hSy.put 0 (.int .i64 s'.a.c0)).put 1 (.int .i64 s'.a.c1)).put 2 (.int .i64 s'.a.c2)).put 3 (.int .i64 s'.a.c3)).put 4 (.int .i64 s'.a.c4)).put 5 (.int .i64 s'.a.c5)).put 6 (.int .i64 s'.b.c0)).put 7 (.int .i64 s'.b.c1)).put 8 (.int .i64 s'.b.c2)).put 9 (.int .i64 s'.b.c3)).put 10 (.int .i64 s'.b.c4)).put 11 (.int .i64 s'.b.c5)).put 12 (.int .i64 s'.w0)).put 13 (.int .i64 s'.w1))
        simpa only [List.setIfInBounds_toArray, List.set_cons_zero, List.set_cons_succ] using hh
      have hbz : Below wz.heap.size wz ((((((((((((((wy.setCell ⟨wz.heap.size, 0, none⟩ (.int .i64 s'.a.c0)).setCell ⟨wz.heap.size, 1, none⟩ (.int .i64 s'.a.c1)).setCell ⟨wz.heap.size, 2, none⟩ (.int .i64 s'.a.c2)).setCell ⟨wz.heap.size, 3, none⟩ (.int .i64 s'.a.c3)).setCell ⟨wz.heap.size, 4, none⟩ (.int .i64 s'.a.c4)).setCell ⟨wz.heap.size, 5, none⟩ (.int .i64 s'.a.c5)).setCell ⟨wz.heap.size, 6, none⟩ (.int .i64 s'.b.c0)).setCell ⟨wz.heap.size, 7, none⟩ (.int .i64 s'.b.c1)).setCell ⟨wz.heap.size, 8, none⟩ (.int .i64 s'.b.c2)).setCell ⟨wz.heap.size, 9, none⟩ (.int .i64 s'.b.c3)).setCell ⟨wz.heap.size, 10, none⟩ (.int .i64 s'.b.c4)).setCell ⟨wz.heap.size, 11, none⟩ (.int .i64 s'.b.c5)).setCell ⟨wz.heap.size, 12, none⟩ (.int .i64 s'.w0)).setCell ⟨wz.heap.size, 13, none⟩ (.int .i64 s'.w1)) := ((((((((((((((hby.setCell (p := ⟨wz.heap.size, 0, none⟩) (Nat.le_refl _) (.int .i64 s'.a.c0)).setCell (p := ⟨wz.heap.size, 1, none⟩) (Nat.le_refl _) (.int .i64 s'.a.c1)).setCell (p := ⟨wz.heap.size, 2, none⟩) (Nat.le_refl _) (.int .i64 s'.a.c2)).setCell (p := ⟨wz.heap.size, 3, none⟩) (Nat.le_refl _) (.int .i64 s'.a.c3)).setCell (p := ⟨wz.heap.size, 4, none⟩) (Nat.le_refl _) (.int .i64 s'.a.c4)).setCell (p := ⟨wz.heap.size, 5, none⟩) (Nat.le_refl _) (.int .i64 s'.a.c5)).setCell (p := ⟨wz.heap.size, 6, none⟩) (Nat.le_refl _) (.int .i64 s'.b.c0)).setCell (p := ⟨wz.heap.size, 7, none⟩) (Nat.le_refl _) (.int .i64 s'.b.c1)).setCell (p := ⟨wz.heap.size, 8, none⟩) (Nat.le_refl _) (.int .i64 s'.b.c2)).setCell (p := ⟨wz.heap.size, 9, none⟩) (Nat.le_refl _) (.int .i64 s'.b.c3)).setCell (p := ⟨wz.heap.size, 10, none⟩) (Nat.le_refl _) (.int .i64 s'.b.c4)).setCell (p := ⟨wz.heap.size, 11, none⟩) (Nat.le_refl _) (.int .i64 s'.b.c5)).setCell (p := ⟨wz.heap.size, 12, none⟩) (Nat.le_refl _) (.int .i64 s'.w0)).setCell (p := ⟨wz.heap.size, 13, none⟩) (Nat.le_refl _) (.int .i64 s'.w1))
      have hsz7 : ((((((((((((((wy.setCell ⟨wz.heap.size, 0, none⟩ (.int .i64 s'.a.c0)).setCell ⟨wz.heap.size, 1, none⟩ (.int .i64 s'.a.c1)).setCell ⟨wz.heap.size, 2, none⟩ (.int .i64 s'.a.c2)).setCell ⟨wz.heap.size, 3, none⟩ (.int .i64 s'.a.c3)).setCell ⟨wz.heap.size, 4, none⟩ (.int .i64 s'.a.c4)).setCell ⟨wz.heap.size, 5, none⟩ (.int .i64 s'.a.c5)).setCell ⟨wz.heap.size, 6, none⟩ (.int .i64 s'.b.c0)).setCell ⟨wz.heap.size, 7, none⟩ (.int .i64 s'.b.c1)).setCell ⟨wz.heap.size, 8, none⟩ (.int .i64 s'.b.c2)).setCell ⟨wz.heap.size, 9, none⟩ (.int .i64 s'.b.c3)).setCell ⟨wz.heap.size, 10, none⟩ (.int .i64 s'.b.c4)).setCell ⟨wz.heap.size, 11, none⟩ (.int .i64 s'.b.c5)).setCell ⟨wz.heap.size, 12, none⟩ (.int .i64 s'.w0)).setCell ⟨wz.heap.size, 13, none⟩ (.int .i64 s'.w1)).heap.size = wy.heap.size := by simp [World.setCell]
      have hsz9 : wz.heap.size + 1 ≤ ((((((((((((((wy.setCell ⟨wz.heap.size, 0, none⟩ (.int .i64 s'.a.c0)).setCell ⟨wz.heap.size, 1, none⟩ (.int .i64 s'.a.c1)).setCell ⟨wz.heap.size, 2, none⟩ (.int .i64 s'.a.c2)).setCell ⟨wz.heap.size, 3, none⟩ (.int .i64 s'.a.c3)).setCell ⟨wz.heap.size, 4, none⟩ (.int .i64 s'.a.c4)).setCell ⟨wz.heap.size, 5, none⟩ (.int .i64 s'.a.c5)).setCell ⟨wz.heap.size, 6, none⟩ (.int .i64 s'.b.c0)).setCell ⟨wz.heap.size, 7, none⟩ (.int .i64 s'.b.c1)).setCell ⟨wz.heap.size, 8, none⟩ (.int .i64 s'.b.c2)).setCell ⟨wz.heap.size, 9, none⟩ (.int .i64 s'.b.c3)).setCell ⟨wz.heap.size, 10, none⟩ (.int .i64 s'.b.c4)).setCell ⟨wz.heap.size, 11, none⟩ (.int .i64 s'.b.c5)).setCell ⟨wz.heap.size, 12, none⟩ (.int .i64 s'.w0)).setCell ⟨wz.heap.size, 13, none⟩ (.int .i64 s'.w1)).heap.size := hSz.lt
      clear hoy hSy hby
      go_wp2_with (at_builtin; generalize ((((((((((((((wy.setCell ⟨wz.heap.size, 0, none⟩ (.int .i64 s'.a.c0)).setCell ⟨wz.heap.size, 1, none⟩ (.int .i64 s'.a.c1)).setCell ⟨wz.heap.size, 2, none⟩ (.int .i64 s'.a.c2)).setCell ⟨wz.heap.size, 3, none⟩ (.int .i64 s'.a.c3)).setCell ⟨wz.heap.size, 4, none⟩ (.int .i64 s'.a.c4)).setCell ⟨wz.heap.size, 5, none⟩ (.int .i64 s'.a.c5)).setCell ⟨wz.heap.size, 6, none⟩ (.int .i64 s'.b.c0)).setCell ⟨wz.heap.size, 7, none⟩ (.int .i64 s'.b.c1)).setCell ⟨wz.heap.size, 8, none⟩ (.int .i64 s'.b.c2)).setCell ⟨wz.heap.size, 9, none⟩ (.int .i64 s'.b.c3)).setCell ⟨wz.heap.size, 10, none⟩ (.int .i64 s'.b.c4)).setCell ⟨wz.heap.size, 11, none⟩ (.int .i64 s'.b.c5)).setCell ⟨wz.heap.size, 12, none⟩ (.int .i64 s'.w0)).setCell ⟨wz.heap.size, 13, none⟩ (.int .i64 s'.w1)) = w7 at *; refine wpList_append_own _ rfl (.tmp 43) (.tmp 45) 39 rfl (wz.heap.size + 1) 93 i0_ (.agg #[.int .i64 0, .int .i64 0, .int .i64 0, .int .i64 0, .int .i64 0, .int .i64 0]) 6 48 Tryz.underlying39 hi hz0 hz1 hz2 rfl (by decide) (.slice ao k co) k (cellsC 6 k (dRows r f)) rfl (((hoz.alloc _).alloc _).alloc _) _ 1 1 [.int .i64 (q 0), .int .i64 (q 1), .int .i64 (q 2), .int .i64 (q 3), .int .i64 (q 4), .int .i64 (q 5)] rfl rfl (Blk.news (cs := #[.int .i64 (q 0), .int .i64 (q 1), .int .i64 (q 2), .int .i64 (q 3), .int .i64 (q 4), .int .i64 (q 5)]) (t := 93) (Blk.new' (by simp; omega))) (by simp [Value.oneCell']) (by simp only [maxLen]; omega) (by omega) (by simp; omega) ?_; intro v' w5 hown5 hgrow5 hnil; clear hnil)
      have hSn : (Value.slice ao k co).ownBlock ≠ some wz.heap.size := own_ne hoz (Nat.lt_succ_self _)
      have hS5 : Hid (Blk w5 wz.heap.size 44 #[.int .i64 (dRun r f (k + 1)).a.c0, .int .i64 (dRun r f (k + 1)).a.c1, .int .i64 (dRun r f (k + 1)).a.c2, .int .i64 (dRun r f (k + 1)).a.c3, .int .i64 (dRun r f (k + 1)).a.c4, .int .i64 (dRun r f (k + 1)).a.c5, .int .i64 (dRun r f (k + 1)).b.c0, .int .i64 (dRun r f (k + 1)).b.c1, .int .i64 (dRun r f (k + 1)).b.c2, .int .i64 (dRun r f (k + 1)).b.c3, .int .i64 (dRun r f (k + 1)).b.c4, .int .i64 (dRun r f (k + 1)).b.c5, .int .i64 (dRun r f (k + 1)).w0, .int .i64 (dRun r f (k + 1)).w1]) := by
        rw [hgo.out]
        exact (((hSz.alloc _).alloc _).alloc _).grown hgrow5 (fun e => hSn e.symm)
      have hrows : cellsC 6 (k + 1) (dRows r f) = cellsC 6 k (dRows r f) ++ [.int .i64 (q 0), .int .i64 (q 1), .int .i64 (q 2), .int .i64 (q 3), .int .i64 (q 4), .int .i64 (q 5)] := by
        rw [cellsC_succ]
        congr 1
        rw [← hq.out]
        show [Value.int .i64 (dRows r f k 0), .int .i64 (dRows r f k 1), .int .i64 (dRows r f k 2), .int .i64 (dRows r f k 3), .int .i64 (dRows r f k 4), .int .i64 (dRows r f k 5)] = _
        rw [hrow.out, hrow.out, hrow.out, hrow.out, hrow.out, hrow.out]
      have hall' : Hid (dAll r f (k + 1)) := fun t ht => by
        rcases Nat.lt_succ_iff_lt_or_eq.1 ht with h | rfl
        · exact hall.out t h
        · rw [← hx.out, ← hy.out]; exact hlx
      have hb5 := (((hbz.alloc (by omega) _).alloc (by simp; omega) _).alloc (by simp; omega) _).grown hgrow5 (by simp; omega) (fun g hg => by have := own_base hoz g hg; omega)
      go_roundw
      case rel => exact ⟨k + 1, by go_num, by omega, by rw [hrows]; exact hown5, hS5, hb5, hall'⟩
      case measure => simp [intOf]; omega
    · obtain rfl : k = m := by omega
      have hlt := hm1
      obtain ⟨b, off, x, y, rfl, hb, hcx, hcy, hx, hy⟩ := (hfz.below hbe (Nat.le_refl _)).at2 hlt
      have hC1 : Blk wr w.heap.size 32 #[.int .i64 r.k0, .int .i64 r.k1, .int .i64 r.rate, .int .i64 r.buf, .int .i64 r.jit] := hB1.below hbe (by omega)
      have e0 : wr.cell? ⟨w.heap.size, 0, none⟩ = some (.int .i64 r.k0) := hC1.cell 0
      have e1 : wr.cell? ⟨w.heap.size, 1, none⟩ = some (.int .i64 r.k1) := hC1.cell 1
      have e2 : wr.cell? ⟨w.heap.size, 2, none⟩ = some (.int .i64 r.rate) := hC1.cell 2
      have e3 : wr.cell? ⟨w.heap.size, 3, none⟩ = some (.int .i64 r.buf) := hC1.cell 3
      have e4 : wr.cell? ⟨w.heap.size, 4, none⟩ = some (.int .i64 r.jit) := hC1.cell 4
      have hlg : w.heap.size < wr.heap.size := by omega
      have hok := Lib.hid (run_ok HR.out k hall.out)
      have hrow : Hid (∀ j, dRows r f k j = dRow r (dRun r f k) j) := fun j => rfl
      obtain ⟨s, hs⟩ : ∃ s, Hid (dRun r f k = s) := ⟨_, rfl⟩
      rw [hs.out] at hS hok hrow
      have hS' := hS.out
      have s0 : wr.cell? ⟨wz.heap.size, 0, none⟩ = some (.int .i64 s.a.c0) := hS'.cell 0
      have s1 : wr.cell? ⟨wz.heap.size, 1, none⟩ = some (.int .i64 s.a.c1) := hS'.cell 1
      have s2 : wr.cell? ⟨wz.heap.size, 2, none⟩ = some (.int .i64 s.a.c2) := hS'.cell 2
      have s3 : wr.cell? ⟨wz.heap.size, 3, none⟩ = some (.int .i64 s.a.c3) := hS'.cell 3
      have s4 : wr.cell? ⟨wz.heap.size, 4, none⟩ = some (.int .i64 s.a.c4) := hS'.cell 4
      have s5 : wr.cell? ⟨wz.heap.size, 5, none⟩ = some (.int .i64 s.a.c5) := hS'.cell 5
      have s6 : wr.cell? ⟨wz.heap.size, 6, none⟩ = some (.int .i64 s.b.c0) := hS'.cell 6
      have s7 : wr.cell? ⟨wz.heap.size, 7, none⟩ = some (.int .i64 s.b.c1) := hS'.cell 7
      have s8 : wr.cell? ⟨wz.heap.size, 8, none⟩ = some (.int .i64 s.b.c2) := hS'.cell 8
      have s9 : wr.cell? ⟨wz.heap.size, 9, none⟩ = some (.int .i64 s.b.c3) := hS'.cell 9
      have s10 : wr.cell? ⟨wz.heap.size, 10, none⟩ = some (.int .i64 s.b.c4) := hS'.cell 10
      have s11 : wr.cell? ⟨wz.heap.size, 11, none⟩ = some (.int .i64 s.b.c5) := hS'.cell 11
      have s12 : wr.cell? ⟨wz.heap.size, 12, none⟩ = some (.int .i64 s.w0) := hS'.cell 12
      have s13 : wr.cell? ⟨wz.heap.size, 13, none⟩ = some (.int .i64 s.w1) := hS'.cell 13
      have hC4 : Blk wr (w.heap.size + 1) 44 #[.int .i64 0, .int .i64 0, .int .i64 0, .int .i64 0, .int .i64 0, .int .i64 0, .int .i64 0, .int .i64 0, .int .i64 0, .int .i64 0, .int .i64 0, .int .i64 0, .int .i64 0, .int .i64 0] := hB2.below hbe (by omega)
      have hlx : ¬ dLate r x y := by rw [hx.out, hy.out]; exact HBad.out
      go_wp2_with fail
      refine (step_late r s x y _ HR.out hok.out hlx).mono ?_
      rintro e w1 ⟨rfl, os2, d2, rfl⟩
      have hCy : Blk ((wr.alloc (.cells #[.int .i64 x, .int .i64 y] 30)).more os2 d2) (w.heap.size + 1) 44 #[.int .i64 0, .int .i64 0, .int .i64 0, .int .i64 0, .int .i64 0, .int .i64 0, .int .i64 0, .int .i64 0, .int .i64 0, .int .i64 0, .int .i64 0, .int .i64 0, .int .i64 0, .int .i64 0] := (hC4.alloc _).more _ _
      have hby : Below w.heap.size w ((wr.alloc (.cells #[.int .i64 x, .int .i64 y] 30)).more os2 d2) := (hmz.trans (hbe.mono hmzs)).trans (((Below.refl _ wr).alloc (Nat.le_refl _) _).more (by simp) _ _ |>.mono (by omega))
      clear hown hS hS' hbe hC1 hC4 e0 e1 e2 e3 e4 s0 s1 s2 s3 s4 s5 s6 s7 s8 s9 s10 s11 s12 s13
      generalize ((wr.alloc (.cells #[.int .i64 x, .int .i64 y] 30)).more os2 d2) = wy at *
      obtain ⟨z0, t0⟩ : ∃ z, wy.cell? ⟨w.heap.size + 1, 0, none⟩ = some z := ⟨_, hCy.cell 0⟩
      have v0 : wy.frozen? ⟨w.heap.size + 1, 0, none⟩ = false := hCy.frozen 0
      obtain ⟨z1, t1⟩ : ∃ z, wy.cell? ⟨w.heap.size + 1, 1, none⟩ = some z := ⟨_, hCy.cell 1⟩
      have v1 : wy.frozen? ⟨w.heap.size + 1, 1, none⟩ = false := hCy.frozen 1
      obtain ⟨z2, t2⟩ : ∃ z, wy.cell? ⟨w.heap.size + 1, 2, none⟩ = some z := ⟨_, hCy.cell 2⟩
      have v2 : wy.frozen? ⟨w.heap.size + 1, 2, none⟩ = false := hCy.frozen 2
      obtain ⟨z3, t3⟩ : ∃ z, wy.cell? ⟨w.heap.size + 1, 3, none⟩ = some z := ⟨_, hCy.cell 3⟩
      have v3 : wy.frozen? ⟨w.heap.size + 1, 3, none⟩ = false := hCy.frozen 3
      obtain ⟨z4, t4⟩ : ∃ z, wy.cell? ⟨w.heap.size + 1, 4, none⟩ = some z := ⟨_, hCy.cell 4⟩
      have v4 : wy.frozen? ⟨w.heap.size + 1, 4, none⟩ = false := hCy.frozen 4
      obtain ⟨z5, t5⟩ : ∃ z, wy.cell? ⟨w.heap.size + 1, 5, none⟩ = some z := ⟨_, hCy.cell 5⟩
      have v5 : wy.frozen? ⟨w.heap.size + 1, 5, none⟩ = false := hCy.frozen 5
      obtain ⟨z6, t6⟩ : ∃ z, wy.cell? ⟨w.heap.size + 1, 6, none⟩ = some z := ⟨_, hCy.cell 6⟩
      have v6 : wy.frozen? ⟨w.heap.size + 1, 6, none⟩ = false := hCy.frozen 6
      obtain ⟨z7, t7⟩ : ∃ z, wy.cell? ⟨w.heap.size + 1, 7, none⟩ = some z := ⟨_, hCy.cell 7⟩
      have v7 : wy.frozen? ⟨w.heap.size + 1, 7, none⟩ = false := hCy.frozen 7
      obtain ⟨z8, t8⟩ : ∃ z, wy.cell? ⟨w.heap.size + 1, 8, none⟩ = some z := ⟨_, hCy.cell 8⟩
      have v8 : wy.frozen? ⟨w.heap.size + 1, 8, none⟩ = false := hCy.frozen 8
      obtain ⟨z9, t9⟩ : ∃ z, wy.cell? ⟨w.heap.size + 1, 9, none⟩ = some z := ⟨_, hCy.cell 9⟩
      have v9 : wy.frozen? ⟨w.heap.size + 1, 9, none⟩ = false := hCy.frozen 9
      obtain ⟨z10, t10⟩ : ∃ z, wy.cell? ⟨w.heap.size + 1, 10, none⟩ = some z := ⟨_, hCy.cell 10⟩
      have v10 : wy.frozen? ⟨w.heap.size + 1, 10, none⟩ = false := hCy.frozen 10
      obtain ⟨z11, t11⟩ : ∃ z, wy.cell? ⟨w.heap.size + 1, 11, none⟩ = some z := ⟨_, hCy.cell 11⟩
      have v11 : wy.frozen? ⟨w.heap.size + 1, 11, none⟩ = false := hCy.frozen 11
      obtain ⟨z12, t12⟩ : ∃ z, wy.cell? ⟨w.heap.size + 1, 12, none⟩ = some z := ⟨_, hCy.cell 12⟩
      have v12 : wy.frozen? ⟨w.heap.size + 1, 12, none⟩ = false := hCy.frozen 12
      obtain ⟨z13, t13⟩ : ∃ z, wy.cell? ⟨w.heap.size + 1, 13, none⟩ = some z := ⟨_, hCy.cell 13⟩
      have v13 : wy.frozen? ⟨w.heap.size + 1, 13, none⟩ = false := hCy.frozen 13
      have hly := hCy.lt
      have hlw : w.heap.size < wy.heap.size := by omega
      generalize hR1 : w.heap.size + 1 = R1 at hCy hly t0 t1 t2 t3 t4 t5 t6 t7 t8 t9 t10 t11 t12 t13 v0 v1 v2 v3 v4 v5 v6 v7 v8 v9 v10 v11 v12 v13 ⊢
      have hR2 : w.heap.size ≤ R1 := by omega
      clear hR1
      go_upto_region 10 with fail
      have hC9 : Blk ((wy.alloc (.cells #[.int .i64 0, .int .i64 0, .int .i64 0, .int .i64 0, .int .i64 0, .int .i64 0, .int .i64 0, .int .i64 0, .int .i64 0, .int .i64 0, .int .i64 0, .int .i64 0, .int .i64 0, .int .i64 0] 44)).alloc (.cells #[.int .i64 0, .int .i64 0, .int .i64 0, .int .i64 0, .int .i64 0, .int .i64 0] 93)) R1 44 #[.int .i64 0, .int .i64 0, .int .i64 0, .int .i64 0, .int .i64 0, .int .i64 0, .int .i64 0, .int .i64 0, .int .i64 0, .int .i64 0, .int .i64 0, .int .i64 0, .int .i64 0, .int .i64 0] := (hCy.alloc _).alloc _
      have hM9 : Below w.heap.size w ((wy.alloc (.cells #[.int .i64 0, .int .i64 0, .int .i64 0, .int .i64 0, .int .i64 0, .int .i64 0, .int .i64 0, .int .i64 0, .int .i64 0, .int .i64 0, .int .i64 0, .int .i64 0, .int .i64 0, .int .i64 0] 44)).alloc (.cells #[.int .i64 0, .int .i64 0, .int .i64 0, .int .i64 0, .int .i64 0, .int .i64 0] 93)) := (hby.alloc (by have := hby.size; omega) _).alloc (by have := hby.size; simp; omega) _
      clear hCy t0 v0 t1 v1 t2 v2 t3 v3 t4 v4 t5 v5 t6 v6 t7 v7 t8 v8 t9 v9 t10 v10 t11 v11 t12 v12 t13 v13
      generalize ((wy.alloc (.cells #[.int .i64 0, .int .i64 0, .int .i64 0, .int .i64 0, .int .i64 0, .int .i64 0, .int .i64 0, .int .i64 0, .int .i64 0, .int .i64 0, .int .i64 0, .int .i64 0, .int .i64 0, .int .i64 0] 44)).alloc (.cells #[.int .i64 0, .int .i64 0, .int .i64 0, .int .i64 0, .int .i64 0, .int .i64 0] 93)) = w9 at *
      go_wp2_with (refine wpList_store_row rfl _ _ _ rfl R1 #[.int .i64 0, .int .i64 0, .int .i64 0, .int .i64 0, .int .i64 0, .int .i64 0, .int .i64 0, .int .i64 0, .int .i64 0, .int .i64 0, .int .i64 0, .int .i64 0, .int .i64 0, .int .i64 0] rfl rfl 44 #[.int .i64 0, .int .i64 0, .int .i64 0, .int .i64 0, .int .i64 0, .int .i64 0, .int .i64 0, .int .i64 0, .int .i64 0, .int .i64 0, .int .i64 0, .int .i64 0, .int .i64 0, .int .i64 0] hC9 (by kernel_rfl) rfl (by simp [Value.oneCell']) ?_)
      have hX5 : Blk (w9.setRow R1 #[.int .i64 0, .int .i64 0, .int .i64 0, .int .i64 0, .int .i64 0, .int .i64 0, .int .i64 0, .int .i64 0, .int .i64 0, .int .i64 0, .int .i64 0, .int .i64 0, .int .i64 0, .int .i64 0]) R1 44 #[.int .i64 0, .int .i64 0, .int .i64 0, .int .i64 0, .int .i64 0, .int .i64 0, .int .i64 0, .int .i64 0, .int .i64 0, .int .i64 0, .int .i64 0, .int .i64 0, .int .i64 0, .int .i64 0] := setRow_heap _ _ _ _ _ _ hC9
      have hX6 : More w (w9.setRow R1 #[.int .i64 0, .int .i64 0, .int .i64 0, .int .i64 0, .int .i64 0, .int .i64 0, .int .i64 0, .int .i64 0, .int .i64 0, .int .i64 0, .int .i64 0, .int .i64 0, .int .i64 0, .int .i64 0]) := More.of_below (below_setRow hM9 hR2 _)
      generalize w9.setRow R1 #[.int .i64 0, .int .i64 0, .int .i64 0, .int .i64 0, .int .i64 0, .int .i64 0, .int .i64 0, .int .i64 0, .int .i64 0, .int .i64 0, .int .i64 0, .int .i64 0, .int .i64 0, .int .i64 0] = w10 at *
      have m0 : w10.cell? ⟨R1, 0, none⟩ = some (.int .i64 0) := hX5.cell 0
      have m1 : w10.cell? ⟨R1, 1, none⟩ = some (.int .i64 0) := hX5.cell 1
      have m2 : w10.cell? ⟨R1, 2, none⟩ = some (.int .i64 0) := hX5.cell 2
      have m3 : w10.cell? ⟨R1, 3, none⟩ = some (.int .i64 0) := hX5.cell 3
      have m4 : w10.cell? ⟨R1, 4, none⟩ = some (.int .i64 0) := hX5.cell 4
      have m5 : w10.cell? ⟨R1, 5, none⟩ = some (.int .i64 0) := hX5.cell 5
      have m6 : w10.cell? ⟨R1, 6, none⟩ = some (.int .i64 0) := hX5.cell 6
      have m7 : w10.cell? ⟨R1, 7, none⟩ = some (.int .i64 0) := hX5.cell 7
      have m8 : w10.cell? ⟨R1, 8, none⟩ = some (.int .i64 0) := hX5.cell 8
      have m9 : w10.cell? ⟨R1, 9, none⟩ = some (.int .i64 0) := hX5.cell 9
      have m10 : w10.cell? ⟨R1, 10, none⟩ = some (.int .i64 0) := hX5.cell 10
      have m11 : w10.cell? ⟨R1, 11, none⟩ = some (.int .i64 0) := hX5.cell 11
      have m12 : w10.cell? ⟨R1, 12, none⟩ = some (.int .i64 0) := hX5.cell 12
      have m13 : w10.cell? ⟨R1, 13, none⟩ = some (.int .i64 0) := hX5.cell 13
      refine bodyPost_ret (v := .tuple #[.slice none 0 0, .agg #[.int .i64 0, .int .i64 0, .int .i64 0, .int .i64 0, .int .i64 0, .int .i64 0, .int .i64 0, .int .i64 0, .int .i64 0, .int .i64 0, .int .i64 0, .int .i64 0, .int .i64 0, .int .i64 0], .int .i64 2]) ?_ rfl ?_
      · simp [results, Tryz.results13, go_sem, m0, m1, m2, m3, m4, m5, m6, m7, m8, m9, m10, m11, m12, m13]
      · exact ⟨rfl, hX6⟩
/-- What Play answers: nothing, and what is wrong; or the rounds. -/
theorem dplay_any (r : DRules) (a : Option Addr) (n c : Nat) (f : Nat → Nat → Int) (w : World) (hf : RowC w 2 a n f) (hn : n ≤ 1048576) (hr : r.ok) (hb : ¬ dAll r f n) :
    Calls Tryz.prog 13 #[.agg #[.int .i64 r.k0, .int .i64 r.k1, .int .i64 r.rate, .int .i64 r.buf, .int .i64 r.jit], .slice a n c] w fun e w' => e = .returned (.tuple #[.slice none 0 0, .agg #[.int .i64 0, .int .i64 0, .int .i64 0, .int .i64 0, .int .i64 0, .int .i64 0, .int .i64 0, .int .i64 0, .int .i64 0, .int .i64 0, .int .i64 0, .int .i64 0, .int .i64 0, .int .i64 0], .int .i64 2]) ∧ More w w' := by
  have hex : ∃ m, m < n ∧ ¬ dLate r (f m 0) (f m 1) := by
    rcases Classical.em (∃ m, m < n ∧ ¬ dLate r (f m 0) (f m 1)) with h | h
    · exact h
    · exact absurd (fun k hk => Classical.byContradiction fun hh => h ⟨k, hk, hh⟩) hb
  obtain ⟨m, hm, hbm⟩ := hex
  induction m using Nat.strongRecOn with
  | _ m ih =>
    by_cases h : dAll r f m
    · exact play_bad r a n c f w hf hn hr m hm h hbm
    · rcases Classical.em (∃ t, t < m ∧ ¬ dLate r (f t 0) (f t 1)) with ⟨t, ht, hbt⟩ | h'
      · exact ih t ht (by omega) hbt
      · exact absurd (fun k hk => Classical.byContradiction fun hh => h' ⟨k, hk, hh⟩) h
end Go.Proofs.YtgmljgcmfooniaaGreatDoor
/- DuelX -/
namespace Go.Proofs.YtgmljgcmfooniaaGreatDoor
open Go.RowKit Go.Tide
theorem wrong_er (k0 k1 rate buf jit : Int) (h : ¬ (dKind k0 ∧ dKind k1 ∧ dNums rate buf jit)) : ∃ er : Int, Hid (er ≠ 0) ∧ ∀ W, Calls Tryz.prog 52 #[.agg #[.int .i64 k0, .int .i64 k1, .int .i64 rate, .int .i64 buf, .int .i64 jit]] W fun e w' => e = .returned (.int .i64 er) ∧ More W w' := by
  by_cases h0 : dKind k0
  · by_cases h1 : dKind k1
    · exact ⟨2, by show (2 : Int) ≠ 0; decide, fun W => wrong_nums k0 k1 rate buf jit W h0 h1 (fun hn => h ⟨h0, h1, hn⟩)⟩
    · exact ⟨5, by show (5 : Int) ≠ 0; decide, fun W => wrong_kind1 k0 k1 rate buf jit W h0 h1⟩
  · exact ⟨5, by show (5 : Int) ≠ 0; decide, fun W => wrong_kind0 k0 k1 rate buf jit W h0⟩
end Go.Proofs.YtgmljgcmfooniaaGreatDoor
