/- The duel's step where it is not to be. Conditions: none. -/
import Derived.Test.YtehlgomjgmabeaaSq
import Derived.Test.YtehlgomjgmabeaaDuelR
import Derived.Test.YtehlgomjgmabeaaDuelR2
import Derived.Laws.Tables
import Derived.Laws.Rows
set_option linter.unusedVariables false
set_option linter.unusedSimpArgs false
namespace Go.Proofs.Ytehlgomjgmabeaa
open Go.RowKit Go.Tide
set_option linter.unusedVariables false
set_option linter.unusedSimpArgs false
/-- Whether a state is right by the rules. -/
def dRight (k0 k1 rate buf jit : Int) (a0 a1 a2 a3 a4 a5 b0 b1 b2 b3 b4 b5 w0 w1 : Int) : Prop := CR k0 a0 a1 a2 a3 a4 a5 = true ∧ 0 ≤ w0 ∧ CR k1 b0 b1 b2 b3 b4 b5 = true ∧ 0 ≤ w1 ∧ w0 + w1 ≤ buf
theorem right_no (k0 k1 rate buf jit : Int) (a0 a1 a2 a3 a4 a5 b0 b1 b2 b3 b4 b5 w0 w1 : Int) (w : World) (hk0 : Hid (dKind k0)) (hk1 : Hid (dKind k1)) (hn : dNums rate buf jit) (h : ¬ dRight k0 k1 rate buf jit a0 a1 a2 a3 a4 a5 b0 b1 b2 b3 b4 b5 w0 w1) :
    Calls Try.prog 27 #[.agg #[.int .i64 k0, .int .i64 k1, .int .i64 rate, .int .i64 buf, .int .i64 jit], .agg #[.int .i64 a0, .int .i64 a1, .int .i64 a2, .int .i64 a3, .int .i64 a4, .int .i64 a5, .int .i64 b0, .int .i64 b1, .int .i64 b2, .int .i64 b3, .int .i64 b4, .int .i64 b5, .int .i64 w0, .int .i64 w1]] w fun e w' => e = .returned (.bool false) ∧ More w w' := by
  by_cases c0 : CR k0 a0 a1 a2 a3 a4 a5 = true
  · by_cases c1 : w0 < 0
    · exact right_b1 k0 k1 rate buf jit a0 a1 a2 a3 a4 a5 b0 b1 b2 b3 b4 b5 w0 w1 w hk0 hk1 hn c0 c1
    · by_cases c2 : CR k1 b0 b1 b2 b3 b4 b5 = true
      · by_cases c3 : w1 < 0
        · exact right_b3 k0 k1 rate buf jit a0 a1 a2 a3 a4 a5 b0 b1 b2 b3 b4 b5 w0 w1 w hk0 hk1 hn c0 (by omega) c2 c3
        · by_cases c4 : buf < w0 ∨ buf < w1
          · exact right_b4 k0 k1 rate buf jit a0 a1 a2 a3 a4 a5 b0 b1 b2 b3 b4 b5 w0 w1 w hk0 hk1 hn c0 (by omega) c2 (by omega) c4
          · by_cases c5 : buf < w0 + w1
            · exact right_b5 k0 k1 rate buf jit a0 a1 a2 a3 a4 a5 b0 b1 b2 b3 b4 b5 w0 w1 w hk0 hk1 hn c0 (by omega) c2 (by omega) (by omega) (by omega) c5
            · exact absurd ⟨c0, by omega, c2, by omega, by omega⟩ h
      · exact right_b2 k0 k1 rate buf jit a0 a1 a2 a3 a4 a5 b0 b1 b2 b3 b4 b5 w0 w1 w hk0 hk1 hn c0 (by omega) (Lib.hid (by simpa using c2))
  · exact right_b0 k0 k1 rate buf jit a0 a1 a2 a3 a4 a5 b0 b1 b2 b3 b4 b5 w0 w1 w hk0 hk1 hn (Lib.hid (by simpa using c0))
theorem right_yes (k0 k1 rate buf jit : Int) (a0 a1 a2 a3 a4 a5 b0 b1 b2 b3 b4 b5 w0 w1 : Int) (w : World) (hk0 : Hid (dKind k0)) (hk1 : Hid (dKind k1)) (hn : dNums rate buf jit) (h : dRight k0 k1 rate buf jit a0 a1 a2 a3 a4 a5 b0 b1 b2 b3 b4 b5 w0 w1) :
    Calls Try.prog 27 #[.agg #[.int .i64 k0, .int .i64 k1, .int .i64 rate, .int .i64 buf, .int .i64 jit], .agg #[.int .i64 a0, .int .i64 a1, .int .i64 a2, .int .i64 a3, .int .i64 a4, .int .i64 a5, .int .i64 b0, .int .i64 b1, .int .i64 b2, .int .i64 b3, .int .i64 b4, .int .i64 b5, .int .i64 w0, .int .i64 w1]] w fun e w' => e = .returned (.bool true) ∧ More w w' :=
  right_ok k0 k1 rate buf jit a0 a1 a2 a3 a4 a5 b0 b1 b2 b3 b4 b5 w0 w1 w hk0 hk1 hn h.1 h.2.1 h.2.2.1 h.2.2.2.1 h.2.2.2.2
theorem below_setRow {B g : Nat} {w w' : World} (h : Below B w w') (hg : B ≤ g) (cs : Array Value) : Below B w (w'.setRow g cs) :=
  h.trans ⟨rfl, rfl, rfl, by simp, fun k hk => setRow_other w' g k cs (by omega)⟩
theorem hsr {w : World} {g : Nat} {t : TypeId} {cs ds : Array Value} (h : Blk w (g + 1) t cs) : Blk (w.setRow g ds) (g + 1) t cs := (setRow_other w g (g + 1) ds (by omega)).trans h
theorem hsq {w : World} {g : Nat} {t : TypeId} {cs ds es : Array Value} (h : Blk w g t cs) : Blk ((w.setRow g ds).setRow (g + 1) es) g t ds := (setRow_other _ (g + 1) g es (by omega)).trans (setRow_heap _ _ _ ds _ _ h)
theorem wrong_nums (k0 k1 rate buf jit : Int) (w : World) (hk0 : Hid (dKind k0)) (hk1 : Hid (dKind k1)) (hn : ¬ dNums rate buf jit) :
    Calls Try.prog 26 #[.agg #[.int .i64 k0, .int .i64 k1, .int .i64 rate, .int .i64 buf, .int .i64 jit]] w fun e w' => e = .returned (.int .i64 2) ∧ More w w' := by
  by_cases c0 : rate < 1
  · exact wrong_n0 k0 k1 rate buf jit w hk0 hk1  c0
  by_cases c1 : 12 < rate
  · exact wrong_n1 k0 k1 rate buf jit w hk0 hk1 c0 c1
  by_cases c2 : buf < 0
  · exact wrong_n2 k0 k1 rate buf jit w hk0 hk1 c0 c1 c2
  by_cases c3 : 16 < buf
  · exact wrong_n3 k0 k1 rate buf jit w hk0 hk1 c0 c1 c2 c3
  by_cases c4 : jit < 0
  · exact wrong_n4 k0 k1 rate buf jit w hk0 hk1 c0 c1 c2 c3 c4
  by_cases c5 : 3 < jit
  · exact wrong_n5 k0 k1 rate buf jit w hk0 hk1 c0 c1 c2 c3 c4 c5
  exact absurd (by unfold dNums; omega) hn
set_option maxRecDepth 20000 in
set_option maxHeartbeats 4000000 in
theorem step_w (k0 k1 rate buf jit : Int) (a0 a1 a2 a3 a4 a5 b0 b1 b2 b3 b4 b5 w0 w1 : Int) (l0 l1 : Int) (w : World) (er : Int) (he : Hid (er ≠ 0)) (hc : ∀ W, Calls Try.prog 26 #[.agg #[.int .i64 k0, .int .i64 k1, .int .i64 rate, .int .i64 buf, .int .i64 jit]] W fun e w' => e = .returned (.int .i64 er) ∧ More W w') :
    Calls Try.prog 14 #[.agg #[.int .i64 k0, .int .i64 k1, .int .i64 rate, .int .i64 buf, .int .i64 jit], .agg #[.int .i64 a0, .int .i64 a1, .int .i64 a2, .int .i64 a3, .int .i64 a4, .int .i64 a5, .int .i64 b0, .int .i64 b1, .int .i64 b2, .int .i64 b3, .int .i64 b4, .int .i64 b5, .int .i64 w0, .int .i64 w1], .agg #[.int .i64 l0, .int .i64 l1]] w fun e w' => e = .returned (.tuple #[.agg #[.int .i64 0, .int .i64 0, .int .i64 0, .int .i64 0, .int .i64 0, .int .i64 0, .int .i64 0, .int .i64 0, .int .i64 0, .int .i64 0, .int .i64 0, .int .i64 0, .int .i64 0, .int .i64 0], .agg #[.int .i64 0, .int .i64 0, .int .i64 0, .int .i64 0, .int .i64 0, .int .i64 0], .int .i64 er]) ∧ More w w' := by
  have g : (er != 0) = true := by simpa using he.out
  have HC := Lib.hid hc
  clear hc
  go_enter Try.func14, Try.ntmps14
  go_wp2_with fail
  refine (HC.out _).mono ?_
  rintro e w1 ⟨rfl, os1, d1, rfl⟩
  go_wp2
  refine bodyPost_ret (v := .tuple #[.agg #[.int .i64 0, .int .i64 0, .int .i64 0, .int .i64 0, .int .i64 0, .int .i64 0, .int .i64 0, .int .i64 0, .int .i64 0, .int .i64 0, .int .i64 0, .int .i64 0, .int .i64 0, .int .i64 0], .agg #[.int .i64 0, .int .i64 0, .int .i64 0, .int .i64 0, .int .i64 0, .int .i64 0], .int .i64 er]) ?_ rfl ?_
  · simp [results, Try.results14, go_sem]
  · exact ⟨rfl, (by repeat (first | (with_reducible assumption) | (with_reducible exact More.refl _) | (with_reducible refine More.alloc ?_ _) | (with_reducible refine More.more ?_ _ _) | (with_reducible refine More.drewN ?_ _) | (with_reducible refine More.drew ?_)))⟩
set_option maxRecDepth 20000 in
set_option maxHeartbeats 4000000 in
theorem step_r (k0 k1 rate buf jit : Int) (a0 a1 a2 a3 a4 a5 b0 b1 b2 b3 b4 b5 w0 w1 : Int) (l0 l1 : Int) (w : World) (hk0 : Hid (dKind k0)) (hk1 : Hid (dKind k1)) (hn : dNums rate buf jit) (h : Hid (¬ dRight k0 k1 rate buf jit a0 a1 a2 a3 a4 a5 b0 b1 b2 b3 b4 b5 w0 w1)) :
    Calls Try.prog 14 #[.agg #[.int .i64 k0, .int .i64 k1, .int .i64 rate, .int .i64 buf, .int .i64 jit], .agg #[.int .i64 a0, .int .i64 a1, .int .i64 a2, .int .i64 a3, .int .i64 a4, .int .i64 a5, .int .i64 b0, .int .i64 b1, .int .i64 b2, .int .i64 b3, .int .i64 b4, .int .i64 b5, .int .i64 w0, .int .i64 w1], .agg #[.int .i64 l0, .int .i64 l1]] w fun e w' => e = .returned (.tuple #[.agg #[.int .i64 0, .int .i64 0, .int .i64 0, .int .i64 0, .int .i64 0, .int .i64 0, .int .i64 0, .int .i64 0, .int .i64 0, .int .i64 0, .int .i64 0, .int .i64 0, .int .i64 0, .int .i64 0], .agg #[.int .i64 0, .int .i64 0, .int .i64 0, .int .i64 0, .int .i64 0, .int .i64 0], .int .i64 1]) ∧ More w w' := by
  go_enter Try.func14, Try.ntmps14
  go_wp2_with fail
  refine (wrong_ok k0 k1 rate buf jit _ hk0 hk1 hn).mono ?_
  rintro e w1 ⟨rfl, os1, d1, rfl⟩
  go_wp2_with fail
  refine (right_no k0 k1 rate buf jit a0 a1 a2 a3 a4 a5 b0 b1 b2 b3 b4 b5 w0 w1 _ hk0 hk1 hn h.out).mono ?_
  rintro e w1 ⟨rfl, os2, d2, rfl⟩
  go_wp2
  refine bodyPost_ret (v := .tuple #[.agg #[.int .i64 0, .int .i64 0, .int .i64 0, .int .i64 0, .int .i64 0, .int .i64 0, .int .i64 0, .int .i64 0, .int .i64 0, .int .i64 0, .int .i64 0, .int .i64 0, .int .i64 0, .int .i64 0], .agg #[.int .i64 0, .int .i64 0, .int .i64 0, .int .i64 0, .int .i64 0, .int .i64 0], .int .i64 1]) ?_ rfl ?_
  · simp [results, Try.results14, go_sem]
  · exact ⟨rfl, (by repeat (first | (with_reducible assumption) | (with_reducible exact More.refl _) | (with_reducible refine More.alloc ?_ _) | (with_reducible refine More.more ?_ _ _) | (with_reducible refine More.drewN ?_ _) | (with_reducible refine More.drew ?_)))⟩
set_option maxRecDepth 20000 in
set_option maxHeartbeats 4000000 in
theorem step_l0 (k0 k1 rate buf jit : Int) (a0 a1 a2 a3 a4 a5 b0 b1 b2 b3 b4 b5 w0 w1 : Int) (l0 l1 : Int) (w : World) (hk0 : Hid (dKind k0)) (hk1 : Hid (dKind k1)) (hn : dNums rate buf jit) (h : Hid (dRight k0 k1 rate buf jit a0 a1 a2 a3 a4 a5 b0 b1 b2 b3 b4 b5 w0 w1)) (hl : l0 < 0) :
    Calls Try.prog 14 #[.agg #[.int .i64 k0, .int .i64 k1, .int .i64 rate, .int .i64 buf, .int .i64 jit], .agg #[.int .i64 a0, .int .i64 a1, .int .i64 a2, .int .i64 a3, .int .i64 a4, .int .i64 a5, .int .i64 b0, .int .i64 b1, .int .i64 b2, .int .i64 b3, .int .i64 b4, .int .i64 b5, .int .i64 w0, .int .i64 w1], .agg #[.int .i64 l0, .int .i64 l1]] w fun e w' => e = .returned (.tuple #[.agg #[.int .i64 0, .int .i64 0, .int .i64 0, .int .i64 0, .int .i64 0, .int .i64 0, .int .i64 0, .int .i64 0, .int .i64 0, .int .i64 0, .int .i64 0, .int .i64 0, .int .i64 0, .int .i64 0], .agg #[.int .i64 0, .int .i64 0, .int .i64 0, .int .i64 0, .int .i64 0, .int .i64 0], .int .i64 2]) ∧ More w w' := by
  have hnn := hn
  obtain ⟨n1, n2, n3, n4, n5, n6⟩ := hnn
  obtain ⟨t, i1⟩ : ∃ t, IntKind.i64.wrap (w0 + w1) = t := ⟨_, rfl⟩
  obtain ⟨dl, i2⟩ : ∃ dl, IntKind.i64.wrap (t.tdiv rate) = dl := ⟨_, rfl⟩
  have g0 : (rate == 0) = false := by simp; omega
  have u0 : decide (l0 < 0) = true := by simp; omega
  go_enter Try.func14, Try.ntmps14
  go_wp2_with fail
  refine (wrong_ok k0 k1 rate buf jit _ hk0 hk1 hn).mono ?_
  rintro e w1 ⟨rfl, os1, d1, rfl⟩
  go_wp2_with fail
  refine (right_yes k0 k1 rate buf jit a0 a1 a2 a3 a4 a5 b0 b1 b2 b3 b4 b5 w0 w1 _ hk0 hk1 hn h.out).mono ?_
  rintro e w1 ⟨rfl, os2, d2, rfl⟩
  go_wp2_with fail
  obtain ⟨wq, hG1_⟩ : ∃ W, W = ((((((((w.alloc (.cells #[.int .i64 k0, .int .i64 k1, .int .i64 rate, .int .i64 buf, .int .i64 jit] 24)).alloc (.cells #[.int .i64 a0, .int .i64 a1, .int .i64 a2, .int .i64 a3, .int .i64 a4, .int .i64 a5, .int .i64 b0, .int .i64 b1, .int .i64 b2, .int .i64 b3, .int .i64 b4, .int .i64 b5, .int .i64 w0, .int .i64 w1] 32)).alloc (.cells #[.int .i64 l0, .int .i64 l1] 22)).alloc (.cells #[.int .i64 0, .int .i64 0, .int .i64 0, .int .i64 0, .int .i64 0, .int .i64 0, .int .i64 0, .int .i64 0, .int .i64 0, .int .i64 0, .int .i64 0, .int .i64 0, .int .i64 0, .int .i64 0] 32)).alloc (.cells #[.int .i64 0, .int .i64 0, .int .i64 0, .int .i64 0, .int .i64 0, .int .i64 0] 38)).more os1 d1).more os2 d2)) := ⟨_, rfl⟩
  have hm : More w wq := (by rw [hG1_]; exact (by repeat (first | (with_reducible assumption) | (with_reducible exact More.refl _) | (with_reducible refine More.alloc ?_ _) | (with_reducible refine More.more ?_ _ _) | (with_reducible refine More.drewN ?_ _) | (with_reducible refine More.drew ?_))))
  have hB1 : Blk wq w.heap.size 24 #[.int .i64 k0, .int .i64 k1, .int .i64 rate, .int .i64 buf, .int .i64 jit] := (by rw [hG1_]; exact (by repeat (first | (with_reducible assumption) | ((with_reducible refine Blk.new' ?_); (simp [Nat.add_assoc]; done)) | (with_reducible refine Blk.alloc ?_ _) | (with_reducible refine Blk.more ?_ _ _) | (with_reducible refine Blk.drew ?_) | (with_reducible refine Blk.drewN ?_ _))))
  have hB4 : Blk wq (w.heap.size + 3) 32 #[.int .i64 0, .int .i64 0, .int .i64 0, .int .i64 0, .int .i64 0, .int .i64 0, .int .i64 0, .int .i64 0, .int .i64 0, .int .i64 0, .int .i64 0, .int .i64 0, .int .i64 0, .int .i64 0] := (by rw [hG1_]; exact (by repeat (first | (with_reducible assumption) | ((with_reducible refine Blk.new' ?_); (simp [Nat.add_assoc]; done)) | (with_reducible refine Blk.alloc ?_ _) | (with_reducible refine Blk.more ?_ _ _) | (with_reducible refine Blk.drew ?_) | (with_reducible refine Blk.drewN ?_ _))))
  have hB5 : Blk wq (w.heap.size + 4) 38 #[.int .i64 0, .int .i64 0, .int .i64 0, .int .i64 0, .int .i64 0, .int .i64 0] := (by rw [hG1_]; exact (by repeat (first | (with_reducible assumption) | ((with_reducible refine Blk.new' ?_); (simp [Nat.add_assoc]; done)) | (with_reducible refine Blk.alloc ?_ _) | (with_reducible refine Blk.more ?_ _ _) | (with_reducible refine Blk.drew ?_) | (with_reducible refine Blk.drewN ?_ _))))
  have hl := hB5.lt
  have e4 : wq.cell? ⟨w.heap.size, 4, none⟩ = some (.int .i64 jit) := hB1.cell 4
  rw [← hG1_]
  clear hG1_
  go_loopw [45] (fun i wr => ∃ j : Nat, j ≤ 0 ∧ i = .int .i64 j ∧ wr = wq) (fun i _ => 0 - (intOf i).toNat)
  case atStart => exact ⟨0, by omega, rfl, rfl⟩
  case round =>
    obtain ⟨j, hj, hi, hwr⟩ := hrel
    subst hwr
    obtain rfl : j = 0 := by omega
    have hi : _ = Value.int .i64 0 := hi
    subst hi
    go_wp2_with (first | (refine wpList_store_row rfl _ _ _ rfl (w.heap.size + 3) #[.int .i64 0, .int .i64 0, .int .i64 0, .int .i64 0, .int .i64 0, .int .i64 0, .int .i64 0, .int .i64 0, .int .i64 0, .int .i64 0, .int .i64 0, .int .i64 0, .int .i64 0, .int .i64 0] rfl rfl 32 #[.int .i64 0, .int .i64 0, .int .i64 0, .int .i64 0, .int .i64 0, .int .i64 0, .int .i64 0, .int .i64 0, .int .i64 0, .int .i64 0, .int .i64 0, .int .i64 0, .int .i64 0, .int .i64 0] hB4 (by kernel_rfl) rfl (by simp [Value.oneCell']) ?_) | (refine wpList_store_row rfl _ _ _ rfl (w.heap.size + 4) #[.int .i64 0, .int .i64 0, .int .i64 0, .int .i64 0, .int .i64 0, .int .i64 0] rfl rfl 38 #[.int .i64 0, .int .i64 0, .int .i64 0, .int .i64 0, .int .i64 0, .int .i64 0] (hsr hB5) (by kernel_rfl) rfl (by simp [Value.oneCell']) ?_))
    obtain ⟨w9, hG2_⟩ : ∃ W, W = ((wr.setRow (w.heap.size + 3) #[.int .i64 0, .int .i64 0, .int .i64 0, .int .i64 0, .int .i64 0, .int .i64 0, .int .i64 0, .int .i64 0, .int .i64 0, .int .i64 0, .int .i64 0, .int .i64 0, .int .i64 0, .int .i64 0]).setRow (w.heap.size + 4) #[.int .i64 0, .int .i64 0, .int .i64 0, .int .i64 0, .int .i64 0, .int .i64 0]) := ⟨_, rfl⟩
    have hX1 : Blk w9 (w.heap.size + 3) 32 #[.int .i64 0, .int .i64 0, .int .i64 0, .int .i64 0, .int .i64 0, .int .i64 0, .int .i64 0, .int .i64 0, .int .i64 0, .int .i64 0, .int .i64 0, .int .i64 0, .int .i64 0, .int .i64 0] := (by rw [hG2_]; exact hsq hB4)
    have hX2 : Blk w9 (w.heap.size + 4) 38 #[.int .i64 0, .int .i64 0, .int .i64 0, .int .i64 0, .int .i64 0, .int .i64 0] := (by rw [hG2_]; exact setRow_heap _ _ _ _ _ _ (hsr hB5))
    have hX3 : Below w.heap.size w w9 := (by rw [hG2_]; exact below_setRow (below_setRow hm.below (by omega) _) (by omega) _)
    rw [← hG2_]
    clear hG2_
    have m0 : w9.cell? ⟨w.heap.size + 3, 0, none⟩ = some (.int .i64 0) := Blk.cell hX1 0
    have m1 : w9.cell? ⟨w.heap.size + 3, 1, none⟩ = some (.int .i64 0) := Blk.cell hX1 1
    have m2 : w9.cell? ⟨w.heap.size + 3, 2, none⟩ = some (.int .i64 0) := Blk.cell hX1 2
    have m3 : w9.cell? ⟨w.heap.size + 3, 3, none⟩ = some (.int .i64 0) := Blk.cell hX1 3
    have m4 : w9.cell? ⟨w.heap.size + 3, 4, none⟩ = some (.int .i64 0) := Blk.cell hX1 4
    have m5 : w9.cell? ⟨w.heap.size + 3, 5, none⟩ = some (.int .i64 0) := Blk.cell hX1 5
    have m6 : w9.cell? ⟨w.heap.size + 3, 6, none⟩ = some (.int .i64 0) := Blk.cell hX1 6
    have m7 : w9.cell? ⟨w.heap.size + 3, 7, none⟩ = some (.int .i64 0) := Blk.cell hX1 7
    have m8 : w9.cell? ⟨w.heap.size + 3, 8, none⟩ = some (.int .i64 0) := Blk.cell hX1 8
    have m9 : w9.cell? ⟨w.heap.size + 3, 9, none⟩ = some (.int .i64 0) := Blk.cell hX1 9
    have m10 : w9.cell? ⟨w.heap.size + 3, 10, none⟩ = some (.int .i64 0) := Blk.cell hX1 10
    have m11 : w9.cell? ⟨w.heap.size + 3, 11, none⟩ = some (.int .i64 0) := Blk.cell hX1 11
    have m12 : w9.cell? ⟨w.heap.size + 3, 12, none⟩ = some (.int .i64 0) := Blk.cell hX1 12
    have m13 : w9.cell? ⟨w.heap.size + 3, 13, none⟩ = some (.int .i64 0) := Blk.cell hX1 13
    have o0 : w9.cell? ⟨w.heap.size + 4, 0, none⟩ = some (.int .i64 0) := Blk.cell hX2 0
    have o1 : w9.cell? ⟨w.heap.size + 4, 1, none⟩ = some (.int .i64 0) := Blk.cell hX2 1
    have o2 : w9.cell? ⟨w.heap.size + 4, 2, none⟩ = some (.int .i64 0) := Blk.cell hX2 2
    have o3 : w9.cell? ⟨w.heap.size + 4, 3, none⟩ = some (.int .i64 0) := Blk.cell hX2 3
    have o4 : w9.cell? ⟨w.heap.size + 4, 4, none⟩ = some (.int .i64 0) := Blk.cell hX2 4
    have o5 : w9.cell? ⟨w.heap.size + 4, 5, none⟩ = some (.int .i64 0) := Blk.cell hX2 5
    refine bodyPost_ret (v := .tuple #[.agg #[.int .i64 0, .int .i64 0, .int .i64 0, .int .i64 0, .int .i64 0, .int .i64 0, .int .i64 0, .int .i64 0, .int .i64 0, .int .i64 0, .int .i64 0, .int .i64 0, .int .i64 0, .int .i64 0], .agg #[.int .i64 0, .int .i64 0, .int .i64 0, .int .i64 0, .int .i64 0, .int .i64 0], .int .i64 2]) ?_ rfl ?_
    · simp [results, Try.results14, go_sem, m0, m1, m2, m3, m4, m5, m6, m7, m8, m9, m10, m11, m12, m13, o0, o1, o2, o3, o4, o5]
    · exact ⟨rfl, More.of_below hX3⟩
set_option maxRecDepth 20000 in
set_option maxHeartbeats 4000000 in
theorem step_l1 (k0 k1 rate buf jit : Int) (a0 a1 a2 a3 a4 a5 b0 b1 b2 b3 b4 b5 w0 w1 : Int) (l0 l1 : Int) (w : World) (hk0 : Hid (dKind k0)) (hk1 : Hid (dKind k1)) (hn : dNums rate buf jit) (h : Hid (dRight k0 k1 rate buf jit a0 a1 a2 a3 a4 a5 b0 b1 b2 b3 b4 b5 w0 w1)) (hl0 : 0 ≤ l0) (hl : jit < l0) :
    Calls Try.prog 14 #[.agg #[.int .i64 k0, .int .i64 k1, .int .i64 rate, .int .i64 buf, .int .i64 jit], .agg #[.int .i64 a0, .int .i64 a1, .int .i64 a2, .int .i64 a3, .int .i64 a4, .int .i64 a5, .int .i64 b0, .int .i64 b1, .int .i64 b2, .int .i64 b3, .int .i64 b4, .int .i64 b5, .int .i64 w0, .int .i64 w1], .agg #[.int .i64 l0, .int .i64 l1]] w fun e w' => e = .returned (.tuple #[.agg #[.int .i64 0, .int .i64 0, .int .i64 0, .int .i64 0, .int .i64 0, .int .i64 0, .int .i64 0, .int .i64 0, .int .i64 0, .int .i64 0, .int .i64 0, .int .i64 0, .int .i64 0, .int .i64 0], .agg #[.int .i64 0, .int .i64 0, .int .i64 0, .int .i64 0, .int .i64 0, .int .i64 0], .int .i64 2]) ∧ More w w' := by
  have hnn := hn
  obtain ⟨n1, n2, n3, n4, n5, n6⟩ := hnn
  obtain ⟨t, i1⟩ : ∃ t, IntKind.i64.wrap (w0 + w1) = t := ⟨_, rfl⟩
  obtain ⟨dl, i2⟩ : ∃ dl, IntKind.i64.wrap (t.tdiv rate) = dl := ⟨_, rfl⟩
  have g0 : (rate == 0) = false := by simp; omega
  have u0 : decide (l0 < 0) = false := by simp; omega
  have u1 : decide (jit < l0) = true := by simp; omega
  go_enter Try.func14, Try.ntmps14
  go_wp2_with fail
  refine (wrong_ok k0 k1 rate buf jit _ hk0 hk1 hn).mono ?_
  rintro e w1 ⟨rfl, os1, d1, rfl⟩
  go_wp2_with fail
  refine (right_yes k0 k1 rate buf jit a0 a1 a2 a3 a4 a5 b0 b1 b2 b3 b4 b5 w0 w1 _ hk0 hk1 hn h.out).mono ?_
  rintro e w1 ⟨rfl, os2, d2, rfl⟩
  go_wp2_with fail
  obtain ⟨wq, hG3_⟩ : ∃ W, W = ((((((((w.alloc (.cells #[.int .i64 k0, .int .i64 k1, .int .i64 rate, .int .i64 buf, .int .i64 jit] 24)).alloc (.cells #[.int .i64 a0, .int .i64 a1, .int .i64 a2, .int .i64 a3, .int .i64 a4, .int .i64 a5, .int .i64 b0, .int .i64 b1, .int .i64 b2, .int .i64 b3, .int .i64 b4, .int .i64 b5, .int .i64 w0, .int .i64 w1] 32)).alloc (.cells #[.int .i64 l0, .int .i64 l1] 22)).alloc (.cells #[.int .i64 0, .int .i64 0, .int .i64 0, .int .i64 0, .int .i64 0, .int .i64 0, .int .i64 0, .int .i64 0, .int .i64 0, .int .i64 0, .int .i64 0, .int .i64 0, .int .i64 0, .int .i64 0] 32)).alloc (.cells #[.int .i64 0, .int .i64 0, .int .i64 0, .int .i64 0, .int .i64 0, .int .i64 0] 38)).more os1 d1).more os2 d2)) := ⟨_, rfl⟩
  have hm : More w wq := (by rw [hG3_]; exact (by repeat (first | (with_reducible assumption) | (with_reducible exact More.refl _) | (with_reducible refine More.alloc ?_ _) | (with_reducible refine More.more ?_ _ _) | (with_reducible refine More.drewN ?_ _) | (with_reducible refine More.drew ?_))))
  have hB1 : Blk wq w.heap.size 24 #[.int .i64 k0, .int .i64 k1, .int .i64 rate, .int .i64 buf, .int .i64 jit] := (by rw [hG3_]; exact (by repeat (first | (with_reducible assumption) | ((with_reducible refine Blk.new' ?_); (simp [Nat.add_assoc]; done)) | (with_reducible refine Blk.alloc ?_ _) | (with_reducible refine Blk.more ?_ _ _) | (with_reducible refine Blk.drew ?_) | (with_reducible refine Blk.drewN ?_ _))))
  have hB4 : Blk wq (w.heap.size + 3) 32 #[.int .i64 0, .int .i64 0, .int .i64 0, .int .i64 0, .int .i64 0, .int .i64 0, .int .i64 0, .int .i64 0, .int .i64 0, .int .i64 0, .int .i64 0, .int .i64 0, .int .i64 0, .int .i64 0] := (by rw [hG3_]; exact (by repeat (first | (with_reducible assumption) | ((with_reducible refine Blk.new' ?_); (simp [Nat.add_assoc]; done)) | (with_reducible refine Blk.alloc ?_ _) | (with_reducible refine Blk.more ?_ _ _) | (with_reducible refine Blk.drew ?_) | (with_reducible refine Blk.drewN ?_ _))))
  have hB5 : Blk wq (w.heap.size + 4) 38 #[.int .i64 0, .int .i64 0, .int .i64 0, .int .i64 0, .int .i64 0, .int .i64 0] := (by rw [hG3_]; exact (by repeat (first | (with_reducible assumption) | ((with_reducible refine Blk.new' ?_); (simp [Nat.add_assoc]; done)) | (with_reducible refine Blk.alloc ?_ _) | (with_reducible refine Blk.more ?_ _ _) | (with_reducible refine Blk.drew ?_) | (with_reducible refine Blk.drewN ?_ _))))
  have hl := hB5.lt
  have e4 : wq.cell? ⟨w.heap.size, 4, none⟩ = some (.int .i64 jit) := hB1.cell 4
  rw [← hG3_]
  clear hG3_
  go_loopw [45] (fun i wr => ∃ j : Nat, j ≤ 0 ∧ i = .int .i64 j ∧ wr = wq) (fun i _ => 0 - (intOf i).toNat)
  case atStart => exact ⟨0, by omega, rfl, rfl⟩
  case round =>
    obtain ⟨j, hj, hi, hwr⟩ := hrel
    subst hwr
    obtain rfl : j = 0 := by omega
    have hi : _ = Value.int .i64 0 := hi
    subst hi
    go_wp2_with (first | (refine wpList_store_row rfl _ _ _ rfl (w.heap.size + 3) #[.int .i64 0, .int .i64 0, .int .i64 0, .int .i64 0, .int .i64 0, .int .i64 0, .int .i64 0, .int .i64 0, .int .i64 0, .int .i64 0, .int .i64 0, .int .i64 0, .int .i64 0, .int .i64 0] rfl rfl 32 #[.int .i64 0, .int .i64 0, .int .i64 0, .int .i64 0, .int .i64 0, .int .i64 0, .int .i64 0, .int .i64 0, .int .i64 0, .int .i64 0, .int .i64 0, .int .i64 0, .int .i64 0, .int .i64 0] hB4 (by kernel_rfl) rfl (by simp [Value.oneCell']) ?_) | (refine wpList_store_row rfl _ _ _ rfl (w.heap.size + 4) #[.int .i64 0, .int .i64 0, .int .i64 0, .int .i64 0, .int .i64 0, .int .i64 0] rfl rfl 38 #[.int .i64 0, .int .i64 0, .int .i64 0, .int .i64 0, .int .i64 0, .int .i64 0] (hsr hB5) (by kernel_rfl) rfl (by simp [Value.oneCell']) ?_))
    obtain ⟨w9, hG4_⟩ : ∃ W, W = ((wr.setRow (w.heap.size + 3) #[.int .i64 0, .int .i64 0, .int .i64 0, .int .i64 0, .int .i64 0, .int .i64 0, .int .i64 0, .int .i64 0, .int .i64 0, .int .i64 0, .int .i64 0, .int .i64 0, .int .i64 0, .int .i64 0]).setRow (w.heap.size + 4) #[.int .i64 0, .int .i64 0, .int .i64 0, .int .i64 0, .int .i64 0, .int .i64 0]) := ⟨_, rfl⟩
    have hX1 : Blk w9 (w.heap.size + 3) 32 #[.int .i64 0, .int .i64 0, .int .i64 0, .int .i64 0, .int .i64 0, .int .i64 0, .int .i64 0, .int .i64 0, .int .i64 0, .int .i64 0, .int .i64 0, .int .i64 0, .int .i64 0, .int .i64 0] := (by rw [hG4_]; exact hsq hB4)
    have hX2 : Blk w9 (w.heap.size + 4) 38 #[.int .i64 0, .int .i64 0, .int .i64 0, .int .i64 0, .int .i64 0, .int .i64 0] := (by rw [hG4_]; exact setRow_heap _ _ _ _ _ _ (hsr hB5))
    have hX3 : Below w.heap.size w w9 := (by rw [hG4_]; exact below_setRow (below_setRow hm.below (by omega) _) (by omega) _)
    rw [← hG4_]
    clear hG4_
    have m0 : w9.cell? ⟨w.heap.size + 3, 0, none⟩ = some (.int .i64 0) := Blk.cell hX1 0
    have m1 : w9.cell? ⟨w.heap.size + 3, 1, none⟩ = some (.int .i64 0) := Blk.cell hX1 1
    have m2 : w9.cell? ⟨w.heap.size + 3, 2, none⟩ = some (.int .i64 0) := Blk.cell hX1 2
    have m3 : w9.cell? ⟨w.heap.size + 3, 3, none⟩ = some (.int .i64 0) := Blk.cell hX1 3
    have m4 : w9.cell? ⟨w.heap.size + 3, 4, none⟩ = some (.int .i64 0) := Blk.cell hX1 4
    have m5 : w9.cell? ⟨w.heap.size + 3, 5, none⟩ = some (.int .i64 0) := Blk.cell hX1 5
    have m6 : w9.cell? ⟨w.heap.size + 3, 6, none⟩ = some (.int .i64 0) := Blk.cell hX1 6
    have m7 : w9.cell? ⟨w.heap.size + 3, 7, none⟩ = some (.int .i64 0) := Blk.cell hX1 7
    have m8 : w9.cell? ⟨w.heap.size + 3, 8, none⟩ = some (.int .i64 0) := Blk.cell hX1 8
    have m9 : w9.cell? ⟨w.heap.size + 3, 9, none⟩ = some (.int .i64 0) := Blk.cell hX1 9
    have m10 : w9.cell? ⟨w.heap.size + 3, 10, none⟩ = some (.int .i64 0) := Blk.cell hX1 10
    have m11 : w9.cell? ⟨w.heap.size + 3, 11, none⟩ = some (.int .i64 0) := Blk.cell hX1 11
    have m12 : w9.cell? ⟨w.heap.size + 3, 12, none⟩ = some (.int .i64 0) := Blk.cell hX1 12
    have m13 : w9.cell? ⟨w.heap.size + 3, 13, none⟩ = some (.int .i64 0) := Blk.cell hX1 13
    have o0 : w9.cell? ⟨w.heap.size + 4, 0, none⟩ = some (.int .i64 0) := Blk.cell hX2 0
    have o1 : w9.cell? ⟨w.heap.size + 4, 1, none⟩ = some (.int .i64 0) := Blk.cell hX2 1
    have o2 : w9.cell? ⟨w.heap.size + 4, 2, none⟩ = some (.int .i64 0) := Blk.cell hX2 2
    have o3 : w9.cell? ⟨w.heap.size + 4, 3, none⟩ = some (.int .i64 0) := Blk.cell hX2 3
    have o4 : w9.cell? ⟨w.heap.size + 4, 4, none⟩ = some (.int .i64 0) := Blk.cell hX2 4
    have o5 : w9.cell? ⟨w.heap.size + 4, 5, none⟩ = some (.int .i64 0) := Blk.cell hX2 5
    refine bodyPost_ret (v := .tuple #[.agg #[.int .i64 0, .int .i64 0, .int .i64 0, .int .i64 0, .int .i64 0, .int .i64 0, .int .i64 0, .int .i64 0, .int .i64 0, .int .i64 0, .int .i64 0, .int .i64 0, .int .i64 0, .int .i64 0], .agg #[.int .i64 0, .int .i64 0, .int .i64 0, .int .i64 0, .int .i64 0, .int .i64 0], .int .i64 2]) ?_ rfl ?_
    · simp [results, Try.results14, go_sem, m0, m1, m2, m3, m4, m5, m6, m7, m8, m9, m10, m11, m12, m13, o0, o1, o2, o3, o4, o5]
    · exact ⟨rfl, More.of_below hX3⟩
set_option maxRecDepth 20000 in
set_option maxHeartbeats 4000000 in
theorem step_l2 (k0 k1 rate buf jit : Int) (a0 a1 a2 a3 a4 a5 b0 b1 b2 b3 b4 b5 w0 w1 : Int) (l0 l1 : Int) (w : World) (hk0 : Hid (dKind k0)) (hk1 : Hid (dKind k1)) (hn : dNums rate buf jit) (h : Hid (dRight k0 k1 rate buf jit a0 a1 a2 a3 a4 a5 b0 b1 b2 b3 b4 b5 w0 w1)) (hl0 : 0 ≤ l0) (hl1 : l0 ≤ jit) (hl : l1 < 0) :
    Calls Try.prog 14 #[.agg #[.int .i64 k0, .int .i64 k1, .int .i64 rate, .int .i64 buf, .int .i64 jit], .agg #[.int .i64 a0, .int .i64 a1, .int .i64 a2, .int .i64 a3, .int .i64 a4, .int .i64 a5, .int .i64 b0, .int .i64 b1, .int .i64 b2, .int .i64 b3, .int .i64 b4, .int .i64 b5, .int .i64 w0, .int .i64 w1], .agg #[.int .i64 l0, .int .i64 l1]] w fun e w' => e = .returned (.tuple #[.agg #[.int .i64 0, .int .i64 0, .int .i64 0, .int .i64 0, .int .i64 0, .int .i64 0, .int .i64 0, .int .i64 0, .int .i64 0, .int .i64 0, .int .i64 0, .int .i64 0, .int .i64 0, .int .i64 0], .agg #[.int .i64 0, .int .i64 0, .int .i64 0, .int .i64 0, .int .i64 0, .int .i64 0], .int .i64 2]) ∧ More w w' := by
  have hnn := hn
  obtain ⟨n1, n2, n3, n4, n5, n6⟩ := hnn
  obtain ⟨t, i1⟩ : ∃ t, IntKind.i64.wrap (w0 + w1) = t := ⟨_, rfl⟩
  obtain ⟨dl, i2⟩ : ∃ dl, IntKind.i64.wrap (t.tdiv rate) = dl := ⟨_, rfl⟩
  have g0 : (rate == 0) = false := by simp; omega
  have u0 : decide (l0 < 0) = false := by simp; omega
  have u1 : decide (jit < l0) = false := by simp; omega
  have u2 : decide (l1 < 0) = true := by simp; omega
  go_enter Try.func14, Try.ntmps14
  go_wp2_with fail
  refine (wrong_ok k0 k1 rate buf jit _ hk0 hk1 hn).mono ?_
  rintro e w1 ⟨rfl, os1, d1, rfl⟩
  go_wp2_with fail
  refine (right_yes k0 k1 rate buf jit a0 a1 a2 a3 a4 a5 b0 b1 b2 b3 b4 b5 w0 w1 _ hk0 hk1 hn h.out).mono ?_
  rintro e w1 ⟨rfl, os2, d2, rfl⟩
  go_wp2_with fail
  obtain ⟨wq, hG5_⟩ : ∃ W, W = ((((((((w.alloc (.cells #[.int .i64 k0, .int .i64 k1, .int .i64 rate, .int .i64 buf, .int .i64 jit] 24)).alloc (.cells #[.int .i64 a0, .int .i64 a1, .int .i64 a2, .int .i64 a3, .int .i64 a4, .int .i64 a5, .int .i64 b0, .int .i64 b1, .int .i64 b2, .int .i64 b3, .int .i64 b4, .int .i64 b5, .int .i64 w0, .int .i64 w1] 32)).alloc (.cells #[.int .i64 l0, .int .i64 l1] 22)).alloc (.cells #[.int .i64 0, .int .i64 0, .int .i64 0, .int .i64 0, .int .i64 0, .int .i64 0, .int .i64 0, .int .i64 0, .int .i64 0, .int .i64 0, .int .i64 0, .int .i64 0, .int .i64 0, .int .i64 0] 32)).alloc (.cells #[.int .i64 0, .int .i64 0, .int .i64 0, .int .i64 0, .int .i64 0, .int .i64 0] 38)).more os1 d1).more os2 d2)) := ⟨_, rfl⟩
  have hm : More w wq := (by rw [hG5_]; exact (by repeat (first | (with_reducible assumption) | (with_reducible exact More.refl _) | (with_reducible refine More.alloc ?_ _) | (with_reducible refine More.more ?_ _ _) | (with_reducible refine More.drewN ?_ _) | (with_reducible refine More.drew ?_))))
  have hB1 : Blk wq w.heap.size 24 #[.int .i64 k0, .int .i64 k1, .int .i64 rate, .int .i64 buf, .int .i64 jit] := (by rw [hG5_]; exact (by repeat (first | (with_reducible assumption) | ((with_reducible refine Blk.new' ?_); (simp [Nat.add_assoc]; done)) | (with_reducible refine Blk.alloc ?_ _) | (with_reducible refine Blk.more ?_ _ _) | (with_reducible refine Blk.drew ?_) | (with_reducible refine Blk.drewN ?_ _))))
  have hB4 : Blk wq (w.heap.size + 3) 32 #[.int .i64 0, .int .i64 0, .int .i64 0, .int .i64 0, .int .i64 0, .int .i64 0, .int .i64 0, .int .i64 0, .int .i64 0, .int .i64 0, .int .i64 0, .int .i64 0, .int .i64 0, .int .i64 0] := (by rw [hG5_]; exact (by repeat (first | (with_reducible assumption) | ((with_reducible refine Blk.new' ?_); (simp [Nat.add_assoc]; done)) | (with_reducible refine Blk.alloc ?_ _) | (with_reducible refine Blk.more ?_ _ _) | (with_reducible refine Blk.drew ?_) | (with_reducible refine Blk.drewN ?_ _))))
  have hB5 : Blk wq (w.heap.size + 4) 38 #[.int .i64 0, .int .i64 0, .int .i64 0, .int .i64 0, .int .i64 0, .int .i64 0] := (by rw [hG5_]; exact (by repeat (first | (with_reducible assumption) | ((with_reducible refine Blk.new' ?_); (simp [Nat.add_assoc]; done)) | (with_reducible refine Blk.alloc ?_ _) | (with_reducible refine Blk.more ?_ _ _) | (with_reducible refine Blk.drew ?_) | (with_reducible refine Blk.drewN ?_ _))))
  have hl := hB5.lt
  have e4 : wq.cell? ⟨w.heap.size, 4, none⟩ = some (.int .i64 jit) := hB1.cell 4
  rw [← hG5_]
  clear hG5_
  go_loopw [45] (fun i wr => ∃ j : Nat, j ≤ 1 ∧ i = .int .i64 j ∧ wr = wq) (fun i _ => 1 - (intOf i).toNat)
  case atStart => exact ⟨0, by omega, rfl, rfl⟩
  case round =>
    obtain ⟨j, hj, hi, hwr⟩ := hrel
    subst hwr
    rcases (show j = 0 ∨ j = 1 by omega) with rfl | rfl
    · have hi : _ = Value.int .i64 0 := hi
      subst hi
      go_wp2
      go_roundw
      case rel => exact ⟨1, by omega, by go_num, by first | rfl | trivial⟩
      case measure => simp [intOf]
    · have hi : _ = Value.int .i64 1 := hi
      subst hi
      go_wp2_with (first | (refine wpList_store_row rfl _ _ _ rfl (w.heap.size + 3) #[.int .i64 0, .int .i64 0, .int .i64 0, .int .i64 0, .int .i64 0, .int .i64 0, .int .i64 0, .int .i64 0, .int .i64 0, .int .i64 0, .int .i64 0, .int .i64 0, .int .i64 0, .int .i64 0] rfl rfl 32 #[.int .i64 0, .int .i64 0, .int .i64 0, .int .i64 0, .int .i64 0, .int .i64 0, .int .i64 0, .int .i64 0, .int .i64 0, .int .i64 0, .int .i64 0, .int .i64 0, .int .i64 0, .int .i64 0] hB4 (by kernel_rfl) rfl (by simp [Value.oneCell']) ?_) | (refine wpList_store_row rfl _ _ _ rfl (w.heap.size + 4) #[.int .i64 0, .int .i64 0, .int .i64 0, .int .i64 0, .int .i64 0, .int .i64 0] rfl rfl 38 #[.int .i64 0, .int .i64 0, .int .i64 0, .int .i64 0, .int .i64 0, .int .i64 0] (hsr hB5) (by kernel_rfl) rfl (by simp [Value.oneCell']) ?_))
      obtain ⟨w9, hG6_⟩ : ∃ W, W = ((wr.setRow (w.heap.size + 3) #[.int .i64 0, .int .i64 0, .int .i64 0, .int .i64 0, .int .i64 0, .int .i64 0, .int .i64 0, .int .i64 0, .int .i64 0, .int .i64 0, .int .i64 0, .int .i64 0, .int .i64 0, .int .i64 0]).setRow (w.heap.size + 4) #[.int .i64 0, .int .i64 0, .int .i64 0, .int .i64 0, .int .i64 0, .int .i64 0]) := ⟨_, rfl⟩
      have hX1 : Blk w9 (w.heap.size + 3) 32 #[.int .i64 0, .int .i64 0, .int .i64 0, .int .i64 0, .int .i64 0, .int .i64 0, .int .i64 0, .int .i64 0, .int .i64 0, .int .i64 0, .int .i64 0, .int .i64 0, .int .i64 0, .int .i64 0] := (by rw [hG6_]; exact hsq hB4)
      have hX2 : Blk w9 (w.heap.size + 4) 38 #[.int .i64 0, .int .i64 0, .int .i64 0, .int .i64 0, .int .i64 0, .int .i64 0] := (by rw [hG6_]; exact setRow_heap _ _ _ _ _ _ (hsr hB5))
      have hX3 : Below w.heap.size w w9 := (by rw [hG6_]; exact below_setRow (below_setRow hm.below (by omega) _) (by omega) _)
      rw [← hG6_]
      clear hG6_
      have m0 : w9.cell? ⟨w.heap.size + 3, 0, none⟩ = some (.int .i64 0) := Blk.cell hX1 0
      have m1 : w9.cell? ⟨w.heap.size + 3, 1, none⟩ = some (.int .i64 0) := Blk.cell hX1 1
      have m2 : w9.cell? ⟨w.heap.size + 3, 2, none⟩ = some (.int .i64 0) := Blk.cell hX1 2
      have m3 : w9.cell? ⟨w.heap.size + 3, 3, none⟩ = some (.int .i64 0) := Blk.cell hX1 3
      have m4 : w9.cell? ⟨w.heap.size + 3, 4, none⟩ = some (.int .i64 0) := Blk.cell hX1 4
      have m5 : w9.cell? ⟨w.heap.size + 3, 5, none⟩ = some (.int .i64 0) := Blk.cell hX1 5
      have m6 : w9.cell? ⟨w.heap.size + 3, 6, none⟩ = some (.int .i64 0) := Blk.cell hX1 6
      have m7 : w9.cell? ⟨w.heap.size + 3, 7, none⟩ = some (.int .i64 0) := Blk.cell hX1 7
      have m8 : w9.cell? ⟨w.heap.size + 3, 8, none⟩ = some (.int .i64 0) := Blk.cell hX1 8
      have m9 : w9.cell? ⟨w.heap.size + 3, 9, none⟩ = some (.int .i64 0) := Blk.cell hX1 9
      have m10 : w9.cell? ⟨w.heap.size + 3, 10, none⟩ = some (.int .i64 0) := Blk.cell hX1 10
      have m11 : w9.cell? ⟨w.heap.size + 3, 11, none⟩ = some (.int .i64 0) := Blk.cell hX1 11
      have m12 : w9.cell? ⟨w.heap.size + 3, 12, none⟩ = some (.int .i64 0) := Blk.cell hX1 12
      have m13 : w9.cell? ⟨w.heap.size + 3, 13, none⟩ = some (.int .i64 0) := Blk.cell hX1 13
      have o0 : w9.cell? ⟨w.heap.size + 4, 0, none⟩ = some (.int .i64 0) := Blk.cell hX2 0
      have o1 : w9.cell? ⟨w.heap.size + 4, 1, none⟩ = some (.int .i64 0) := Blk.cell hX2 1
      have o2 : w9.cell? ⟨w.heap.size + 4, 2, none⟩ = some (.int .i64 0) := Blk.cell hX2 2
      have o3 : w9.cell? ⟨w.heap.size + 4, 3, none⟩ = some (.int .i64 0) := Blk.cell hX2 3
      have o4 : w9.cell? ⟨w.heap.size + 4, 4, none⟩ = some (.int .i64 0) := Blk.cell hX2 4
      have o5 : w9.cell? ⟨w.heap.size + 4, 5, none⟩ = some (.int .i64 0) := Blk.cell hX2 5
      refine bodyPost_ret (v := .tuple #[.agg #[.int .i64 0, .int .i64 0, .int .i64 0, .int .i64 0, .int .i64 0, .int .i64 0, .int .i64 0, .int .i64 0, .int .i64 0, .int .i64 0, .int .i64 0, .int .i64 0, .int .i64 0, .int .i64 0], .agg #[.int .i64 0, .int .i64 0, .int .i64 0, .int .i64 0, .int .i64 0, .int .i64 0], .int .i64 2]) ?_ rfl ?_
      · simp [results, Try.results14, go_sem, m0, m1, m2, m3, m4, m5, m6, m7, m8, m9, m10, m11, m12, m13, o0, o1, o2, o3, o4, o5]
      · exact ⟨rfl, More.of_below hX3⟩
set_option maxRecDepth 20000 in
set_option maxHeartbeats 4000000 in
theorem step_l3 (k0 k1 rate buf jit : Int) (a0 a1 a2 a3 a4 a5 b0 b1 b2 b3 b4 b5 w0 w1 : Int) (l0 l1 : Int) (w : World) (hk0 : Hid (dKind k0)) (hk1 : Hid (dKind k1)) (hn : dNums rate buf jit) (h : Hid (dRight k0 k1 rate buf jit a0 a1 a2 a3 a4 a5 b0 b1 b2 b3 b4 b5 w0 w1)) (hl0 : 0 ≤ l0) (hl1 : l0 ≤ jit) (hl2 : 0 ≤ l1) (hl : jit < l1) :
    Calls Try.prog 14 #[.agg #[.int .i64 k0, .int .i64 k1, .int .i64 rate, .int .i64 buf, .int .i64 jit], .agg #[.int .i64 a0, .int .i64 a1, .int .i64 a2, .int .i64 a3, .int .i64 a4, .int .i64 a5, .int .i64 b0, .int .i64 b1, .int .i64 b2, .int .i64 b3, .int .i64 b4, .int .i64 b5, .int .i64 w0, .int .i64 w1], .agg #[.int .i64 l0, .int .i64 l1]] w fun e w' => e = .returned (.tuple #[.agg #[.int .i64 0, .int .i64 0, .int .i64 0, .int .i64 0, .int .i64 0, .int .i64 0, .int .i64 0, .int .i64 0, .int .i64 0, .int .i64 0, .int .i64 0, .int .i64 0, .int .i64 0, .int .i64 0], .agg #[.int .i64 0, .int .i64 0, .int .i64 0, .int .i64 0, .int .i64 0, .int .i64 0], .int .i64 2]) ∧ More w w' := by
  have hnn := hn
  obtain ⟨n1, n2, n3, n4, n5, n6⟩ := hnn
  obtain ⟨t, i1⟩ : ∃ t, IntKind.i64.wrap (w0 + w1) = t := ⟨_, rfl⟩
  obtain ⟨dl, i2⟩ : ∃ dl, IntKind.i64.wrap (t.tdiv rate) = dl := ⟨_, rfl⟩
  have g0 : (rate == 0) = false := by simp; omega
  have u0 : decide (l0 < 0) = false := by simp; omega
  have u1 : decide (jit < l0) = false := by simp; omega
  have u2 : decide (l1 < 0) = false := by simp; omega
  have u3 : decide (jit < l1) = true := by simp; omega
  go_enter Try.func14, Try.ntmps14
  go_wp2_with fail
  refine (wrong_ok k0 k1 rate buf jit _ hk0 hk1 hn).mono ?_
  rintro e w1 ⟨rfl, os1, d1, rfl⟩
  go_wp2_with fail
  refine (right_yes k0 k1 rate buf jit a0 a1 a2 a3 a4 a5 b0 b1 b2 b3 b4 b5 w0 w1 _ hk0 hk1 hn h.out).mono ?_
  rintro e w1 ⟨rfl, os2, d2, rfl⟩
  go_wp2_with fail
  obtain ⟨wq, hG7_⟩ : ∃ W, W = ((((((((w.alloc (.cells #[.int .i64 k0, .int .i64 k1, .int .i64 rate, .int .i64 buf, .int .i64 jit] 24)).alloc (.cells #[.int .i64 a0, .int .i64 a1, .int .i64 a2, .int .i64 a3, .int .i64 a4, .int .i64 a5, .int .i64 b0, .int .i64 b1, .int .i64 b2, .int .i64 b3, .int .i64 b4, .int .i64 b5, .int .i64 w0, .int .i64 w1] 32)).alloc (.cells #[.int .i64 l0, .int .i64 l1] 22)).alloc (.cells #[.int .i64 0, .int .i64 0, .int .i64 0, .int .i64 0, .int .i64 0, .int .i64 0, .int .i64 0, .int .i64 0, .int .i64 0, .int .i64 0, .int .i64 0, .int .i64 0, .int .i64 0, .int .i64 0] 32)).alloc (.cells #[.int .i64 0, .int .i64 0, .int .i64 0, .int .i64 0, .int .i64 0, .int .i64 0] 38)).more os1 d1).more os2 d2)) := ⟨_, rfl⟩
  have hm : More w wq := (by rw [hG7_]; exact (by repeat (first | (with_reducible assumption) | (with_reducible exact More.refl _) | (with_reducible refine More.alloc ?_ _) | (with_reducible refine More.more ?_ _ _) | (with_reducible refine More.drewN ?_ _) | (with_reducible refine More.drew ?_))))
  have hB1 : Blk wq w.heap.size 24 #[.int .i64 k0, .int .i64 k1, .int .i64 rate, .int .i64 buf, .int .i64 jit] := (by rw [hG7_]; exact (by repeat (first | (with_reducible assumption) | ((with_reducible refine Blk.new' ?_); (simp [Nat.add_assoc]; done)) | (with_reducible refine Blk.alloc ?_ _) | (with_reducible refine Blk.more ?_ _ _) | (with_reducible refine Blk.drew ?_) | (with_reducible refine Blk.drewN ?_ _))))
  have hB4 : Blk wq (w.heap.size + 3) 32 #[.int .i64 0, .int .i64 0, .int .i64 0, .int .i64 0, .int .i64 0, .int .i64 0, .int .i64 0, .int .i64 0, .int .i64 0, .int .i64 0, .int .i64 0, .int .i64 0, .int .i64 0, .int .i64 0] := (by rw [hG7_]; exact (by repeat (first | (with_reducible assumption) | ((with_reducible refine Blk.new' ?_); (simp [Nat.add_assoc]; done)) | (with_reducible refine Blk.alloc ?_ _) | (with_reducible refine Blk.more ?_ _ _) | (with_reducible refine Blk.drew ?_) | (with_reducible refine Blk.drewN ?_ _))))
  have hB5 : Blk wq (w.heap.size + 4) 38 #[.int .i64 0, .int .i64 0, .int .i64 0, .int .i64 0, .int .i64 0, .int .i64 0] := (by rw [hG7_]; exact (by repeat (first | (with_reducible assumption) | ((with_reducible refine Blk.new' ?_); (simp [Nat.add_assoc]; done)) | (with_reducible refine Blk.alloc ?_ _) | (with_reducible refine Blk.more ?_ _ _) | (with_reducible refine Blk.drew ?_) | (with_reducible refine Blk.drewN ?_ _))))
  have hl := hB5.lt
  have e4 : wq.cell? ⟨w.heap.size, 4, none⟩ = some (.int .i64 jit) := hB1.cell 4
  rw [← hG7_]
  clear hG7_
  go_loopw [45] (fun i wr => ∃ j : Nat, j ≤ 1 ∧ i = .int .i64 j ∧ wr = wq) (fun i _ => 1 - (intOf i).toNat)
  case atStart => exact ⟨0, by omega, rfl, rfl⟩
  case round =>
    obtain ⟨j, hj, hi, hwr⟩ := hrel
    subst hwr
    rcases (show j = 0 ∨ j = 1 by omega) with rfl | rfl
    · have hi : _ = Value.int .i64 0 := hi
      subst hi
      go_wp2
      go_roundw
      case rel => exact ⟨1, by omega, by go_num, by first | rfl | trivial⟩
      case measure => simp [intOf]
    · have hi : _ = Value.int .i64 1 := hi
      subst hi
      go_wp2_with (first | (refine wpList_store_row rfl _ _ _ rfl (w.heap.size + 3) #[.int .i64 0, .int .i64 0, .int .i64 0, .int .i64 0, .int .i64 0, .int .i64 0, .int .i64 0, .int .i64 0, .int .i64 0, .int .i64 0, .int .i64 0, .int .i64 0, .int .i64 0, .int .i64 0] rfl rfl 32 #[.int .i64 0, .int .i64 0, .int .i64 0, .int .i64 0, .int .i64 0, .int .i64 0, .int .i64 0, .int .i64 0, .int .i64 0, .int .i64 0, .int .i64 0, .int .i64 0, .int .i64 0, .int .i64 0] hB4 (by kernel_rfl) rfl (by simp [Value.oneCell']) ?_) | (refine wpList_store_row rfl _ _ _ rfl (w.heap.size + 4) #[.int .i64 0, .int .i64 0, .int .i64 0, .int .i64 0, .int .i64 0, .int .i64 0] rfl rfl 38 #[.int .i64 0, .int .i64 0, .int .i64 0, .int .i64 0, .int .i64 0, .int .i64 0] (hsr hB5) (by kernel_rfl) rfl (by simp [Value.oneCell']) ?_))
      obtain ⟨w9, hG8_⟩ : ∃ W, W = ((wr.setRow (w.heap.size + 3) #[.int .i64 0, .int .i64 0, .int .i64 0, .int .i64 0, .int .i64 0, .int .i64 0, .int .i64 0, .int .i64 0, .int .i64 0, .int .i64 0, .int .i64 0, .int .i64 0, .int .i64 0, .int .i64 0]).setRow (w.heap.size + 4) #[.int .i64 0, .int .i64 0, .int .i64 0, .int .i64 0, .int .i64 0, .int .i64 0]) := ⟨_, rfl⟩
      have hX1 : Blk w9 (w.heap.size + 3) 32 #[.int .i64 0, .int .i64 0, .int .i64 0, .int .i64 0, .int .i64 0, .int .i64 0, .int .i64 0, .int .i64 0, .int .i64 0, .int .i64 0, .int .i64 0, .int .i64 0, .int .i64 0, .int .i64 0] := (by rw [hG8_]; exact hsq hB4)
      have hX2 : Blk w9 (w.heap.size + 4) 38 #[.int .i64 0, .int .i64 0, .int .i64 0, .int .i64 0, .int .i64 0, .int .i64 0] := (by rw [hG8_]; exact setRow_heap _ _ _ _ _ _ (hsr hB5))
      have hX3 : Below w.heap.size w w9 := (by rw [hG8_]; exact below_setRow (below_setRow hm.below (by omega) _) (by omega) _)
      rw [← hG8_]
      clear hG8_
      have m0 : w9.cell? ⟨w.heap.size + 3, 0, none⟩ = some (.int .i64 0) := Blk.cell hX1 0
      have m1 : w9.cell? ⟨w.heap.size + 3, 1, none⟩ = some (.int .i64 0) := Blk.cell hX1 1
      have m2 : w9.cell? ⟨w.heap.size + 3, 2, none⟩ = some (.int .i64 0) := Blk.cell hX1 2
      have m3 : w9.cell? ⟨w.heap.size + 3, 3, none⟩ = some (.int .i64 0) := Blk.cell hX1 3
      have m4 : w9.cell? ⟨w.heap.size + 3, 4, none⟩ = some (.int .i64 0) := Blk.cell hX1 4
      have m5 : w9.cell? ⟨w.heap.size + 3, 5, none⟩ = some (.int .i64 0) := Blk.cell hX1 5
      have m6 : w9.cell? ⟨w.heap.size + 3, 6, none⟩ = some (.int .i64 0) := Blk.cell hX1 6
      have m7 : w9.cell? ⟨w.heap.size + 3, 7, none⟩ = some (.int .i64 0) := Blk.cell hX1 7
      have m8 : w9.cell? ⟨w.heap.size + 3, 8, none⟩ = some (.int .i64 0) := Blk.cell hX1 8
      have m9 : w9.cell? ⟨w.heap.size + 3, 9, none⟩ = some (.int .i64 0) := Blk.cell hX1 9
      have m10 : w9.cell? ⟨w.heap.size + 3, 10, none⟩ = some (.int .i64 0) := Blk.cell hX1 10
      have m11 : w9.cell? ⟨w.heap.size + 3, 11, none⟩ = some (.int .i64 0) := Blk.cell hX1 11
      have m12 : w9.cell? ⟨w.heap.size + 3, 12, none⟩ = some (.int .i64 0) := Blk.cell hX1 12
      have m13 : w9.cell? ⟨w.heap.size + 3, 13, none⟩ = some (.int .i64 0) := Blk.cell hX1 13
      have o0 : w9.cell? ⟨w.heap.size + 4, 0, none⟩ = some (.int .i64 0) := Blk.cell hX2 0
      have o1 : w9.cell? ⟨w.heap.size + 4, 1, none⟩ = some (.int .i64 0) := Blk.cell hX2 1
      have o2 : w9.cell? ⟨w.heap.size + 4, 2, none⟩ = some (.int .i64 0) := Blk.cell hX2 2
      have o3 : w9.cell? ⟨w.heap.size + 4, 3, none⟩ = some (.int .i64 0) := Blk.cell hX2 3
      have o4 : w9.cell? ⟨w.heap.size + 4, 4, none⟩ = some (.int .i64 0) := Blk.cell hX2 4
      have o5 : w9.cell? ⟨w.heap.size + 4, 5, none⟩ = some (.int .i64 0) := Blk.cell hX2 5
      refine bodyPost_ret (v := .tuple #[.agg #[.int .i64 0, .int .i64 0, .int .i64 0, .int .i64 0, .int .i64 0, .int .i64 0, .int .i64 0, .int .i64 0, .int .i64 0, .int .i64 0, .int .i64 0, .int .i64 0, .int .i64 0, .int .i64 0], .agg #[.int .i64 0, .int .i64 0, .int .i64 0, .int .i64 0, .int .i64 0, .int .i64 0], .int .i64 2]) ?_ rfl ?_
      · simp [results, Try.results14, go_sem, m0, m1, m2, m3, m4, m5, m6, m7, m8, m9, m10, m11, m12, m13, o0, o1, o2, o3, o4, o5]
      · exact ⟨rfl, More.of_below hX3⟩
/-- Whether a step may be. -/
def dMay (k0 k1 rate buf jit : Int) (a0 a1 a2 a3 a4 a5 b0 b1 b2 b3 b4 b5 w0 w1 : Int) (l0 l1 : Int) : Prop := dKind k0 ∧ dKind k1 ∧ dNums rate buf jit ∧ dRight k0 k1 rate buf jit a0 a1 a2 a3 a4 a5 b0 b1 b2 b3 b4 b5 w0 w1 ∧ (0 ≤ l0 ∧ l0 ≤ jit) ∧ (0 ≤ l1 ∧ l1 ≤ jit)
open Classical in
/-- What is said where a step may not be. -/
noncomputable def dErr (k0 k1 rate buf jit : Int) (a0 a1 a2 a3 a4 a5 b0 b1 b2 b3 b4 b5 w0 w1 : Int) : Int := if dKind k0 ∧ dKind k1 then (if dNums rate buf jit then (if dRight k0 k1 rate buf jit a0 a1 a2 a3 a4 a5 b0 b1 b2 b3 b4 b5 w0 w1 then 2 else 1) else 2) else 5
theorem step_no (k0 k1 rate buf jit : Int) (a0 a1 a2 a3 a4 a5 b0 b1 b2 b3 b4 b5 w0 w1 : Int) (l0 l1 : Int) (w : World) (h : ¬ dMay k0 k1 rate buf jit a0 a1 a2 a3 a4 a5 b0 b1 b2 b3 b4 b5 w0 w1 l0 l1) :
    Calls Try.prog 14 #[.agg #[.int .i64 k0, .int .i64 k1, .int .i64 rate, .int .i64 buf, .int .i64 jit], .agg #[.int .i64 a0, .int .i64 a1, .int .i64 a2, .int .i64 a3, .int .i64 a4, .int .i64 a5, .int .i64 b0, .int .i64 b1, .int .i64 b2, .int .i64 b3, .int .i64 b4, .int .i64 b5, .int .i64 w0, .int .i64 w1], .agg #[.int .i64 l0, .int .i64 l1]] w fun e w' => ∃ er, e = .returned (.tuple #[.agg #[.int .i64 0, .int .i64 0, .int .i64 0, .int .i64 0, .int .i64 0, .int .i64 0, .int .i64 0, .int .i64 0, .int .i64 0, .int .i64 0, .int .i64 0, .int .i64 0, .int .i64 0, .int .i64 0], .agg #[.int .i64 0, .int .i64 0, .int .i64 0, .int .i64 0, .int .i64 0, .int .i64 0], .int .i64 er]) ∧ Hid (er ≠ 0 ∧ er = dErr k0 k1 rate buf jit a0 a1 a2 a3 a4 a5 b0 b1 b2 b3 b4 b5 w0 w1) ∧ More w w' := by
  have e2 : (dKind k0 ∧ dKind k1 ∧ dNums rate buf jit) → dRight k0 k1 rate buf jit a0 a1 a2 a3 a4 a5 b0 b1 b2 b3 b4 b5 w0 w1 → Hid ((2 : Int) ≠ 0 ∧ 2 = dErr k0 k1 rate buf jit a0 a1 a2 a3 a4 a5 b0 b1 b2 b3 b4 b5 w0 w1) := fun h0 h1 => ⟨by decide, by unfold dErr; rw [if_pos ⟨h0.1, h0.2.1⟩, if_pos h0.2.2, if_pos h1]⟩
  by_cases h0 : dKind k0 ∧ dKind k1 ∧ dNums rate buf jit
  · by_cases h1 : dRight k0 k1 rate buf jit a0 a1 a2 a3 a4 a5 b0 b1 b2 b3 b4 b5 w0 w1
    · by_cases c0 : l0 < 0
      · exact (step_l0 k0 k1 rate buf jit a0 a1 a2 a3 a4 a5 b0 b1 b2 b3 b4 b5 w0 w1 l0 l1 w h0.1 h0.2.1 h0.2.2 h1 c0).mono fun e w' ⟨a, b⟩ => ⟨2, a, e2 h0 h1, b⟩
      · by_cases c1 : jit < l0
        · exact (step_l1 k0 k1 rate buf jit a0 a1 a2 a3 a4 a5 b0 b1 b2 b3 b4 b5 w0 w1 l0 l1 w h0.1 h0.2.1 h0.2.2 h1 (by omega) c1).mono fun e w' ⟨a, b⟩ => ⟨2, a, e2 h0 h1, b⟩
        · by_cases c2 : l1 < 0
          · exact (step_l2 k0 k1 rate buf jit a0 a1 a2 a3 a4 a5 b0 b1 b2 b3 b4 b5 w0 w1 l0 l1 w h0.1 h0.2.1 h0.2.2 h1 (by omega) (by omega) c2).mono fun e w' ⟨a, b⟩ => ⟨2, a, e2 h0 h1, b⟩
          · by_cases c3 : jit < l1
            · exact (step_l3 k0 k1 rate buf jit a0 a1 a2 a3 a4 a5 b0 b1 b2 b3 b4 b5 w0 w1 l0 l1 w h0.1 h0.2.1 h0.2.2 h1 (by omega) (by omega) (by omega) c3).mono fun e w' ⟨a, b⟩ => ⟨2, a, e2 h0 h1, b⟩
            · exact absurd ⟨h0.1, h0.2.1, h0.2.2, h1, ⟨by omega, by omega⟩, by omega, by omega⟩ h
    · exact (step_r k0 k1 rate buf jit a0 a1 a2 a3 a4 a5 b0 b1 b2 b3 b4 b5 w0 w1 l0 l1 w h0.1 h0.2.1 h0.2.2 h1).mono fun e w' ⟨a, b⟩ => ⟨1, a, ⟨by decide, by unfold dErr; rw [if_pos ⟨h0.1, h0.2.1⟩, if_pos h0.2.2, if_neg h1]⟩, b⟩
  · by_cases c0 : dKind k0
    · by_cases c1 : dKind k1
      · exact (step_w k0 k1 rate buf jit a0 a1 a2 a3 a4 a5 b0 b1 b2 b3 b4 b5 w0 w1 l0 l1 w 2 (by show (2 : Int) ≠ 0; decide) fun W => wrong_nums k0 k1 rate buf jit W c0 c1 (fun hh => h0 ⟨c0, c1, hh⟩)).mono fun e w' ⟨a, b⟩ => ⟨2, a, ⟨by decide, by unfold dErr; rw [if_pos ⟨c0, c1⟩, if_neg (fun hh => h0 ⟨c0, c1, hh⟩)]⟩, b⟩
      · exact (step_w k0 k1 rate buf jit a0 a1 a2 a3 a4 a5 b0 b1 b2 b3 b4 b5 w0 w1 l0 l1 w 5 (by show (5 : Int) ≠ 0; decide) fun W => wrong_kind1 k0 k1 rate buf jit W c0 c1).mono fun e w' ⟨a, b⟩ => ⟨5, a, ⟨by decide, by unfold dErr; rw [if_neg (fun hh => c1 hh.2)]⟩, b⟩
    · exact (step_w k0 k1 rate buf jit a0 a1 a2 a3 a4 a5 b0 b1 b2 b3 b4 b5 w0 w1 l0 l1 w 5 (by show (5 : Int) ≠ 0; decide) fun W => wrong_kind0 k0 k1 rate buf jit W c0).mono fun e w' ⟨a, b⟩ => ⟨5, a, ⟨by decide, by unfold dErr; rw [if_neg (fun hh => c0 hh.1)]⟩, b⟩
end Go.Proofs.Ytehlgomjgmabeaa
