/- The duel's step. Conditions: none. -/
import Derived.Test.YtgmljgcmfooniaaGreatDoorSq
import Derived.Test.YtgmljgcmfooniaaGreatDoorDuelR1
set_option linter.unusedVariables false
set_option linter.unusedSimpArgs false
namespace Go.Proofs.YtgmljgcmfooniaaGreatDoor
open Go.RowKit Go.Tide
set_option linter.unusedVariables false
set_option linter.unusedSimpArgs false
/-- What one of both knows. -/
structure Ctl where
  c0 : Int
  c1 : Int
  c2 : Int
  c3 : Int
  c4 : Int
  c5 : Int
/-- What one of a kind knows behind one more delay. -/
def cNext (k : Int) (c : Ctl) (d : Int) : Ctl :=
  if k = 1 then ⟨1, vegWin c.c1 c.c2 d, lowBase c.c2 d, 0, 0, 0⟩
  else if k = 2 then ⟨2, copaWin c.c1 c.c2 c.c3 c.c4 d, lowBase c.c2 d, copaWay c.c1 c.c2 d, copaSpd c.c1 c.c2 c.c3 c.c4 d, 0⟩
  else ⟨3, ledAll c.c1 c.c2 c.c5 d / 4, lowBase c.c2 d, 0, 0, ledAll c.c1 c.c2 c.c5 d % 4⟩
theorem more_keep {w : World} {p : Addr} {v : Value} (os : Array Obj) (d : Nat) (h : w.cell? p = some v) : (w.more os d).cell? p = some v := by
  have hb := World.block_lt_of_cell? w p h
  have h1 : (w.more os d).heap[p.block]? = w.heap[p.block]? := World.heap_more w os d hb
  unfold World.cell? at *
  rw [h1]
  exact h
theorem far6 {w : World} {p : Addr} {v : Value} {O i0 i1 i2 i3 i4 i5 : Nat} {v0 v1 v2 v3 v4 v5 : Value} (h : w.cell? p = some v) (hne : O ≠ p.block) :
    ((((((w.setCell ⟨O, i0, none⟩ v0).setCell ⟨O, i1, none⟩ v1).setCell ⟨O, i2, none⟩ v2).setCell ⟨O, i3, none⟩ v3).setCell ⟨O, i4, none⟩ v4).setCell ⟨O, i5, none⟩ v5).cell? p = some v := by
  rw [World.cell?_setCell_far _ _ _ _ hne, World.cell?_setCell_far _ _ _ _ hne, World.cell?_setCell_far _ _ _ _ hne, World.cell?_setCell_far _ _ _ _ hne, World.cell?_setCell_far _ _ _ _ hne, World.cell?_setCell_far _ _ _ _ hne]
  exact h
theorem next_1 (c0 c1 c2 c3 c4 c5 d n0 n1 n2 n3 n4 n5 : Int) (w : World) (h : CR 1 c0 c1 c2 c3 c4 c5 = true) (h0 : 0 ≤ d) (h1 : d ≤ 1099511627776) (hN : Hid (cNext 1 ⟨c0, c1, c2, c3, c4, c5⟩ d = ⟨n0, n1, n2, n3, n4, n5⟩)) :
    Calls Tryz.prog 96 #[.agg #[.int .i64 c0, .int .i64 c1, .int .i64 c2, .int .i64 c3, .int .i64 c4, .int .i64 c5], .int .i64 d] w fun e w' =>
      e = .returned (.tuple #[.agg #[.int .i64 n0, .int .i64 n1, .int .i64 n2, .int .i64 n3, .int .i64 n4, .int .i64 n5], .int .i64 0]) ∧ More w w' := by
  have hN' := hN.out
  simp only [cNext] at hN'
  simp at hN'
  obtain ⟨rfl, rfl, rfl, rfl, rfl, rfl⟩ := hN'
  exact (vegas_next_ok c0 c1 c2 c3 c4 c5 d w (by simpa [CR] using h) h0 h1).mono fun e w' ⟨he, a, b, c, hw⟩ => ⟨he, by rw [hw]; exact (((More.refl w).alloc a).alloc b).alloc c⟩
theorem next_2 (c0 c1 c2 c3 c4 c5 d n0 n1 n2 n3 n4 n5 : Int) (w : World) (h : CR 2 c0 c1 c2 c3 c4 c5 = true) (h0 : 0 ≤ d) (h1 : d ≤ 1099511627776) (hN : Hid (cNext 2 ⟨c0, c1, c2, c3, c4, c5⟩ d = ⟨n0, n1, n2, n3, n4, n5⟩)) :
    Calls Tryz.prog 99 #[.agg #[.int .i64 c0, .int .i64 c1, .int .i64 c2, .int .i64 c3, .int .i64 c4, .int .i64 c5], .int .i64 d] w fun e w' =>
      e = .returned (.tuple #[.agg #[.int .i64 n0, .int .i64 n1, .int .i64 n2, .int .i64 n3, .int .i64 n4, .int .i64 n5], .int .i64 0]) ∧ More w w' := by
  have hN' := hN.out
  simp only [cNext] at hN'
  simp at hN'
  obtain ⟨rfl, rfl, rfl, rfl, rfl, rfl⟩ := hN'
  exact copa_next_ok c0 c1 c2 c3 c4 c5 d w (by simpa [CR] using h) h0 h1
theorem next_3 (c0 c1 c2 c3 c4 c5 d n0 n1 n2 n3 n4 n5 : Int) (w : World) (h : CR 3 c0 c1 c2 c3 c4 c5 = true) (h0 : 0 ≤ d) (h1 : d ≤ 1099511627776) (hN : Hid (cNext 3 ⟨c0, c1, c2, c3, c4, c5⟩ d = ⟨n0, n1, n2, n3, n4, n5⟩)) :
    Calls Tryz.prog 102 #[.agg #[.int .i64 c0, .int .i64 c1, .int .i64 c2, .int .i64 c3, .int .i64 c4, .int .i64 c5], .int .i64 d] w fun e w' =>
      e = .returned (.tuple #[.agg #[.int .i64 n0, .int .i64 n1, .int .i64 n2, .int .i64 n3, .int .i64 n4, .int .i64 n5], .int .i64 0]) ∧ More w w' := by
  have hN' := hN.out
  simp only [cNext] at hN'
  simp at hN'
  obtain ⟨rfl, rfl, rfl, rfl, rfl, rfl⟩ := hN'
  exact (ledbat_next_ok c0 c1 c2 c3 c4 c5 d w (by simpa [CR] using h) h0 h1).mono fun e w' ⟨he, a, b, c, hw⟩ => ⟨he, by rw [hw]; exact (((More.refl w).alloc a).alloc b).alloc c⟩
set_option maxRecDepth 20000 in
set_option maxHeartbeats 8000000 in
theorem step_ok (k0 k1 jit : Int) (rate buf : Nat) (a0 : Int) (A1 : Nat) (a2 a3 a4 a5 b0 : Int) (B1 : Nat) (b2 b3 b4 b5 : Int) (W0 W1 : Nat) (l0 l1 : Int) (w : World) (hk0 : Hid (dKind k0)) (hk1 : Hid (dKind k1)) (hn : dNums rate buf jit)
    (hc0 : Hid (CR k0 a0 A1 a2 a3 a4 a5 = true)) (hc1 : Hid (CR k1 b0 B1 b2 b3 b4 b5 = true)) (hA : 1 ≤ A1 ∧ A1 ≤ 12) (hB : 1 ≤ B1 ∧ B1 ≤ 12) (hW : W0 + W1 ≤ buf) (hl0 : 0 ≤ l0 ∧ l0 ≤ jit) (hl1 : 0 ≤ l1 ∧ l1 ≤ jit)
    (k c0 c1 x0 x1 y0 y1 : Nat) (hs : Hid (lpass rate buf W0 W1 A1 B1 = ⟨k, c0, c1, y0, y1, x0, x1⟩)) (na0 na1 na2 na3 na4 na5 nb0 nb1 nb2 nb3 nb4 nb5 : Int)
    (hN0 : Hid (cNext k0 ⟨a0, A1, a2, a3, a4, a5⟩ (((W0 + W1) / rate : Nat) + l0) = ⟨na0, na1, na2, na3, na4, na5⟩)) (hN1 : Hid (cNext k1 ⟨b0, B1, b2, b3, b4, b5⟩ (((W0 + W1) / rate : Nat) + l1) = ⟨nb0, nb1, nb2, nb3, nb4, nb5⟩)) :
    Calls Tryz.prog 42 #[.agg #[.int .i64 k0, .int .i64 k1, .int .i64 rate, .int .i64 buf, .int .i64 jit], .agg #[.int .i64 a0, .int .i64 A1, .int .i64 a2, .int .i64 a3, .int .i64 a4, .int .i64 a5, .int .i64 b0, .int .i64 B1, .int .i64 b2, .int .i64 b3, .int .i64 b4, .int .i64 b5, .int .i64 W0, .int .i64 W1], .agg #[.int .i64 l0, .int .i64 l1]] w fun e w' => e = .returned (.tuple #[.agg #[.int .i64 na0, .int .i64 na1, .int .i64 na2, .int .i64 na3, .int .i64 na4, .int .i64 na5, .int .i64 nb0, .int .i64 nb1, .int .i64 nb2, .int .i64 nb3, .int .i64 nb4, .int .i64 nb5, .int .i64 y0, .int .i64 y1], .agg #[.int .i64 A1, .int .i64 B1, .int .i64 c0, .int .i64 c1, .int .i64 x0, .int .i64 x1], .int .i64 0]) ∧ More w w' := by
  have hnn := hn
  obtain ⟨n1, n2, n3, n4, n5, n6⟩ := hnn
  have HL : Hid (LRight rate buf W0 W1 A1 B1) := by show LRight _ _ _ _ _ _; unfold LRight; omega
  have i1 : IntKind.i64.wrap ((W0 : Int) + W1) = (W0 : Int) + W1 := IntWalk.i64_in _ (by omega)
  have hdl : (W0 + W1) / rate ≤ 16 := by have := Nat.div_le_self (W0 + W1) rate; omega
  obtain ⟨dl, hdle⟩ : ∃ dl : Nat, Hid ((W0 + W1) / rate = dl) := ⟨_, rfl⟩
  rw [hdle.out] at hdl hN0 hN1
  have i2 : IntKind.i64.wrap (((W0 : Int) + W1).tdiv rate) = dl := by
    rw [show ((W0 : Int) + W1).tdiv rate = ((W0 + W1) / rate : Nat) from by rw [← Int.natCast_add]; exact (Int.ofNat_tdiv _ _).symm, hdle.out]
    exact IntWalk.i64_in _ (by omega)
  have i3 : IntKind.i64.wrap ((dl : Int) + l0) = (dl : Int) + l0 := IntWalk.i64_in _ (by omega)
  have i4 : IntKind.i64.wrap ((dl : Int) + l1) = (dl : Int) + l1 := IntWalk.i64_in _ (by omega)
  have g0 : ((rate : Int) == 0) = false := by simp; omega
  have u0 : decide (l0 < 0) = false := by simp; omega
  have u1 : decide (jit < l0) = false := by simp; omega
  have u2 : decide (l1 < 0) = false := by simp; omega
  have u3 : decide (jit < l1) = false := by simp; omega
  have hd0 : 0 ≤ (dl : Int) + l0 ∧ (dl : Int) + l0 ≤ 1099511627776 := by omega
  have hd1 : 0 ≤ (dl : Int) + l1 ∧ (dl : Int) + l1 ≤ 1099511627776 := by omega
  go_enter Tryz.func42, Tryz.ntmps42
  go_wp2_with fail
  refine (wrong_ok k0 k1 rate buf jit _ hk0 hk1 hn).mono ?_
  rintro e w1 ⟨rfl, os1, d1, rfl⟩
  go_wp2_with fail
  refine (right_ok k0 k1 rate buf jit a0 A1 a2 a3 a4 a5 b0 B1 b2 b3 b4 b5 W0 W1 _ hk0 hk1 hn hc0 (by omega) hc1 (by omega) (by omega)).mono ?_
  rintro e w1 ⟨rfl, os2, d2, rfl⟩
  go_wp2_with fail
  have hm : More w (((((((w.alloc (.cells #[.int .i64 k0, .int .i64 k1, .int .i64 rate, .int .i64 buf, .int .i64 jit] 32)).alloc (.cells #[.int .i64 a0, .int .i64 A1, .int .i64 a2, .int .i64 a3, .int .i64 a4, .int .i64 a5, .int .i64 b0, .int .i64 B1, .int .i64 b2, .int .i64 b3, .int .i64 b4, .int .i64 b5, .int .i64 W0, .int .i64 W1] 44)).alloc (.cells #[.int .i64 l0, .int .i64 l1] 30)).alloc (.cells #[.int .i64 0, .int .i64 0, .int .i64 0, .int .i64 0, .int .i64 0, .int .i64 0, .int .i64 0, .int .i64 0, .int .i64 0, .int .i64 0, .int .i64 0, .int .i64 0, .int .i64 0, .int .i64 0] 44)).alloc (.cells #[.int .i64 0, .int .i64 0, .int .i64 0, .int .i64 0, .int .i64 0, .int .i64 0] 93)).more os1 d1).more os2 d2) := (by repeat (first | (with_reducible assumption) | (with_reducible exact More.refl _) | (with_reducible refine More.alloc ?_ _) | (with_reducible refine More.more ?_ _ _) | (with_reducible refine More.drewN ?_ _) | (with_reducible refine More.drew ?_)))
  have hB1 : Blk (((((((w.alloc (.cells #[.int .i64 k0, .int .i64 k1, .int .i64 rate, .int .i64 buf, .int .i64 jit] 32)).alloc (.cells #[.int .i64 a0, .int .i64 A1, .int .i64 a2, .int .i64 a3, .int .i64 a4, .int .i64 a5, .int .i64 b0, .int .i64 B1, .int .i64 b2, .int .i64 b3, .int .i64 b4, .int .i64 b5, .int .i64 W0, .int .i64 W1] 44)).alloc (.cells #[.int .i64 l0, .int .i64 l1] 30)).alloc (.cells #[.int .i64 0, .int .i64 0, .int .i64 0, .int .i64 0, .int .i64 0, .int .i64 0, .int .i64 0, .int .i64 0, .int .i64 0, .int .i64 0, .int .i64 0, .int .i64 0, .int .i64 0, .int .i64 0] 44)).alloc (.cells #[.int .i64 0, .int .i64 0, .int .i64 0, .int .i64 0, .int .i64 0, .int .i64 0] 93)).more os1 d1).more os2 d2) w.heap.size 32 #[.int .i64 k0, .int .i64 k1, .int .i64 rate, .int .i64 buf, .int .i64 jit] := (by repeat (first | (with_reducible assumption) | ((with_reducible refine Blk.new' ?_); (simp [Nat.add_assoc]; done)) | (with_reducible refine Blk.alloc ?_ _) | (with_reducible refine Blk.more ?_ _ _) | (with_reducible refine Blk.drew ?_) | (with_reducible refine Blk.drewN ?_ _)))
  have hB2 : Blk (((((((w.alloc (.cells #[.int .i64 k0, .int .i64 k1, .int .i64 rate, .int .i64 buf, .int .i64 jit] 32)).alloc (.cells #[.int .i64 a0, .int .i64 A1, .int .i64 a2, .int .i64 a3, .int .i64 a4, .int .i64 a5, .int .i64 b0, .int .i64 B1, .int .i64 b2, .int .i64 b3, .int .i64 b4, .int .i64 b5, .int .i64 W0, .int .i64 W1] 44)).alloc (.cells #[.int .i64 l0, .int .i64 l1] 30)).alloc (.cells #[.int .i64 0, .int .i64 0, .int .i64 0, .int .i64 0, .int .i64 0, .int .i64 0, .int .i64 0, .int .i64 0, .int .i64 0, .int .i64 0, .int .i64 0, .int .i64 0, .int .i64 0, .int .i64 0] 44)).alloc (.cells #[.int .i64 0, .int .i64 0, .int .i64 0, .int .i64 0, .int .i64 0, .int .i64 0] 93)).more os1 d1).more os2 d2) (w.heap.size + 1) 44 #[.int .i64 a0, .int .i64 A1, .int .i64 a2, .int .i64 a3, .int .i64 a4, .int .i64 a5, .int .i64 b0, .int .i64 B1, .int .i64 b2, .int .i64 b3, .int .i64 b4, .int .i64 b5, .int .i64 W0, .int .i64 W1] := (by repeat (first | (with_reducible assumption) | ((with_reducible refine Blk.new' ?_); (simp [Nat.add_assoc]; done)) | (with_reducible refine Blk.alloc ?_ _) | (with_reducible refine Blk.more ?_ _ _) | (with_reducible refine Blk.drew ?_) | (with_reducible refine Blk.drewN ?_ _)))
  have hB3 : Blk (((((((w.alloc (.cells #[.int .i64 k0, .int .i64 k1, .int .i64 rate, .int .i64 buf, .int .i64 jit] 32)).alloc (.cells #[.int .i64 a0, .int .i64 A1, .int .i64 a2, .int .i64 a3, .int .i64 a4, .int .i64 a5, .int .i64 b0, .int .i64 B1, .int .i64 b2, .int .i64 b3, .int .i64 b4, .int .i64 b5, .int .i64 W0, .int .i64 W1] 44)).alloc (.cells #[.int .i64 l0, .int .i64 l1] 30)).alloc (.cells #[.int .i64 0, .int .i64 0, .int .i64 0, .int .i64 0, .int .i64 0, .int .i64 0, .int .i64 0, .int .i64 0, .int .i64 0, .int .i64 0, .int .i64 0, .int .i64 0, .int .i64 0, .int .i64 0] 44)).alloc (.cells #[.int .i64 0, .int .i64 0, .int .i64 0, .int .i64 0, .int .i64 0, .int .i64 0] 93)).more os1 d1).more os2 d2) (w.heap.size + 2) 30 #[.int .i64 l0, .int .i64 l1] := (by repeat (first | (with_reducible assumption) | ((with_reducible refine Blk.new' ?_); (simp [Nat.add_assoc]; done)) | (with_reducible refine Blk.alloc ?_ _) | (with_reducible refine Blk.more ?_ _ _) | (with_reducible refine Blk.drew ?_) | (with_reducible refine Blk.drewN ?_ _)))
  have hB4 : Blk (((((((w.alloc (.cells #[.int .i64 k0, .int .i64 k1, .int .i64 rate, .int .i64 buf, .int .i64 jit] 32)).alloc (.cells #[.int .i64 a0, .int .i64 A1, .int .i64 a2, .int .i64 a3, .int .i64 a4, .int .i64 a5, .int .i64 b0, .int .i64 B1, .int .i64 b2, .int .i64 b3, .int .i64 b4, .int .i64 b5, .int .i64 W0, .int .i64 W1] 44)).alloc (.cells #[.int .i64 l0, .int .i64 l1] 30)).alloc (.cells #[.int .i64 0, .int .i64 0, .int .i64 0, .int .i64 0, .int .i64 0, .int .i64 0, .int .i64 0, .int .i64 0, .int .i64 0, .int .i64 0, .int .i64 0, .int .i64 0, .int .i64 0, .int .i64 0] 44)).alloc (.cells #[.int .i64 0, .int .i64 0, .int .i64 0, .int .i64 0, .int .i64 0, .int .i64 0] 93)).more os1 d1).more os2 d2) (w.heap.size + 3) 44 #[.int .i64 0, .int .i64 0, .int .i64 0, .int .i64 0, .int .i64 0, .int .i64 0, .int .i64 0, .int .i64 0, .int .i64 0, .int .i64 0, .int .i64 0, .int .i64 0, .int .i64 0, .int .i64 0] := (by repeat (first | (with_reducible assumption) | ((with_reducible refine Blk.new' ?_); (simp [Nat.add_assoc]; done)) | (with_reducible refine Blk.alloc ?_ _) | (with_reducible refine Blk.more ?_ _ _) | (with_reducible refine Blk.drew ?_) | (with_reducible refine Blk.drewN ?_ _)))
  have hB5 : Blk (((((((w.alloc (.cells #[.int .i64 k0, .int .i64 k1, .int .i64 rate, .int .i64 buf, .int .i64 jit] 32)).alloc (.cells #[.int .i64 a0, .int .i64 A1, .int .i64 a2, .int .i64 a3, .int .i64 a4, .int .i64 a5, .int .i64 b0, .int .i64 B1, .int .i64 b2, .int .i64 b3, .int .i64 b4, .int .i64 b5, .int .i64 W0, .int .i64 W1] 44)).alloc (.cells #[.int .i64 l0, .int .i64 l1] 30)).alloc (.cells #[.int .i64 0, .int .i64 0, .int .i64 0, .int .i64 0, .int .i64 0, .int .i64 0, .int .i64 0, .int .i64 0, .int .i64 0, .int .i64 0, .int .i64 0, .int .i64 0, .int .i64 0, .int .i64 0] 44)).alloc (.cells #[.int .i64 0, .int .i64 0, .int .i64 0, .int .i64 0, .int .i64 0, .int .i64 0] 93)).more os1 d1).more os2 d2) (w.heap.size + 4) 93 #[.int .i64 0, .int .i64 0, .int .i64 0, .int .i64 0, .int .i64 0, .int .i64 0] := (by repeat (first | (with_reducible assumption) | ((with_reducible refine Blk.new' ?_); (simp [Nat.add_assoc]; done)) | (with_reducible refine Blk.alloc ?_ _) | (with_reducible refine Blk.more ?_ _ _) | (with_reducible refine Blk.drew ?_) | (with_reducible refine Blk.drewN ?_ _)))
  have hl := hB5.lt
  have e2 : (((((((w.alloc (.cells #[.int .i64 k0, .int .i64 k1, .int .i64 rate, .int .i64 buf, .int .i64 jit] 32)).alloc (.cells #[.int .i64 a0, .int .i64 A1, .int .i64 a2, .int .i64 a3, .int .i64 a4, .int .i64 a5, .int .i64 b0, .int .i64 B1, .int .i64 b2, .int .i64 b3, .int .i64 b4, .int .i64 b5, .int .i64 W0, .int .i64 W1] 44)).alloc (.cells #[.int .i64 l0, .int .i64 l1] 30)).alloc (.cells #[.int .i64 0, .int .i64 0, .int .i64 0, .int .i64 0, .int .i64 0, .int .i64 0, .int .i64 0, .int .i64 0, .int .i64 0, .int .i64 0, .int .i64 0, .int .i64 0, .int .i64 0, .int .i64 0] 44)).alloc (.cells #[.int .i64 0, .int .i64 0, .int .i64 0, .int .i64 0, .int .i64 0, .int .i64 0] 93)).more os1 d1).more os2 d2).cell? ⟨w.heap.size, 2, none⟩ = some (.int .i64 rate) := hB1.cell 2
  have e3 : (((((((w.alloc (.cells #[.int .i64 k0, .int .i64 k1, .int .i64 rate, .int .i64 buf, .int .i64 jit] 32)).alloc (.cells #[.int .i64 a0, .int .i64 A1, .int .i64 a2, .int .i64 a3, .int .i64 a4, .int .i64 a5, .int .i64 b0, .int .i64 B1, .int .i64 b2, .int .i64 b3, .int .i64 b4, .int .i64 b5, .int .i64 W0, .int .i64 W1] 44)).alloc (.cells #[.int .i64 l0, .int .i64 l1] 30)).alloc (.cells #[.int .i64 0, .int .i64 0, .int .i64 0, .int .i64 0, .int .i64 0, .int .i64 0, .int .i64 0, .int .i64 0, .int .i64 0, .int .i64 0, .int .i64 0, .int .i64 0, .int .i64 0, .int .i64 0] 44)).alloc (.cells #[.int .i64 0, .int .i64 0, .int .i64 0, .int .i64 0, .int .i64 0, .int .i64 0] 93)).more os1 d1).more os2 d2).cell? ⟨w.heap.size, 3, none⟩ = some (.int .i64 buf) := hB1.cell 3
  have e4 : (((((((w.alloc (.cells #[.int .i64 k0, .int .i64 k1, .int .i64 rate, .int .i64 buf, .int .i64 jit] 32)).alloc (.cells #[.int .i64 a0, .int .i64 A1, .int .i64 a2, .int .i64 a3, .int .i64 a4, .int .i64 a5, .int .i64 b0, .int .i64 B1, .int .i64 b2, .int .i64 b3, .int .i64 b4, .int .i64 b5, .int .i64 W0, .int .i64 W1] 44)).alloc (.cells #[.int .i64 l0, .int .i64 l1] 30)).alloc (.cells #[.int .i64 0, .int .i64 0, .int .i64 0, .int .i64 0, .int .i64 0, .int .i64 0, .int .i64 0, .int .i64 0, .int .i64 0, .int .i64 0, .int .i64 0, .int .i64 0, .int .i64 0, .int .i64 0] 44)).alloc (.cells #[.int .i64 0, .int .i64 0, .int .i64 0, .int .i64 0, .int .i64 0, .int .i64 0] 93)).more os1 d1).more os2 d2).cell? ⟨w.heap.size, 4, none⟩ = some (.int .i64 jit) := hB1.cell 4
  have e0 : (((((((w.alloc (.cells #[.int .i64 k0, .int .i64 k1, .int .i64 rate, .int .i64 buf, .int .i64 jit] 32)).alloc (.cells #[.int .i64 a0, .int .i64 A1, .int .i64 a2, .int .i64 a3, .int .i64 a4, .int .i64 a5, .int .i64 b0, .int .i64 B1, .int .i64 b2, .int .i64 b3, .int .i64 b4, .int .i64 b5, .int .i64 W0, .int .i64 W1] 44)).alloc (.cells #[.int .i64 l0, .int .i64 l1] 30)).alloc (.cells #[.int .i64 0, .int .i64 0, .int .i64 0, .int .i64 0, .int .i64 0, .int .i64 0, .int .i64 0, .int .i64 0, .int .i64 0, .int .i64 0, .int .i64 0, .int .i64 0, .int .i64 0, .int .i64 0] 44)).alloc (.cells #[.int .i64 0, .int .i64 0, .int .i64 0, .int .i64 0, .int .i64 0, .int .i64 0] 93)).more os1 d1).more os2 d2).cell? ⟨w.heap.size, 0, none⟩ = some (.int .i64 k0) := hB1.cell 0
  have e1 : (((((((w.alloc (.cells #[.int .i64 k0, .int .i64 k1, .int .i64 rate, .int .i64 buf, .int .i64 jit] 32)).alloc (.cells #[.int .i64 a0, .int .i64 A1, .int .i64 a2, .int .i64 a3, .int .i64 a4, .int .i64 a5, .int .i64 b0, .int .i64 B1, .int .i64 b2, .int .i64 b3, .int .i64 b4, .int .i64 b5, .int .i64 W0, .int .i64 W1] 44)).alloc (.cells #[.int .i64 l0, .int .i64 l1] 30)).alloc (.cells #[.int .i64 0, .int .i64 0, .int .i64 0, .int .i64 0, .int .i64 0, .int .i64 0, .int .i64 0, .int .i64 0, .int .i64 0, .int .i64 0, .int .i64 0, .int .i64 0, .int .i64 0, .int .i64 0] 44)).alloc (.cells #[.int .i64 0, .int .i64 0, .int .i64 0, .int .i64 0, .int .i64 0, .int .i64 0] 93)).more os1 d1).more os2 d2).cell? ⟨w.heap.size, 1, none⟩ = some (.int .i64 k1) := hB1.cell 1
  have f1 : (((((((w.alloc (.cells #[.int .i64 k0, .int .i64 k1, .int .i64 rate, .int .i64 buf, .int .i64 jit] 32)).alloc (.cells #[.int .i64 a0, .int .i64 A1, .int .i64 a2, .int .i64 a3, .int .i64 a4, .int .i64 a5, .int .i64 b0, .int .i64 B1, .int .i64 b2, .int .i64 b3, .int .i64 b4, .int .i64 b5, .int .i64 W0, .int .i64 W1] 44)).alloc (.cells #[.int .i64 l0, .int .i64 l1] 30)).alloc (.cells #[.int .i64 0, .int .i64 0, .int .i64 0, .int .i64 0, .int .i64 0, .int .i64 0, .int .i64 0, .int .i64 0, .int .i64 0, .int .i64 0, .int .i64 0, .int .i64 0, .int .i64 0, .int .i64 0] 44)).alloc (.cells #[.int .i64 0, .int .i64 0, .int .i64 0, .int .i64 0, .int .i64 0, .int .i64 0] 93)).more os1 d1).more os2 d2).cell? ⟨w.heap.size + 1, 1, none⟩ = some (.int .i64 A1) := hB2.cell 1
  have f2 : (((((((w.alloc (.cells #[.int .i64 k0, .int .i64 k1, .int .i64 rate, .int .i64 buf, .int .i64 jit] 32)).alloc (.cells #[.int .i64 a0, .int .i64 A1, .int .i64 a2, .int .i64 a3, .int .i64 a4, .int .i64 a5, .int .i64 b0, .int .i64 B1, .int .i64 b2, .int .i64 b3, .int .i64 b4, .int .i64 b5, .int .i64 W0, .int .i64 W1] 44)).alloc (.cells #[.int .i64 l0, .int .i64 l1] 30)).alloc (.cells #[.int .i64 0, .int .i64 0, .int .i64 0, .int .i64 0, .int .i64 0, .int .i64 0, .int .i64 0, .int .i64 0, .int .i64 0, .int .i64 0, .int .i64 0, .int .i64 0, .int .i64 0, .int .i64 0] 44)).alloc (.cells #[.int .i64 0, .int .i64 0, .int .i64 0, .int .i64 0, .int .i64 0, .int .i64 0] 93)).more os1 d1).more os2 d2).cell? ⟨w.heap.size + 1, 7, none⟩ = some (.int .i64 B1) := hB2.cell 7
  have f3 : (((((((w.alloc (.cells #[.int .i64 k0, .int .i64 k1, .int .i64 rate, .int .i64 buf, .int .i64 jit] 32)).alloc (.cells #[.int .i64 a0, .int .i64 A1, .int .i64 a2, .int .i64 a3, .int .i64 a4, .int .i64 a5, .int .i64 b0, .int .i64 B1, .int .i64 b2, .int .i64 b3, .int .i64 b4, .int .i64 b5, .int .i64 W0, .int .i64 W1] 44)).alloc (.cells #[.int .i64 l0, .int .i64 l1] 30)).alloc (.cells #[.int .i64 0, .int .i64 0, .int .i64 0, .int .i64 0, .int .i64 0, .int .i64 0, .int .i64 0, .int .i64 0, .int .i64 0, .int .i64 0, .int .i64 0, .int .i64 0, .int .i64 0, .int .i64 0] 44)).alloc (.cells #[.int .i64 0, .int .i64 0, .int .i64 0, .int .i64 0, .int .i64 0, .int .i64 0] 93)).more os1 d1).more os2 d2).cell? ⟨w.heap.size + 1, 12, none⟩ = some (.int .i64 W0) := hB2.cell 12
  have f4 : (((((((w.alloc (.cells #[.int .i64 k0, .int .i64 k1, .int .i64 rate, .int .i64 buf, .int .i64 jit] 32)).alloc (.cells #[.int .i64 a0, .int .i64 A1, .int .i64 a2, .int .i64 a3, .int .i64 a4, .int .i64 a5, .int .i64 b0, .int .i64 B1, .int .i64 b2, .int .i64 b3, .int .i64 b4, .int .i64 b5, .int .i64 W0, .int .i64 W1] 44)).alloc (.cells #[.int .i64 l0, .int .i64 l1] 30)).alloc (.cells #[.int .i64 0, .int .i64 0, .int .i64 0, .int .i64 0, .int .i64 0, .int .i64 0, .int .i64 0, .int .i64 0, .int .i64 0, .int .i64 0, .int .i64 0, .int .i64 0, .int .i64 0, .int .i64 0] 44)).alloc (.cells #[.int .i64 0, .int .i64 0, .int .i64 0, .int .i64 0, .int .i64 0, .int .i64 0] 93)).more os1 d1).more os2 d2).cell? ⟨w.heap.size + 1, 13, none⟩ = some (.int .i64 W1) := hB2.cell 13
  have hmb := hm.below
  generalize (((((((w.alloc (.cells #[.int .i64 k0, .int .i64 k1, .int .i64 rate, .int .i64 buf, .int .i64 jit] 32)).alloc (.cells #[.int .i64 a0, .int .i64 A1, .int .i64 a2, .int .i64 a3, .int .i64 a4, .int .i64 a5, .int .i64 b0, .int .i64 B1, .int .i64 b2, .int .i64 b3, .int .i64 b4, .int .i64 b5, .int .i64 W0, .int .i64 W1] 44)).alloc (.cells #[.int .i64 l0, .int .i64 l1] 30)).alloc (.cells #[.int .i64 0, .int .i64 0, .int .i64 0, .int .i64 0, .int .i64 0, .int .i64 0, .int .i64 0, .int .i64 0, .int .i64 0, .int .i64 0, .int .i64 0, .int .i64 0, .int .i64 0, .int .i64 0] 44)).alloc (.cells #[.int .i64 0, .int .i64 0, .int .i64 0, .int .i64 0, .int .i64 0, .int .i64 0] 93)).more os1 d1).more os2 d2) = wq at *
  have hz1 : w.heap.size < wq.heap.size := by omega
  have hz2 : w.heap.size + 1 < wq.heap.size := by omega
  go_loopw [45] (fun i wr => ∃ j : Nat, j ≤ 2 ∧ i = .int .i64 j ∧ wr = wq) (fun i _ => 2 - (intOf i).toNat)
  case atStart => exact ⟨0, by omega, rfl, rfl⟩
  case round =>
    obtain ⟨j, hj, hi, hwr⟩ := hrel
    subst hwr
    rcases (show j = 0 ∨ j = 1 ∨ j = 2 by omega) with rfl | rfl | rfl
    · have hi : _ = Value.int .i64 0 := hi
      subst hi
      go_wp2
      go_roundw
      case rel => exact ⟨1, by omega, by go_num, by first | rfl | trivial⟩
      case measure => simp [intOf]
    · have hi : _ = Value.int .i64 1 := hi
      subst hi
      go_wp2
      go_roundw
      case rel => exact ⟨2, by omega, by go_num, by first | rfl | trivial⟩
      case measure => simp [intOf]
    · have hi : _ = Value.int .i64 2 := hi
      subst hi
      go_wp2_with fail
      refine (pass_good rate buf W0 W1 A1 B1 _ HL.out _ hs).mono ?_
      rintro e w1 ⟨rfl, os3, d3, rfl⟩
      go_wp2_with fail
      have hZB : Below w.heap.size w (((wr.more os3 d3).alloc (.cells #[.int .i64 A1, .int .i64 B1, .int .i64 c0, .int .i64 c1, .int .i64 x0, .int .i64 x1] 93)).alloc (.cells #[.int .i64 y0, .int .i64 y1] 30)) := More.below ((hm.more _ _).alloc _ |>.alloc _)
      have hB1 : Blk (((wr.more os3 d3).alloc (.cells #[.int .i64 A1, .int .i64 B1, .int .i64 c0, .int .i64 c1, .int .i64 x0, .int .i64 x1] 93)).alloc (.cells #[.int .i64 y0, .int .i64 y1] 30)) w.heap.size 32 #[.int .i64 k0, .int .i64 k1, .int .i64 rate, .int .i64 buf, .int .i64 jit] := ((hB1.more _ _).alloc _).alloc _
      have hB2 : Blk (((wr.more os3 d3).alloc (.cells #[.int .i64 A1, .int .i64 B1, .int .i64 c0, .int .i64 c1, .int .i64 x0, .int .i64 x1] 93)).alloc (.cells #[.int .i64 y0, .int .i64 y1] 30)) (w.heap.size + 1) 44 #[.int .i64 a0, .int .i64 A1, .int .i64 a2, .int .i64 a3, .int .i64 a4, .int .i64 a5, .int .i64 b0, .int .i64 B1, .int .i64 b2, .int .i64 b3, .int .i64 b4, .int .i64 b5, .int .i64 W0, .int .i64 W1] := ((hB2.more _ _).alloc _).alloc _
      have hB3 : Blk (((wr.more os3 d3).alloc (.cells #[.int .i64 A1, .int .i64 B1, .int .i64 c0, .int .i64 c1, .int .i64 x0, .int .i64 x1] 93)).alloc (.cells #[.int .i64 y0, .int .i64 y1] 30)) (w.heap.size + 2) 30 #[.int .i64 l0, .int .i64 l1] := ((hB3.more _ _).alloc _).alloc _
      have hB4 : Blk (((wr.more os3 d3).alloc (.cells #[.int .i64 A1, .int .i64 B1, .int .i64 c0, .int .i64 c1, .int .i64 x0, .int .i64 x1] 93)).alloc (.cells #[.int .i64 y0, .int .i64 y1] 30)) (w.heap.size + 3) 44 #[.int .i64 0, .int .i64 0, .int .i64 0, .int .i64 0, .int .i64 0, .int .i64 0, .int .i64 0, .int .i64 0, .int .i64 0, .int .i64 0, .int .i64 0, .int .i64 0, .int .i64 0, .int .i64 0] := ((hB4.more _ _).alloc _).alloc _
      have hB5 : Blk (((wr.more os3 d3).alloc (.cells #[.int .i64 A1, .int .i64 B1, .int .i64 c0, .int .i64 c1, .int .i64 x0, .int .i64 x1] 93)).alloc (.cells #[.int .i64 y0, .int .i64 y1] 30)) (w.heap.size + 4) 93 #[.int .i64 0, .int .i64 0, .int .i64 0, .int .i64 0, .int .i64 0, .int .i64 0] := ((hB5.more _ _).alloc _).alloc _
      have hP0 : wr.heap.size + os3.size = (wr.more os3 d3).heap.size := by simp
      have hB6 : Blk (((wr.more os3 d3).alloc (.cells #[.int .i64 A1, .int .i64 B1, .int .i64 c0, .int .i64 c1, .int .i64 x0, .int .i64 x1] 93)).alloc (.cells #[.int .i64 y0, .int .i64 y1] 30)) (wr.more os3 d3).heap.size 93 #[.int .i64 A1, .int .i64 B1, .int .i64 c0, .int .i64 c1, .int .i64 x0, .int .i64 x1] := (Blk.new _ _ _).alloc _
      have hO0 : wr.heap.size + (os3.size + 2) = (((wr.more os3 d3).alloc (.cells #[.int .i64 A1, .int .i64 B1, .int .i64 c0, .int .i64 c1, .int .i64 x0, .int .i64 x1] 93)).alloc (.cells #[.int .i64 y0, .int .i64 y1] 30)).heap.size := by simp; omega
      rw [hO0, hP0]
      have hls : w.heap.size + 4 < (wr.more os3 d3).heap.size ∧ (wr.more os3 d3).heap.size < (((wr.more os3 d3).alloc (.cells #[.int .i64 A1, .int .i64 B1, .int .i64 c0, .int .i64 c1, .int .i64 x0, .int .i64 x1] 93)).alloc (.cells #[.int .i64 y0, .int .i64 y1] 30)).heap.size := by constructor <;> (simp; omega)
      clear hO0 hP0 e0 e1 e2 e3 e4 f1 f2 f3 f4 hm hmb hl hz1 hz2
      generalize (((wr.more os3 d3).alloc (.cells #[.int .i64 A1, .int .i64 B1, .int .i64 c0, .int .i64 c1, .int .i64 x0, .int .i64 x1] 93)).alloc (.cells #[.int .i64 y0, .int .i64 y1] 30)) = wz at *
      generalize (wr.more os3 d3).heap.size = P at *
      obtain ⟨hls1, hls2⟩ := hls
      have hN := Blk.new wz 44 #[.int .i64 0, .int .i64 0, .int .i64 0, .int .i64 0, .int .i64 0, .int .i64 0, .int .i64 0, .int .i64 0, .int .i64 0, .int .i64 0, .int .i64 0, .int .i64 0, .int .i64 y0, .int .i64 y1]
      have hbe0 : Below wz.heap.size wz (wz.alloc (.cells #[.int .i64 0, .int .i64 0, .int .i64 0, .int .i64 0, .int .i64 0, .int .i64 0, .int .i64 0, .int .i64 0, .int .i64 0, .int .i64 0, .int .i64 0, .int .i64 0, .int .i64 y0, .int .i64 y1] 44)) := (Below.refl _ _).alloc (Nat.le_refl _) _
      have hZs := hZB.size
      generalize wz.alloc (.cells #[.int .i64 0, .int .i64 0, .int .i64 0, .int .i64 0, .int .i64 0, .int .i64 0, .int .i64 0, .int .i64 0, .int .i64 0, .int .i64 0, .int .i64 0, .int .i64 0, .int .i64 y0, .int .i64 y1] 44) = w8 at *
      generalize wz.heap.size = O at *
      go_loopw [83] (fun i wr => ∃ j : Nat, j ≤ 2 ∧ i = .int .i64 j ∧ Hid (Blk wr O 44 (if j = 0 then #[.int .i64 0, .int .i64 0, .int .i64 0, .int .i64 0, .int .i64 0, .int .i64 0, .int .i64 0, .int .i64 0, .int .i64 0, .int .i64 0, .int .i64 0, .int .i64 0, .int .i64 y0, .int .i64 y1] else if j = 1 then #[.int .i64 na0, .int .i64 na1, .int .i64 na2, .int .i64 na3, .int .i64 na4, .int .i64 na5, .int .i64 0, .int .i64 0, .int .i64 0, .int .i64 0, .int .i64 0, .int .i64 0, .int .i64 y0, .int .i64 y1] else #[.int .i64 na0, .int .i64 na1, .int .i64 na2, .int .i64 na3, .int .i64 na4, .int .i64 na5, .int .i64 nb0, .int .i64 nb1, .int .i64 nb2, .int .i64 nb3, .int .i64 nb4, .int .i64 nb5, .int .i64 y0, .int .i64 y1])) ∧ Below O wz wr) (fun i _ => 2 - (intOf i).toNat)
      case atStart => exact ⟨0, by omega, rfl, hN, hbe0⟩
      case round =>
        obtain ⟨j, hj, hi, hO, hbe⟩ := hrel
        rcases (show j = 0 ∨ j = 1 ∨ j = 2 by omega) with rfl | rfl | rfl
        · have hi : _ = Value.int .i64 0 := hi
          subst hi
          have hO : Blk wr O 44 #[.int .i64 0, .int .i64 0, .int .i64 0, .int .i64 0, .int .i64 0, .int .i64 0, .int .i64 0, .int .i64 0, .int .i64 0, .int .i64 0, .int .i64 0, .int .i64 0, .int .i64 y0, .int .i64 y1] := hO.out
          have hOl := hO.lt
          rcases hk0.out with rfl | rfl | rfl
          · go_wp2_with fail
            refine (of_1 _).mono ?_
            rintro e w1 ⟨rfl, os4, d4, rfl⟩
            go_wp2_with fail
            have hC := Blk.new (wr.more os4 d4) 134 #[.func (.func 94) #[] #[], .func (.func 95) #[] #[], .func (.func 96) #[] #[]]
            have hbx : Below O wz ((wr.more os4 d4).alloc (.cells #[.func (.func 94) #[] #[], .func (.func 95) #[] #[], .func (.func 96) #[] #[]] 134)) := (hbe.more (by omega) os4 d4).alloc (by simp; omega) _
            have hOx : Blk ((wr.more os4 d4).alloc (.cells #[.func (.func 94) #[] #[], .func (.func 95) #[] #[], .func (.func 96) #[] #[]] 134)) O 44 #[.int .i64 0, .int .i64 0, .int .i64 0, .int .i64 0, .int .i64 0, .int .i64 0, .int .i64 0, .int .i64 0, .int .i64 0, .int .i64 0, .int .i64 0, .int .i64 0, .int .i64 y0, .int .i64 y1] := (hO.more os4 d4).alloc _
            have hS2 : Blk ((wr.more os4 d4).alloc (.cells #[.func (.func 94) #[] #[], .func (.func 95) #[] #[], .func (.func 96) #[] #[]] 134)) (w.heap.size + 1) 44 #[.int .i64 a0, .int .i64 A1, .int .i64 a2, .int .i64 a3, .int .i64 a4, .int .i64 a5, .int .i64 b0, .int .i64 B1, .int .i64 b2, .int .i64 b3, .int .i64 b4, .int .i64 b5, .int .i64 W0, .int .i64 W1] := hB2.below hbx (by omega)
            have hS3 : Blk ((wr.more os4 d4).alloc (.cells #[.func (.func 94) #[] #[], .func (.func 95) #[] #[], .func (.func 96) #[] #[]] 134)) (w.heap.size + 2) 30 #[.int .i64 l0, .int .i64 l1] := hB3.below hbx (by omega)
            have hszx : O ≤ ((wr.more os4 d4).alloc (.cells #[.func (.func 94) #[] #[], .func (.func 95) #[] #[], .func (.func 96) #[] #[]] 134)).heap.size := by simp; omega
            have c1 : ((wr.more os4 d4).alloc (.cells #[.func (.func 94) #[] #[], .func (.func 95) #[] #[], .func (.func 96) #[] #[]] 134)).cell? ⟨(wr.more os4 d4).heap.size, 2, none⟩ = some (.func (.func 96) #[] #[]) := hC.cell 2
            have s0 : ((wr.more os4 d4).alloc (.cells #[.func (.func 94) #[] #[], .func (.func 95) #[] #[], .func (.func 96) #[] #[]] 134)).cell? ⟨w.heap.size + 1, 0, none⟩ = some (.int .i64 a0) := hS2.cell 0
            have s1 : ((wr.more os4 d4).alloc (.cells #[.func (.func 94) #[] #[], .func (.func 95) #[] #[], .func (.func 96) #[] #[]] 134)).cell? ⟨w.heap.size + 1, 1, none⟩ = some (.int .i64 A1) := hS2.cell 1
            have s2 : ((wr.more os4 d4).alloc (.cells #[.func (.func 94) #[] #[], .func (.func 95) #[] #[], .func (.func 96) #[] #[]] 134)).cell? ⟨w.heap.size + 1, 2, none⟩ = some (.int .i64 a2) := hS2.cell 2
            have s3 : ((wr.more os4 d4).alloc (.cells #[.func (.func 94) #[] #[], .func (.func 95) #[] #[], .func (.func 96) #[] #[]] 134)).cell? ⟨w.heap.size + 1, 3, none⟩ = some (.int .i64 a3) := hS2.cell 3
            have s4 : ((wr.more os4 d4).alloc (.cells #[.func (.func 94) #[] #[], .func (.func 95) #[] #[], .func (.func 96) #[] #[]] 134)).cell? ⟨w.heap.size + 1, 4, none⟩ = some (.int .i64 a4) := hS2.cell 4
            have s5 : ((wr.more os4 d4).alloc (.cells #[.func (.func 94) #[] #[], .func (.func 95) #[] #[], .func (.func 96) #[] #[]] 134)).cell? ⟨w.heap.size + 1, 5, none⟩ = some (.int .i64 a5) := hS2.cell 5
            have s6 : ((wr.more os4 d4).alloc (.cells #[.func (.func 94) #[] #[], .func (.func 95) #[] #[], .func (.func 96) #[] #[]] 134)).cell? ⟨w.heap.size + 2, 0, none⟩ = some (.int .i64 l0) := hS3.cell 0
            have hE : wr.heap.size + os4.size = (wr.more os4 d4).heap.size := by simp
            have hEz : O < (wr.more os4 d4).heap.size := by simp; omega
            rw [hE]
            clear hC hS2 hS3
            generalize ((wr.more os4 d4).alloc (.cells #[.func (.func 94) #[] #[], .func (.func 95) #[] #[], .func (.func 96) #[] #[]] 134)) = wx at *
            generalize (wr.more os4 d4).heap.size = E at *
            refine wp_region_held_drew (S := (fun w' => w'.cell? ⟨E, 2, none⟩ = some (.func (.func 96) #[] #[]) ∧ w'.cell? ⟨w.heap.size + 1, 0, none⟩ = some (.int .i64 a0) ∧ w'.cell? ⟨w.heap.size + 1, 1, none⟩ = some (.int .i64 A1) ∧ w'.cell? ⟨w.heap.size + 1, 2, none⟩ = some (.int .i64 a2) ∧ w'.cell? ⟨w.heap.size + 1, 3, none⟩ = some (.int .i64 a3) ∧ w'.cell? ⟨w.heap.size + 1, 4, none⟩ = some (.int .i64 a4) ∧ w'.cell? ⟨w.heap.size + 1, 5, none⟩ = some (.int .i64 a5) ∧ w'.cell? ⟨w.heap.size + 2, 0, none⟩ = some (.int .i64 l0))) (by kernel_rfl) ?_ (fun hHeld => ?_)
            · exact ⟨c1, s0, s1, s2, s3, s4, s5, s6⟩
            refine tk8 0 rfl ?_; try simp only [lay]
            refine tk8 1 rfl ?_; try simp only [lay]
            refine tk8 2 rfl ?_; try simp only [lay]
            refine tk8 3 rfl ?_; try simp only [lay]
            refine tk8 4 rfl ?_; try simp only [lay]
            refine tk8 5 rfl ?_; try simp only [lay]
            refine tk8 6 rfl ?_; try simp only [lay]
            refine tk8 7 rfl ?_; try simp only [lay]
            refine tk8 8 rfl ?_; try simp only [lay]
            refine tk8 9 rfl ?_; try simp only [lay]
            refine tk8 10 rfl ?_; try simp only [lay]
            refine tk8 11 rfl ?_; try simp only [lay]
            refine tk8 16 rfl ?_; try simp only [lay]
            refine wpAnyH_ready (rs := [12]) (by kernel_rfl) (by simp) ?_
            refine AllReadyH.cons rfl (fun K hK => ?_) AllReadyH.nil
            go_simp
            refine (next_1 a0 A1 a2 a3 a4 a5 ((dl : Int) + l0) na0 na1 na2 na3 na4 na5 _ hc0.out hd0.1 hd0.2 hN0).mono ?_
            rintro e w' ⟨rfl, os9, d9, rfl⟩
            refine hK.out _ _ ?_ (fun hHeld => ?_)
            · exact by obtain ⟨h0, h1, h2, h3, h4, h5, h6, h7⟩ := hHeld; exact ⟨more_keep _ _ h0, more_keep _ _ h1, more_keep _ _ h2, more_keep _ _ h3, more_keep _ _ h4, more_keep _ _ h5, more_keep _ _ h6, more_keep _ _ h7⟩
            clear hK K
            try simp only [lay]
            have hOy : Blk (wx.drew.more os9 d9) O 44 #[.int .i64 0, .int .i64 0, .int .i64 0, .int .i64 0, .int .i64 0, .int .i64 0, .int .i64 0, .int .i64 0, .int .i64 0, .int .i64 0, .int .i64 0, .int .i64 0, .int .i64 y0, .int .i64 y1] := (hOx.drew).more _ _
            have hby : Below O wz (wx.drew.more os9 d9) := (hbx.drewN 1).more (by first | exact hszx | (simp; omega)) _ _
            have o0 : (wx.drew.more os9 d9).cell? ⟨O, 0, none⟩ = some (.int .i64 0) := hOy.cell 0
            have o1 : (wx.drew.more os9 d9).cell? ⟨O, 1, none⟩ = some (.int .i64 0) := hOy.cell 1
            have o2 : (wx.drew.more os9 d9).cell? ⟨O, 2, none⟩ = some (.int .i64 0) := hOy.cell 2
            have o3 : (wx.drew.more os9 d9).cell? ⟨O, 3, none⟩ = some (.int .i64 0) := hOy.cell 3
            have o4 : (wx.drew.more os9 d9).cell? ⟨O, 4, none⟩ = some (.int .i64 0) := hOy.cell 4
            have o5 : (wx.drew.more os9 d9).cell? ⟨O, 5, none⟩ = some (.int .i64 0) := hOy.cell 5
            have p0 : (wx.drew.more os9 d9).frozen? ⟨O, 0, none⟩ = false := hOy.frozen 0
            have p1 : (wx.drew.more os9 d9).frozen? ⟨O, 1, none⟩ = false := hOy.frozen 1
            have p2 : (wx.drew.more os9 d9).frozen? ⟨O, 2, none⟩ = false := hOy.frozen 2
            have p3 : (wx.drew.more os9 d9).frozen? ⟨O, 3, none⟩ = false := hOy.frozen 3
            have p4 : (wx.drew.more os9 d9).frozen? ⟨O, 4, none⟩ = false := hOy.frozen 4
            have p5 : (wx.drew.more os9 d9).frozen? ⟨O, 5, none⟩ = false := hOy.frozen 5
            clear hOx hbx
            generalize wx.drew.more os9 d9 = wy at *
            refine tk8 13 rfl ?_; try simp only [lay]
            refine tk8 14 rfl ?_; try simp only [lay]
            refine tk8 15 rfl ?_; try simp only [lay]
            refine tk8 17 rfl ?_; try simp only [lay]
            refine wpAnyH_ready (rs := [18]) (by kernel_rfl) (by simp) ?_
            refine AllReadyH.cons rfl (fun K hK => ?_) AllReadyH.nil
            go_simp
            refine hK.out _ _ ?_ (fun hHeld => ?_)
            · exact by obtain ⟨h0, h1, h2, h3, h4, h5, h6, h7⟩ := hHeld; exact ⟨far6 h0 (by simp only [ne_eq]; omega), far6 h1 (by simp only [ne_eq]; omega), far6 h2 (by simp only [ne_eq]; omega), far6 h3 (by simp only [ne_eq]; omega), far6 h4 (by simp only [ne_eq]; omega), far6 h5 (by simp only [ne_eq]; omega), far6 h6 (by simp only [ne_eq]; omega), far6 h7 (by simp only [ne_eq]; omega)⟩
            clear hK K
            try simp only [lay]
            refine wpAnyH_done (by kernel_rfl) ?_ _
            have hOz' : Blk ((((((wy.setCell ⟨O, 0, none⟩ (.int .i64 na0)).setCell ⟨O, 1, none⟩ (.int .i64 na1)).setCell ⟨O, 2, none⟩ (.int .i64 na2)).setCell ⟨O, 3, none⟩ (.int .i64 na3)).setCell ⟨O, 4, none⟩ (.int .i64 na4)).setCell ⟨O, 5, none⟩ (.int .i64 na5)) O 44 #[.int .i64 na0, .int .i64 na1, .int .i64 na2, .int .i64 na3, .int .i64 na4, .int .i64 na5, .int .i64 0, .int .i64 0, .int .i64 0, .int .i64 0, .int .i64 0, .int .i64 0, .int .i64 y0, .int .i64 y1] := by
              have hh := ((((((hOy.put 0 (.int .i64 na0)).put 1 (.int .i64 na1)).put 2 (.int .i64 na2)).put 3 (.int .i64 na3)).put 4 (.int .i64 na4)).put 5 (.int .i64 na5))
              simpa only [List.setIfInBounds_toArray, List.set_cons_zero, List.set_cons_succ] using hh
            have hOz : Hid (Blk ((((((wy.setCell ⟨O, 0, none⟩ (.int .i64 na0)).setCell ⟨O, 1, none⟩ (.int .i64 na1)).setCell ⟨O, 2, none⟩ (.int .i64 na2)).setCell ⟨O, 3, none⟩ (.int .i64 na3)).setCell ⟨O, 4, none⟩ (.int .i64 na4)).setCell ⟨O, 5, none⟩ (.int .i64 na5)) O 44 #[.int .i64 na0, .int .i64 na1, .int .i64 na2, .int .i64 na3, .int .i64 na4, .int .i64 na5, .int .i64 0, .int .i64 0, .int .i64 0, .int .i64 0, .int .i64 0, .int .i64 0, .int .i64 y0, .int .i64 y1]) := hOz'
            clear hOz'
            have hbz2 : Below O wz ((((((wy.setCell ⟨O, 0, none⟩ (.int .i64 na0)).setCell ⟨O, 1, none⟩ (.int .i64 na1)).setCell ⟨O, 2, none⟩ (.int .i64 na2)).setCell ⟨O, 3, none⟩ (.int .i64 na3)).setCell ⟨O, 4, none⟩ (.int .i64 na4)).setCell ⟨O, 5, none⟩ (.int .i64 na5)) := ((((((hby.setCell (p := ⟨O, 0, none⟩) (Nat.le_refl _) (.int .i64 na0)).setCell (p := ⟨O, 1, none⟩) (Nat.le_refl _) (.int .i64 na1)).setCell (p := ⟨O, 2, none⟩) (Nat.le_refl _) (.int .i64 na2)).setCell (p := ⟨O, 3, none⟩) (Nat.le_refl _) (.int .i64 na3)).setCell (p := ⟨O, 4, none⟩) (Nat.le_refl _) (.int .i64 na4)).setCell (p := ⟨O, 5, none⟩) (Nat.le_refl _) (.int .i64 na5))
            go_wp2
            go_roundw
            case rel => exact ⟨1, by omega, by go_num, hOz, hbz2⟩
            case measure => simp [intOf]
          · go_wp2_with fail
            refine (of_2 _).mono ?_
            rintro e w1 ⟨rfl, os4, d4, rfl⟩
            go_wp2_with fail
            have hC := Blk.new (wr.more os4 d4) 134 #[.func (.func 97) #[] #[], .func (.func 98) #[] #[], .func (.func 99) #[] #[]]
            have hbx : Below O wz ((wr.more os4 d4).alloc (.cells #[.func (.func 97) #[] #[], .func (.func 98) #[] #[], .func (.func 99) #[] #[]] 134)) := (hbe.more (by omega) os4 d4).alloc (by simp; omega) _
            have hOx : Blk ((wr.more os4 d4).alloc (.cells #[.func (.func 97) #[] #[], .func (.func 98) #[] #[], .func (.func 99) #[] #[]] 134)) O 44 #[.int .i64 0, .int .i64 0, .int .i64 0, .int .i64 0, .int .i64 0, .int .i64 0, .int .i64 0, .int .i64 0, .int .i64 0, .int .i64 0, .int .i64 0, .int .i64 0, .int .i64 y0, .int .i64 y1] := (hO.more os4 d4).alloc _
            have hS2 : Blk ((wr.more os4 d4).alloc (.cells #[.func (.func 97) #[] #[], .func (.func 98) #[] #[], .func (.func 99) #[] #[]] 134)) (w.heap.size + 1) 44 #[.int .i64 a0, .int .i64 A1, .int .i64 a2, .int .i64 a3, .int .i64 a4, .int .i64 a5, .int .i64 b0, .int .i64 B1, .int .i64 b2, .int .i64 b3, .int .i64 b4, .int .i64 b5, .int .i64 W0, .int .i64 W1] := hB2.below hbx (by omega)
            have hS3 : Blk ((wr.more os4 d4).alloc (.cells #[.func (.func 97) #[] #[], .func (.func 98) #[] #[], .func (.func 99) #[] #[]] 134)) (w.heap.size + 2) 30 #[.int .i64 l0, .int .i64 l1] := hB3.below hbx (by omega)
            have hszx : O ≤ ((wr.more os4 d4).alloc (.cells #[.func (.func 97) #[] #[], .func (.func 98) #[] #[], .func (.func 99) #[] #[]] 134)).heap.size := by simp; omega
            have c1 : ((wr.more os4 d4).alloc (.cells #[.func (.func 97) #[] #[], .func (.func 98) #[] #[], .func (.func 99) #[] #[]] 134)).cell? ⟨(wr.more os4 d4).heap.size, 2, none⟩ = some (.func (.func 99) #[] #[]) := hC.cell 2
            have s0 : ((wr.more os4 d4).alloc (.cells #[.func (.func 97) #[] #[], .func (.func 98) #[] #[], .func (.func 99) #[] #[]] 134)).cell? ⟨w.heap.size + 1, 0, none⟩ = some (.int .i64 a0) := hS2.cell 0
            have s1 : ((wr.more os4 d4).alloc (.cells #[.func (.func 97) #[] #[], .func (.func 98) #[] #[], .func (.func 99) #[] #[]] 134)).cell? ⟨w.heap.size + 1, 1, none⟩ = some (.int .i64 A1) := hS2.cell 1
            have s2 : ((wr.more os4 d4).alloc (.cells #[.func (.func 97) #[] #[], .func (.func 98) #[] #[], .func (.func 99) #[] #[]] 134)).cell? ⟨w.heap.size + 1, 2, none⟩ = some (.int .i64 a2) := hS2.cell 2
            have s3 : ((wr.more os4 d4).alloc (.cells #[.func (.func 97) #[] #[], .func (.func 98) #[] #[], .func (.func 99) #[] #[]] 134)).cell? ⟨w.heap.size + 1, 3, none⟩ = some (.int .i64 a3) := hS2.cell 3
            have s4 : ((wr.more os4 d4).alloc (.cells #[.func (.func 97) #[] #[], .func (.func 98) #[] #[], .func (.func 99) #[] #[]] 134)).cell? ⟨w.heap.size + 1, 4, none⟩ = some (.int .i64 a4) := hS2.cell 4
            have s5 : ((wr.more os4 d4).alloc (.cells #[.func (.func 97) #[] #[], .func (.func 98) #[] #[], .func (.func 99) #[] #[]] 134)).cell? ⟨w.heap.size + 1, 5, none⟩ = some (.int .i64 a5) := hS2.cell 5
            have s6 : ((wr.more os4 d4).alloc (.cells #[.func (.func 97) #[] #[], .func (.func 98) #[] #[], .func (.func 99) #[] #[]] 134)).cell? ⟨w.heap.size + 2, 0, none⟩ = some (.int .i64 l0) := hS3.cell 0
            have hE : wr.heap.size + os4.size = (wr.more os4 d4).heap.size := by simp
            have hEz : O < (wr.more os4 d4).heap.size := by simp; omega
            rw [hE]
            clear hC hS2 hS3
            generalize ((wr.more os4 d4).alloc (.cells #[.func (.func 97) #[] #[], .func (.func 98) #[] #[], .func (.func 99) #[] #[]] 134)) = wx at *
            generalize (wr.more os4 d4).heap.size = E at *
            refine wp_region_held_drew (S := (fun w' => w'.cell? ⟨E, 2, none⟩ = some (.func (.func 99) #[] #[]) ∧ w'.cell? ⟨w.heap.size + 1, 0, none⟩ = some (.int .i64 a0) ∧ w'.cell? ⟨w.heap.size + 1, 1, none⟩ = some (.int .i64 A1) ∧ w'.cell? ⟨w.heap.size + 1, 2, none⟩ = some (.int .i64 a2) ∧ w'.cell? ⟨w.heap.size + 1, 3, none⟩ = some (.int .i64 a3) ∧ w'.cell? ⟨w.heap.size + 1, 4, none⟩ = some (.int .i64 a4) ∧ w'.cell? ⟨w.heap.size + 1, 5, none⟩ = some (.int .i64 a5) ∧ w'.cell? ⟨w.heap.size + 2, 0, none⟩ = some (.int .i64 l0))) (by kernel_rfl) ?_ (fun hHeld => ?_)
            · exact ⟨c1, s0, s1, s2, s3, s4, s5, s6⟩
            refine tk8 0 rfl ?_; try simp only [lay]
            refine tk8 1 rfl ?_; try simp only [lay]
            refine tk8 2 rfl ?_; try simp only [lay]
            refine tk8 3 rfl ?_; try simp only [lay]
            refine tk8 4 rfl ?_; try simp only [lay]
            refine tk8 5 rfl ?_; try simp only [lay]
            refine tk8 6 rfl ?_; try simp only [lay]
            refine tk8 7 rfl ?_; try simp only [lay]
            refine tk8 8 rfl ?_; try simp only [lay]
            refine tk8 9 rfl ?_; try simp only [lay]
            refine tk8 10 rfl ?_; try simp only [lay]
            refine tk8 11 rfl ?_; try simp only [lay]
            refine tk8 16 rfl ?_; try simp only [lay]
            refine wpAnyH_ready (rs := [12]) (by kernel_rfl) (by simp) ?_
            refine AllReadyH.cons rfl (fun K hK => ?_) AllReadyH.nil
            go_simp
            refine (next_2 a0 A1 a2 a3 a4 a5 ((dl : Int) + l0) na0 na1 na2 na3 na4 na5 _ hc0.out hd0.1 hd0.2 hN0).mono ?_
            rintro e w' ⟨rfl, os9, d9, rfl⟩
            refine hK.out _ _ ?_ (fun hHeld => ?_)
            · exact by obtain ⟨h0, h1, h2, h3, h4, h5, h6, h7⟩ := hHeld; exact ⟨more_keep _ _ h0, more_keep _ _ h1, more_keep _ _ h2, more_keep _ _ h3, more_keep _ _ h4, more_keep _ _ h5, more_keep _ _ h6, more_keep _ _ h7⟩
            clear hK K
            try simp only [lay]
            have hOy : Blk (wx.drew.more os9 d9) O 44 #[.int .i64 0, .int .i64 0, .int .i64 0, .int .i64 0, .int .i64 0, .int .i64 0, .int .i64 0, .int .i64 0, .int .i64 0, .int .i64 0, .int .i64 0, .int .i64 0, .int .i64 y0, .int .i64 y1] := (hOx.drew).more _ _
            have hby : Below O wz (wx.drew.more os9 d9) := (hbx.drewN 1).more (by first | exact hszx | (simp; omega)) _ _
            have o0 : (wx.drew.more os9 d9).cell? ⟨O, 0, none⟩ = some (.int .i64 0) := hOy.cell 0
            have o1 : (wx.drew.more os9 d9).cell? ⟨O, 1, none⟩ = some (.int .i64 0) := hOy.cell 1
            have o2 : (wx.drew.more os9 d9).cell? ⟨O, 2, none⟩ = some (.int .i64 0) := hOy.cell 2
            have o3 : (wx.drew.more os9 d9).cell? ⟨O, 3, none⟩ = some (.int .i64 0) := hOy.cell 3
            have o4 : (wx.drew.more os9 d9).cell? ⟨O, 4, none⟩ = some (.int .i64 0) := hOy.cell 4
            have o5 : (wx.drew.more os9 d9).cell? ⟨O, 5, none⟩ = some (.int .i64 0) := hOy.cell 5
            have p0 : (wx.drew.more os9 d9).frozen? ⟨O, 0, none⟩ = false := hOy.frozen 0
            have p1 : (wx.drew.more os9 d9).frozen? ⟨O, 1, none⟩ = false := hOy.frozen 1
            have p2 : (wx.drew.more os9 d9).frozen? ⟨O, 2, none⟩ = false := hOy.frozen 2
            have p3 : (wx.drew.more os9 d9).frozen? ⟨O, 3, none⟩ = false := hOy.frozen 3
            have p4 : (wx.drew.more os9 d9).frozen? ⟨O, 4, none⟩ = false := hOy.frozen 4
            have p5 : (wx.drew.more os9 d9).frozen? ⟨O, 5, none⟩ = false := hOy.frozen 5
            clear hOx hbx
            generalize wx.drew.more os9 d9 = wy at *
            refine tk8 13 rfl ?_; try simp only [lay]
            refine tk8 14 rfl ?_; try simp only [lay]
            refine tk8 15 rfl ?_; try simp only [lay]
            refine tk8 17 rfl ?_; try simp only [lay]
            refine wpAnyH_ready (rs := [18]) (by kernel_rfl) (by simp) ?_
            refine AllReadyH.cons rfl (fun K hK => ?_) AllReadyH.nil
            go_simp
            refine hK.out _ _ ?_ (fun hHeld => ?_)
            · exact by obtain ⟨h0, h1, h2, h3, h4, h5, h6, h7⟩ := hHeld; exact ⟨far6 h0 (by simp only [ne_eq]; omega), far6 h1 (by simp only [ne_eq]; omega), far6 h2 (by simp only [ne_eq]; omega), far6 h3 (by simp only [ne_eq]; omega), far6 h4 (by simp only [ne_eq]; omega), far6 h5 (by simp only [ne_eq]; omega), far6 h6 (by simp only [ne_eq]; omega), far6 h7 (by simp only [ne_eq]; omega)⟩
            clear hK K
            try simp only [lay]
            refine wpAnyH_done (by kernel_rfl) ?_ _
            have hOz' : Blk ((((((wy.setCell ⟨O, 0, none⟩ (.int .i64 na0)).setCell ⟨O, 1, none⟩ (.int .i64 na1)).setCell ⟨O, 2, none⟩ (.int .i64 na2)).setCell ⟨O, 3, none⟩ (.int .i64 na3)).setCell ⟨O, 4, none⟩ (.int .i64 na4)).setCell ⟨O, 5, none⟩ (.int .i64 na5)) O 44 #[.int .i64 na0, .int .i64 na1, .int .i64 na2, .int .i64 na3, .int .i64 na4, .int .i64 na5, .int .i64 0, .int .i64 0, .int .i64 0, .int .i64 0, .int .i64 0, .int .i64 0, .int .i64 y0, .int .i64 y1] := by
              have hh := ((((((hOy.put 0 (.int .i64 na0)).put 1 (.int .i64 na1)).put 2 (.int .i64 na2)).put 3 (.int .i64 na3)).put 4 (.int .i64 na4)).put 5 (.int .i64 na5))
              simpa only [List.setIfInBounds_toArray, List.set_cons_zero, List.set_cons_succ] using hh
            have hOz : Hid (Blk ((((((wy.setCell ⟨O, 0, none⟩ (.int .i64 na0)).setCell ⟨O, 1, none⟩ (.int .i64 na1)).setCell ⟨O, 2, none⟩ (.int .i64 na2)).setCell ⟨O, 3, none⟩ (.int .i64 na3)).setCell ⟨O, 4, none⟩ (.int .i64 na4)).setCell ⟨O, 5, none⟩ (.int .i64 na5)) O 44 #[.int .i64 na0, .int .i64 na1, .int .i64 na2, .int .i64 na3, .int .i64 na4, .int .i64 na5, .int .i64 0, .int .i64 0, .int .i64 0, .int .i64 0, .int .i64 0, .int .i64 0, .int .i64 y0, .int .i64 y1]) := hOz'
            clear hOz'
            have hbz2 : Below O wz ((((((wy.setCell ⟨O, 0, none⟩ (.int .i64 na0)).setCell ⟨O, 1, none⟩ (.int .i64 na1)).setCell ⟨O, 2, none⟩ (.int .i64 na2)).setCell ⟨O, 3, none⟩ (.int .i64 na3)).setCell ⟨O, 4, none⟩ (.int .i64 na4)).setCell ⟨O, 5, none⟩ (.int .i64 na5)) := ((((((hby.setCell (p := ⟨O, 0, none⟩) (Nat.le_refl _) (.int .i64 na0)).setCell (p := ⟨O, 1, none⟩) (Nat.le_refl _) (.int .i64 na1)).setCell (p := ⟨O, 2, none⟩) (Nat.le_refl _) (.int .i64 na2)).setCell (p := ⟨O, 3, none⟩) (Nat.le_refl _) (.int .i64 na3)).setCell (p := ⟨O, 4, none⟩) (Nat.le_refl _) (.int .i64 na4)).setCell (p := ⟨O, 5, none⟩) (Nat.le_refl _) (.int .i64 na5))
            go_wp2
            go_roundw
            case rel => exact ⟨1, by omega, by go_num, hOz, hbz2⟩
            case measure => simp [intOf]
          · go_wp2_with fail
            refine (of_3 _).mono ?_
            rintro e w1 ⟨rfl, os4, d4, rfl⟩
            go_wp2_with fail
            have hC := Blk.new (wr.more os4 d4) 134 #[.func (.func 100) #[] #[], .func (.func 101) #[] #[], .func (.func 102) #[] #[]]
            have hbx : Below O wz ((wr.more os4 d4).alloc (.cells #[.func (.func 100) #[] #[], .func (.func 101) #[] #[], .func (.func 102) #[] #[]] 134)) := (hbe.more (by omega) os4 d4).alloc (by simp; omega) _
            have hOx : Blk ((wr.more os4 d4).alloc (.cells #[.func (.func 100) #[] #[], .func (.func 101) #[] #[], .func (.func 102) #[] #[]] 134)) O 44 #[.int .i64 0, .int .i64 0, .int .i64 0, .int .i64 0, .int .i64 0, .int .i64 0, .int .i64 0, .int .i64 0, .int .i64 0, .int .i64 0, .int .i64 0, .int .i64 0, .int .i64 y0, .int .i64 y1] := (hO.more os4 d4).alloc _
            have hS2 : Blk ((wr.more os4 d4).alloc (.cells #[.func (.func 100) #[] #[], .func (.func 101) #[] #[], .func (.func 102) #[] #[]] 134)) (w.heap.size + 1) 44 #[.int .i64 a0, .int .i64 A1, .int .i64 a2, .int .i64 a3, .int .i64 a4, .int .i64 a5, .int .i64 b0, .int .i64 B1, .int .i64 b2, .int .i64 b3, .int .i64 b4, .int .i64 b5, .int .i64 W0, .int .i64 W1] := hB2.below hbx (by omega)
            have hS3 : Blk ((wr.more os4 d4).alloc (.cells #[.func (.func 100) #[] #[], .func (.func 101) #[] #[], .func (.func 102) #[] #[]] 134)) (w.heap.size + 2) 30 #[.int .i64 l0, .int .i64 l1] := hB3.below hbx (by omega)
            have hszx : O ≤ ((wr.more os4 d4).alloc (.cells #[.func (.func 100) #[] #[], .func (.func 101) #[] #[], .func (.func 102) #[] #[]] 134)).heap.size := by simp; omega
            have c1 : ((wr.more os4 d4).alloc (.cells #[.func (.func 100) #[] #[], .func (.func 101) #[] #[], .func (.func 102) #[] #[]] 134)).cell? ⟨(wr.more os4 d4).heap.size, 2, none⟩ = some (.func (.func 102) #[] #[]) := hC.cell 2
            have s0 : ((wr.more os4 d4).alloc (.cells #[.func (.func 100) #[] #[], .func (.func 101) #[] #[], .func (.func 102) #[] #[]] 134)).cell? ⟨w.heap.size + 1, 0, none⟩ = some (.int .i64 a0) := hS2.cell 0
            have s1 : ((wr.more os4 d4).alloc (.cells #[.func (.func 100) #[] #[], .func (.func 101) #[] #[], .func (.func 102) #[] #[]] 134)).cell? ⟨w.heap.size + 1, 1, none⟩ = some (.int .i64 A1) := hS2.cell 1
            have s2 : ((wr.more os4 d4).alloc (.cells #[.func (.func 100) #[] #[], .func (.func 101) #[] #[], .func (.func 102) #[] #[]] 134)).cell? ⟨w.heap.size + 1, 2, none⟩ = some (.int .i64 a2) := hS2.cell 2
            have s3 : ((wr.more os4 d4).alloc (.cells #[.func (.func 100) #[] #[], .func (.func 101) #[] #[], .func (.func 102) #[] #[]] 134)).cell? ⟨w.heap.size + 1, 3, none⟩ = some (.int .i64 a3) := hS2.cell 3
            have s4 : ((wr.more os4 d4).alloc (.cells #[.func (.func 100) #[] #[], .func (.func 101) #[] #[], .func (.func 102) #[] #[]] 134)).cell? ⟨w.heap.size + 1, 4, none⟩ = some (.int .i64 a4) := hS2.cell 4
            have s5 : ((wr.more os4 d4).alloc (.cells #[.func (.func 100) #[] #[], .func (.func 101) #[] #[], .func (.func 102) #[] #[]] 134)).cell? ⟨w.heap.size + 1, 5, none⟩ = some (.int .i64 a5) := hS2.cell 5
            have s6 : ((wr.more os4 d4).alloc (.cells #[.func (.func 100) #[] #[], .func (.func 101) #[] #[], .func (.func 102) #[] #[]] 134)).cell? ⟨w.heap.size + 2, 0, none⟩ = some (.int .i64 l0) := hS3.cell 0
            have hE : wr.heap.size + os4.size = (wr.more os4 d4).heap.size := by simp
            have hEz : O < (wr.more os4 d4).heap.size := by simp; omega
            rw [hE]
            clear hC hS2 hS3
            generalize ((wr.more os4 d4).alloc (.cells #[.func (.func 100) #[] #[], .func (.func 101) #[] #[], .func (.func 102) #[] #[]] 134)) = wx at *
            generalize (wr.more os4 d4).heap.size = E at *
            refine wp_region_held_drew (S := (fun w' => w'.cell? ⟨E, 2, none⟩ = some (.func (.func 102) #[] #[]) ∧ w'.cell? ⟨w.heap.size + 1, 0, none⟩ = some (.int .i64 a0) ∧ w'.cell? ⟨w.heap.size + 1, 1, none⟩ = some (.int .i64 A1) ∧ w'.cell? ⟨w.heap.size + 1, 2, none⟩ = some (.int .i64 a2) ∧ w'.cell? ⟨w.heap.size + 1, 3, none⟩ = some (.int .i64 a3) ∧ w'.cell? ⟨w.heap.size + 1, 4, none⟩ = some (.int .i64 a4) ∧ w'.cell? ⟨w.heap.size + 1, 5, none⟩ = some (.int .i64 a5) ∧ w'.cell? ⟨w.heap.size + 2, 0, none⟩ = some (.int .i64 l0))) (by kernel_rfl) ?_ (fun hHeld => ?_)
            · exact ⟨c1, s0, s1, s2, s3, s4, s5, s6⟩
            refine tk8 0 rfl ?_; try simp only [lay]
            refine tk8 1 rfl ?_; try simp only [lay]
            refine tk8 2 rfl ?_; try simp only [lay]
            refine tk8 3 rfl ?_; try simp only [lay]
            refine tk8 4 rfl ?_; try simp only [lay]
            refine tk8 5 rfl ?_; try simp only [lay]
            refine tk8 6 rfl ?_; try simp only [lay]
            refine tk8 7 rfl ?_; try simp only [lay]
            refine tk8 8 rfl ?_; try simp only [lay]
            refine tk8 9 rfl ?_; try simp only [lay]
            refine tk8 10 rfl ?_; try simp only [lay]
            refine tk8 11 rfl ?_; try simp only [lay]
            refine tk8 16 rfl ?_; try simp only [lay]
            refine wpAnyH_ready (rs := [12]) (by kernel_rfl) (by simp) ?_
            refine AllReadyH.cons rfl (fun K hK => ?_) AllReadyH.nil
            go_simp
            refine (next_3 a0 A1 a2 a3 a4 a5 ((dl : Int) + l0) na0 na1 na2 na3 na4 na5 _ hc0.out hd0.1 hd0.2 hN0).mono ?_
            rintro e w' ⟨rfl, os9, d9, rfl⟩
            refine hK.out _ _ ?_ (fun hHeld => ?_)
            · exact by obtain ⟨h0, h1, h2, h3, h4, h5, h6, h7⟩ := hHeld; exact ⟨more_keep _ _ h0, more_keep _ _ h1, more_keep _ _ h2, more_keep _ _ h3, more_keep _ _ h4, more_keep _ _ h5, more_keep _ _ h6, more_keep _ _ h7⟩
            clear hK K
            try simp only [lay]
            have hOy : Blk (wx.drew.more os9 d9) O 44 #[.int .i64 0, .int .i64 0, .int .i64 0, .int .i64 0, .int .i64 0, .int .i64 0, .int .i64 0, .int .i64 0, .int .i64 0, .int .i64 0, .int .i64 0, .int .i64 0, .int .i64 y0, .int .i64 y1] := (hOx.drew).more _ _
            have hby : Below O wz (wx.drew.more os9 d9) := (hbx.drewN 1).more (by first | exact hszx | (simp; omega)) _ _
            have o0 : (wx.drew.more os9 d9).cell? ⟨O, 0, none⟩ = some (.int .i64 0) := hOy.cell 0
            have o1 : (wx.drew.more os9 d9).cell? ⟨O, 1, none⟩ = some (.int .i64 0) := hOy.cell 1
            have o2 : (wx.drew.more os9 d9).cell? ⟨O, 2, none⟩ = some (.int .i64 0) := hOy.cell 2
            have o3 : (wx.drew.more os9 d9).cell? ⟨O, 3, none⟩ = some (.int .i64 0) := hOy.cell 3
            have o4 : (wx.drew.more os9 d9).cell? ⟨O, 4, none⟩ = some (.int .i64 0) := hOy.cell 4
            have o5 : (wx.drew.more os9 d9).cell? ⟨O, 5, none⟩ = some (.int .i64 0) := hOy.cell 5
            have p0 : (wx.drew.more os9 d9).frozen? ⟨O, 0, none⟩ = false := hOy.frozen 0
            have p1 : (wx.drew.more os9 d9).frozen? ⟨O, 1, none⟩ = false := hOy.frozen 1
            have p2 : (wx.drew.more os9 d9).frozen? ⟨O, 2, none⟩ = false := hOy.frozen 2
            have p3 : (wx.drew.more os9 d9).frozen? ⟨O, 3, none⟩ = false := hOy.frozen 3
            have p4 : (wx.drew.more os9 d9).frozen? ⟨O, 4, none⟩ = false := hOy.frozen 4
            have p5 : (wx.drew.more os9 d9).frozen? ⟨O, 5, none⟩ = false := hOy.frozen 5
            clear hOx hbx
            generalize wx.drew.more os9 d9 = wy at *
            refine tk8 13 rfl ?_; try simp only [lay]
            refine tk8 14 rfl ?_; try simp only [lay]
            refine tk8 15 rfl ?_; try simp only [lay]
            refine tk8 17 rfl ?_; try simp only [lay]
            refine wpAnyH_ready (rs := [18]) (by kernel_rfl) (by simp) ?_
            refine AllReadyH.cons rfl (fun K hK => ?_) AllReadyH.nil
            go_simp
            refine hK.out _ _ ?_ (fun hHeld => ?_)
            · exact by obtain ⟨h0, h1, h2, h3, h4, h5, h6, h7⟩ := hHeld; exact ⟨far6 h0 (by simp only [ne_eq]; omega), far6 h1 (by simp only [ne_eq]; omega), far6 h2 (by simp only [ne_eq]; omega), far6 h3 (by simp only [ne_eq]; omega), far6 h4 (by simp only [ne_eq]; omega), far6 h5 (by simp only [ne_eq]; omega), far6 h6 (by simp only [ne_eq]; omega), far6 h7 (by simp only [ne_eq]; omega)⟩
            clear hK K
            try simp only [lay]
            refine wpAnyH_done (by kernel_rfl) ?_ _
            have hOz' : Blk ((((((wy.setCell ⟨O, 0, none⟩ (.int .i64 na0)).setCell ⟨O, 1, none⟩ (.int .i64 na1)).setCell ⟨O, 2, none⟩ (.int .i64 na2)).setCell ⟨O, 3, none⟩ (.int .i64 na3)).setCell ⟨O, 4, none⟩ (.int .i64 na4)).setCell ⟨O, 5, none⟩ (.int .i64 na5)) O 44 #[.int .i64 na0, .int .i64 na1, .int .i64 na2, .int .i64 na3, .int .i64 na4, .int .i64 na5, .int .i64 0, .int .i64 0, .int .i64 0, .int .i64 0, .int .i64 0, .int .i64 0, .int .i64 y0, .int .i64 y1] := by
              have hh := ((((((hOy.put 0 (.int .i64 na0)).put 1 (.int .i64 na1)).put 2 (.int .i64 na2)).put 3 (.int .i64 na3)).put 4 (.int .i64 na4)).put 5 (.int .i64 na5))
              simpa only [List.setIfInBounds_toArray, List.set_cons_zero, List.set_cons_succ] using hh
            have hOz : Hid (Blk ((((((wy.setCell ⟨O, 0, none⟩ (.int .i64 na0)).setCell ⟨O, 1, none⟩ (.int .i64 na1)).setCell ⟨O, 2, none⟩ (.int .i64 na2)).setCell ⟨O, 3, none⟩ (.int .i64 na3)).setCell ⟨O, 4, none⟩ (.int .i64 na4)).setCell ⟨O, 5, none⟩ (.int .i64 na5)) O 44 #[.int .i64 na0, .int .i64 na1, .int .i64 na2, .int .i64 na3, .int .i64 na4, .int .i64 na5, .int .i64 0, .int .i64 0, .int .i64 0, .int .i64 0, .int .i64 0, .int .i64 0, .int .i64 y0, .int .i64 y1]) := hOz'
            clear hOz'
            have hbz2 : Below O wz ((((((wy.setCell ⟨O, 0, none⟩ (.int .i64 na0)).setCell ⟨O, 1, none⟩ (.int .i64 na1)).setCell ⟨O, 2, none⟩ (.int .i64 na2)).setCell ⟨O, 3, none⟩ (.int .i64 na3)).setCell ⟨O, 4, none⟩ (.int .i64 na4)).setCell ⟨O, 5, none⟩ (.int .i64 na5)) := ((((((hby.setCell (p := ⟨O, 0, none⟩) (Nat.le_refl _) (.int .i64 na0)).setCell (p := ⟨O, 1, none⟩) (Nat.le_refl _) (.int .i64 na1)).setCell (p := ⟨O, 2, none⟩) (Nat.le_refl _) (.int .i64 na2)).setCell (p := ⟨O, 3, none⟩) (Nat.le_refl _) (.int .i64 na3)).setCell (p := ⟨O, 4, none⟩) (Nat.le_refl _) (.int .i64 na4)).setCell (p := ⟨O, 5, none⟩) (Nat.le_refl _) (.int .i64 na5))
            go_wp2
            go_roundw
            case rel => exact ⟨1, by omega, by go_num, hOz, hbz2⟩
            case measure => simp [intOf]
        · have hi : _ = Value.int .i64 1 := hi
          subst hi
          have hO : Blk wr O 44 #[.int .i64 na0, .int .i64 na1, .int .i64 na2, .int .i64 na3, .int .i64 na4, .int .i64 na5, .int .i64 0, .int .i64 0, .int .i64 0, .int .i64 0, .int .i64 0, .int .i64 0, .int .i64 y0, .int .i64 y1] := hO.out
          have hOl := hO.lt
          rcases hk1.out with rfl | rfl | rfl
          · go_wp2_with fail
            refine (of_1 _).mono ?_
            rintro e w1 ⟨rfl, os4, d4, rfl⟩
            go_wp2_with fail
            have hC := Blk.new (wr.more os4 d4) 134 #[.func (.func 94) #[] #[], .func (.func 95) #[] #[], .func (.func 96) #[] #[]]
            have hbx : Below O wz ((wr.more os4 d4).alloc (.cells #[.func (.func 94) #[] #[], .func (.func 95) #[] #[], .func (.func 96) #[] #[]] 134)) := (hbe.more (by omega) os4 d4).alloc (by simp; omega) _
            have hOx : Blk ((wr.more os4 d4).alloc (.cells #[.func (.func 94) #[] #[], .func (.func 95) #[] #[], .func (.func 96) #[] #[]] 134)) O 44 #[.int .i64 na0, .int .i64 na1, .int .i64 na2, .int .i64 na3, .int .i64 na4, .int .i64 na5, .int .i64 0, .int .i64 0, .int .i64 0, .int .i64 0, .int .i64 0, .int .i64 0, .int .i64 y0, .int .i64 y1] := (hO.more os4 d4).alloc _
            have hS2 : Blk ((wr.more os4 d4).alloc (.cells #[.func (.func 94) #[] #[], .func (.func 95) #[] #[], .func (.func 96) #[] #[]] 134)) (w.heap.size + 1) 44 #[.int .i64 a0, .int .i64 A1, .int .i64 a2, .int .i64 a3, .int .i64 a4, .int .i64 a5, .int .i64 b0, .int .i64 B1, .int .i64 b2, .int .i64 b3, .int .i64 b4, .int .i64 b5, .int .i64 W0, .int .i64 W1] := hB2.below hbx (by omega)
            have hS3 : Blk ((wr.more os4 d4).alloc (.cells #[.func (.func 94) #[] #[], .func (.func 95) #[] #[], .func (.func 96) #[] #[]] 134)) (w.heap.size + 2) 30 #[.int .i64 l0, .int .i64 l1] := hB3.below hbx (by omega)
            have hszx : O ≤ ((wr.more os4 d4).alloc (.cells #[.func (.func 94) #[] #[], .func (.func 95) #[] #[], .func (.func 96) #[] #[]] 134)).heap.size := by simp; omega
            have c1 : ((wr.more os4 d4).alloc (.cells #[.func (.func 94) #[] #[], .func (.func 95) #[] #[], .func (.func 96) #[] #[]] 134)).cell? ⟨(wr.more os4 d4).heap.size, 2, none⟩ = some (.func (.func 96) #[] #[]) := hC.cell 2
            have s0 : ((wr.more os4 d4).alloc (.cells #[.func (.func 94) #[] #[], .func (.func 95) #[] #[], .func (.func 96) #[] #[]] 134)).cell? ⟨w.heap.size + 1, 6, none⟩ = some (.int .i64 b0) := hS2.cell 6
            have s1 : ((wr.more os4 d4).alloc (.cells #[.func (.func 94) #[] #[], .func (.func 95) #[] #[], .func (.func 96) #[] #[]] 134)).cell? ⟨w.heap.size + 1, 7, none⟩ = some (.int .i64 B1) := hS2.cell 7
            have s2 : ((wr.more os4 d4).alloc (.cells #[.func (.func 94) #[] #[], .func (.func 95) #[] #[], .func (.func 96) #[] #[]] 134)).cell? ⟨w.heap.size + 1, 8, none⟩ = some (.int .i64 b2) := hS2.cell 8
            have s3 : ((wr.more os4 d4).alloc (.cells #[.func (.func 94) #[] #[], .func (.func 95) #[] #[], .func (.func 96) #[] #[]] 134)).cell? ⟨w.heap.size + 1, 9, none⟩ = some (.int .i64 b3) := hS2.cell 9
            have s4 : ((wr.more os4 d4).alloc (.cells #[.func (.func 94) #[] #[], .func (.func 95) #[] #[], .func (.func 96) #[] #[]] 134)).cell? ⟨w.heap.size + 1, 10, none⟩ = some (.int .i64 b4) := hS2.cell 10
            have s5 : ((wr.more os4 d4).alloc (.cells #[.func (.func 94) #[] #[], .func (.func 95) #[] #[], .func (.func 96) #[] #[]] 134)).cell? ⟨w.heap.size + 1, 11, none⟩ = some (.int .i64 b5) := hS2.cell 11
            have s6 : ((wr.more os4 d4).alloc (.cells #[.func (.func 94) #[] #[], .func (.func 95) #[] #[], .func (.func 96) #[] #[]] 134)).cell? ⟨w.heap.size + 2, 1, none⟩ = some (.int .i64 l1) := hS3.cell 1
            have hE : wr.heap.size + os4.size = (wr.more os4 d4).heap.size := by simp
            have hEz : O < (wr.more os4 d4).heap.size := by simp; omega
            rw [hE]
            clear hC hS2 hS3
            generalize ((wr.more os4 d4).alloc (.cells #[.func (.func 94) #[] #[], .func (.func 95) #[] #[], .func (.func 96) #[] #[]] 134)) = wx at *
            generalize (wr.more os4 d4).heap.size = E at *
            refine wp_region_held_drew (S := (fun w' => w'.cell? ⟨E, 2, none⟩ = some (.func (.func 96) #[] #[]) ∧ w'.cell? ⟨w.heap.size + 1, 6, none⟩ = some (.int .i64 b0) ∧ w'.cell? ⟨w.heap.size + 1, 7, none⟩ = some (.int .i64 B1) ∧ w'.cell? ⟨w.heap.size + 1, 8, none⟩ = some (.int .i64 b2) ∧ w'.cell? ⟨w.heap.size + 1, 9, none⟩ = some (.int .i64 b3) ∧ w'.cell? ⟨w.heap.size + 1, 10, none⟩ = some (.int .i64 b4) ∧ w'.cell? ⟨w.heap.size + 1, 11, none⟩ = some (.int .i64 b5) ∧ w'.cell? ⟨w.heap.size + 2, 1, none⟩ = some (.int .i64 l1))) (by kernel_rfl) ?_ (fun hHeld => ?_)
            · exact ⟨c1, s0, s1, s2, s3, s4, s5, s6⟩
            refine tk8 0 rfl ?_; try simp only [lay]
            refine tk8 1 rfl ?_; try simp only [lay]
            refine tk8 2 rfl ?_; try simp only [lay]
            refine tk8 3 rfl ?_; try simp only [lay]
            refine tk8 4 rfl ?_; try simp only [lay]
            refine tk8 5 rfl ?_; try simp only [lay]
            refine tk8 6 rfl ?_; try simp only [lay]
            refine tk8 7 rfl ?_; try simp only [lay]
            refine tk8 8 rfl ?_; try simp only [lay]
            refine tk8 9 rfl ?_; try simp only [lay]
            refine tk8 10 rfl ?_; try simp only [lay]
            refine tk8 11 rfl ?_; try simp only [lay]
            refine tk8 16 rfl ?_; try simp only [lay]
            refine wpAnyH_ready (rs := [12]) (by kernel_rfl) (by simp) ?_
            refine AllReadyH.cons rfl (fun K hK => ?_) AllReadyH.nil
            go_simp
            refine (next_1 b0 B1 b2 b3 b4 b5 ((dl : Int) + l1) nb0 nb1 nb2 nb3 nb4 nb5 _ hc1.out hd1.1 hd1.2 hN1).mono ?_
            rintro e w' ⟨rfl, os9, d9, rfl⟩
            refine hK.out _ _ ?_ (fun hHeld => ?_)
            · exact by obtain ⟨h0, h1, h2, h3, h4, h5, h6, h7⟩ := hHeld; exact ⟨more_keep _ _ h0, more_keep _ _ h1, more_keep _ _ h2, more_keep _ _ h3, more_keep _ _ h4, more_keep _ _ h5, more_keep _ _ h6, more_keep _ _ h7⟩
            clear hK K
            try simp only [lay]
            have hOy : Blk (wx.drew.more os9 d9) O 44 #[.int .i64 na0, .int .i64 na1, .int .i64 na2, .int .i64 na3, .int .i64 na4, .int .i64 na5, .int .i64 0, .int .i64 0, .int .i64 0, .int .i64 0, .int .i64 0, .int .i64 0, .int .i64 y0, .int .i64 y1] := (hOx.drew).more _ _
            have hby : Below O wz (wx.drew.more os9 d9) := (hbx.drewN 1).more (by first | exact hszx | (simp; omega)) _ _
            have o0 : (wx.drew.more os9 d9).cell? ⟨O, 6, none⟩ = some (.int .i64 0) := hOy.cell 6
            have o1 : (wx.drew.more os9 d9).cell? ⟨O, 7, none⟩ = some (.int .i64 0) := hOy.cell 7
            have o2 : (wx.drew.more os9 d9).cell? ⟨O, 8, none⟩ = some (.int .i64 0) := hOy.cell 8
            have o3 : (wx.drew.more os9 d9).cell? ⟨O, 9, none⟩ = some (.int .i64 0) := hOy.cell 9
            have o4 : (wx.drew.more os9 d9).cell? ⟨O, 10, none⟩ = some (.int .i64 0) := hOy.cell 10
            have o5 : (wx.drew.more os9 d9).cell? ⟨O, 11, none⟩ = some (.int .i64 0) := hOy.cell 11
            have p0 : (wx.drew.more os9 d9).frozen? ⟨O, 6, none⟩ = false := hOy.frozen 6
            have p1 : (wx.drew.more os9 d9).frozen? ⟨O, 7, none⟩ = false := hOy.frozen 7
            have p2 : (wx.drew.more os9 d9).frozen? ⟨O, 8, none⟩ = false := hOy.frozen 8
            have p3 : (wx.drew.more os9 d9).frozen? ⟨O, 9, none⟩ = false := hOy.frozen 9
            have p4 : (wx.drew.more os9 d9).frozen? ⟨O, 10, none⟩ = false := hOy.frozen 10
            have p5 : (wx.drew.more os9 d9).frozen? ⟨O, 11, none⟩ = false := hOy.frozen 11
            clear hOx hbx
            generalize wx.drew.more os9 d9 = wy at *
            refine tk8 13 rfl ?_; try simp only [lay]
            refine tk8 14 rfl ?_; try simp only [lay]
            refine tk8 15 rfl ?_; try simp only [lay]
            refine tk8 17 rfl ?_; try simp only [lay]
            refine wpAnyH_ready (rs := [18]) (by kernel_rfl) (by simp) ?_
            refine AllReadyH.cons rfl (fun K hK => ?_) AllReadyH.nil
            go_simp
            refine hK.out _ _ ?_ (fun hHeld => ?_)
            · exact by obtain ⟨h0, h1, h2, h3, h4, h5, h6, h7⟩ := hHeld; exact ⟨far6 h0 (by simp only [ne_eq]; omega), far6 h1 (by simp only [ne_eq]; omega), far6 h2 (by simp only [ne_eq]; omega), far6 h3 (by simp only [ne_eq]; omega), far6 h4 (by simp only [ne_eq]; omega), far6 h5 (by simp only [ne_eq]; omega), far6 h6 (by simp only [ne_eq]; omega), far6 h7 (by simp only [ne_eq]; omega)⟩
            clear hK K
            try simp only [lay]
            refine wpAnyH_done (by kernel_rfl) ?_ _
            have hOz' : Blk ((((((wy.setCell ⟨O, 6, none⟩ (.int .i64 nb0)).setCell ⟨O, 7, none⟩ (.int .i64 nb1)).setCell ⟨O, 8, none⟩ (.int .i64 nb2)).setCell ⟨O, 9, none⟩ (.int .i64 nb3)).setCell ⟨O, 10, none⟩ (.int .i64 nb4)).setCell ⟨O, 11, none⟩ (.int .i64 nb5)) O 44 #[.int .i64 na0, .int .i64 na1, .int .i64 na2, .int .i64 na3, .int .i64 na4, .int .i64 na5, .int .i64 nb0, .int .i64 nb1, .int .i64 nb2, .int .i64 nb3, .int .i64 nb4, .int .i64 nb5, .int .i64 y0, .int .i64 y1] := by
              have hh := ((((((hOy.put 6 (.int .i64 nb0)).put 7 (.int .i64 nb1)).put 8 (.int .i64 nb2)).put 9 (.int .i64 nb3)).put 10 (.int .i64 nb4)).put 11 (.int .i64 nb5))
              simpa only [List.setIfInBounds_toArray, List.set_cons_zero, List.set_cons_succ] using hh
            have hOz : Hid (Blk ((((((wy.setCell ⟨O, 6, none⟩ (.int .i64 nb0)).setCell ⟨O, 7, none⟩ (.int .i64 nb1)).setCell ⟨O, 8, none⟩ (.int .i64 nb2)).setCell ⟨O, 9, none⟩ (.int .i64 nb3)).setCell ⟨O, 10, none⟩ (.int .i64 nb4)).setCell ⟨O, 11, none⟩ (.int .i64 nb5)) O 44 #[.int .i64 na0, .int .i64 na1, .int .i64 na2, .int .i64 na3, .int .i64 na4, .int .i64 na5, .int .i64 nb0, .int .i64 nb1, .int .i64 nb2, .int .i64 nb3, .int .i64 nb4, .int .i64 nb5, .int .i64 y0, .int .i64 y1]) := hOz'
            clear hOz'
            have hbz2 : Below O wz ((((((wy.setCell ⟨O, 6, none⟩ (.int .i64 nb0)).setCell ⟨O, 7, none⟩ (.int .i64 nb1)).setCell ⟨O, 8, none⟩ (.int .i64 nb2)).setCell ⟨O, 9, none⟩ (.int .i64 nb3)).setCell ⟨O, 10, none⟩ (.int .i64 nb4)).setCell ⟨O, 11, none⟩ (.int .i64 nb5)) := ((((((hby.setCell (p := ⟨O, 6, none⟩) (Nat.le_refl _) (.int .i64 nb0)).setCell (p := ⟨O, 7, none⟩) (Nat.le_refl _) (.int .i64 nb1)).setCell (p := ⟨O, 8, none⟩) (Nat.le_refl _) (.int .i64 nb2)).setCell (p := ⟨O, 9, none⟩) (Nat.le_refl _) (.int .i64 nb3)).setCell (p := ⟨O, 10, none⟩) (Nat.le_refl _) (.int .i64 nb4)).setCell (p := ⟨O, 11, none⟩) (Nat.le_refl _) (.int .i64 nb5))
            go_wp2
            go_roundw
            case rel => exact ⟨2, by omega, by go_num, hOz, hbz2⟩
            case measure => simp [intOf]
          · go_wp2_with fail
            refine (of_2 _).mono ?_
            rintro e w1 ⟨rfl, os4, d4, rfl⟩
            go_wp2_with fail
            have hC := Blk.new (wr.more os4 d4) 134 #[.func (.func 97) #[] #[], .func (.func 98) #[] #[], .func (.func 99) #[] #[]]
            have hbx : Below O wz ((wr.more os4 d4).alloc (.cells #[.func (.func 97) #[] #[], .func (.func 98) #[] #[], .func (.func 99) #[] #[]] 134)) := (hbe.more (by omega) os4 d4).alloc (by simp; omega) _
            have hOx : Blk ((wr.more os4 d4).alloc (.cells #[.func (.func 97) #[] #[], .func (.func 98) #[] #[], .func (.func 99) #[] #[]] 134)) O 44 #[.int .i64 na0, .int .i64 na1, .int .i64 na2, .int .i64 na3, .int .i64 na4, .int .i64 na5, .int .i64 0, .int .i64 0, .int .i64 0, .int .i64 0, .int .i64 0, .int .i64 0, .int .i64 y0, .int .i64 y1] := (hO.more os4 d4).alloc _
            have hS2 : Blk ((wr.more os4 d4).alloc (.cells #[.func (.func 97) #[] #[], .func (.func 98) #[] #[], .func (.func 99) #[] #[]] 134)) (w.heap.size + 1) 44 #[.int .i64 a0, .int .i64 A1, .int .i64 a2, .int .i64 a3, .int .i64 a4, .int .i64 a5, .int .i64 b0, .int .i64 B1, .int .i64 b2, .int .i64 b3, .int .i64 b4, .int .i64 b5, .int .i64 W0, .int .i64 W1] := hB2.below hbx (by omega)
            have hS3 : Blk ((wr.more os4 d4).alloc (.cells #[.func (.func 97) #[] #[], .func (.func 98) #[] #[], .func (.func 99) #[] #[]] 134)) (w.heap.size + 2) 30 #[.int .i64 l0, .int .i64 l1] := hB3.below hbx (by omega)
            have hszx : O ≤ ((wr.more os4 d4).alloc (.cells #[.func (.func 97) #[] #[], .func (.func 98) #[] #[], .func (.func 99) #[] #[]] 134)).heap.size := by simp; omega
            have c1 : ((wr.more os4 d4).alloc (.cells #[.func (.func 97) #[] #[], .func (.func 98) #[] #[], .func (.func 99) #[] #[]] 134)).cell? ⟨(wr.more os4 d4).heap.size, 2, none⟩ = some (.func (.func 99) #[] #[]) := hC.cell 2
            have s0 : ((wr.more os4 d4).alloc (.cells #[.func (.func 97) #[] #[], .func (.func 98) #[] #[], .func (.func 99) #[] #[]] 134)).cell? ⟨w.heap.size + 1, 6, none⟩ = some (.int .i64 b0) := hS2.cell 6
            have s1 : ((wr.more os4 d4).alloc (.cells #[.func (.func 97) #[] #[], .func (.func 98) #[] #[], .func (.func 99) #[] #[]] 134)).cell? ⟨w.heap.size + 1, 7, none⟩ = some (.int .i64 B1) := hS2.cell 7
            have s2 : ((wr.more os4 d4).alloc (.cells #[.func (.func 97) #[] #[], .func (.func 98) #[] #[], .func (.func 99) #[] #[]] 134)).cell? ⟨w.heap.size + 1, 8, none⟩ = some (.int .i64 b2) := hS2.cell 8
            have s3 : ((wr.more os4 d4).alloc (.cells #[.func (.func 97) #[] #[], .func (.func 98) #[] #[], .func (.func 99) #[] #[]] 134)).cell? ⟨w.heap.size + 1, 9, none⟩ = some (.int .i64 b3) := hS2.cell 9
            have s4 : ((wr.more os4 d4).alloc (.cells #[.func (.func 97) #[] #[], .func (.func 98) #[] #[], .func (.func 99) #[] #[]] 134)).cell? ⟨w.heap.size + 1, 10, none⟩ = some (.int .i64 b4) := hS2.cell 10
            have s5 : ((wr.more os4 d4).alloc (.cells #[.func (.func 97) #[] #[], .func (.func 98) #[] #[], .func (.func 99) #[] #[]] 134)).cell? ⟨w.heap.size + 1, 11, none⟩ = some (.int .i64 b5) := hS2.cell 11
            have s6 : ((wr.more os4 d4).alloc (.cells #[.func (.func 97) #[] #[], .func (.func 98) #[] #[], .func (.func 99) #[] #[]] 134)).cell? ⟨w.heap.size + 2, 1, none⟩ = some (.int .i64 l1) := hS3.cell 1
            have hE : wr.heap.size + os4.size = (wr.more os4 d4).heap.size := by simp
            have hEz : O < (wr.more os4 d4).heap.size := by simp; omega
            rw [hE]
            clear hC hS2 hS3
            generalize ((wr.more os4 d4).alloc (.cells #[.func (.func 97) #[] #[], .func (.func 98) #[] #[], .func (.func 99) #[] #[]] 134)) = wx at *
            generalize (wr.more os4 d4).heap.size = E at *
            refine wp_region_held_drew (S := (fun w' => w'.cell? ⟨E, 2, none⟩ = some (.func (.func 99) #[] #[]) ∧ w'.cell? ⟨w.heap.size + 1, 6, none⟩ = some (.int .i64 b0) ∧ w'.cell? ⟨w.heap.size + 1, 7, none⟩ = some (.int .i64 B1) ∧ w'.cell? ⟨w.heap.size + 1, 8, none⟩ = some (.int .i64 b2) ∧ w'.cell? ⟨w.heap.size + 1, 9, none⟩ = some (.int .i64 b3) ∧ w'.cell? ⟨w.heap.size + 1, 10, none⟩ = some (.int .i64 b4) ∧ w'.cell? ⟨w.heap.size + 1, 11, none⟩ = some (.int .i64 b5) ∧ w'.cell? ⟨w.heap.size + 2, 1, none⟩ = some (.int .i64 l1))) (by kernel_rfl) ?_ (fun hHeld => ?_)
            · exact ⟨c1, s0, s1, s2, s3, s4, s5, s6⟩
            refine tk8 0 rfl ?_; try simp only [lay]
            refine tk8 1 rfl ?_; try simp only [lay]
            refine tk8 2 rfl ?_; try simp only [lay]
            refine tk8 3 rfl ?_; try simp only [lay]
            refine tk8 4 rfl ?_; try simp only [lay]
            refine tk8 5 rfl ?_; try simp only [lay]
            refine tk8 6 rfl ?_; try simp only [lay]
            refine tk8 7 rfl ?_; try simp only [lay]
            refine tk8 8 rfl ?_; try simp only [lay]
            refine tk8 9 rfl ?_; try simp only [lay]
            refine tk8 10 rfl ?_; try simp only [lay]
            refine tk8 11 rfl ?_; try simp only [lay]
            refine tk8 16 rfl ?_; try simp only [lay]
            refine wpAnyH_ready (rs := [12]) (by kernel_rfl) (by simp) ?_
            refine AllReadyH.cons rfl (fun K hK => ?_) AllReadyH.nil
            go_simp
            refine (next_2 b0 B1 b2 b3 b4 b5 ((dl : Int) + l1) nb0 nb1 nb2 nb3 nb4 nb5 _ hc1.out hd1.1 hd1.2 hN1).mono ?_
            rintro e w' ⟨rfl, os9, d9, rfl⟩
            refine hK.out _ _ ?_ (fun hHeld => ?_)
            · exact by obtain ⟨h0, h1, h2, h3, h4, h5, h6, h7⟩ := hHeld; exact ⟨more_keep _ _ h0, more_keep _ _ h1, more_keep _ _ h2, more_keep _ _ h3, more_keep _ _ h4, more_keep _ _ h5, more_keep _ _ h6, more_keep _ _ h7⟩
            clear hK K
            try simp only [lay]
            have hOy : Blk (wx.drew.more os9 d9) O 44 #[.int .i64 na0, .int .i64 na1, .int .i64 na2, .int .i64 na3, .int .i64 na4, .int .i64 na5, .int .i64 0, .int .i64 0, .int .i64 0, .int .i64 0, .int .i64 0, .int .i64 0, .int .i64 y0, .int .i64 y1] := (hOx.drew).more _ _
            have hby : Below O wz (wx.drew.more os9 d9) := (hbx.drewN 1).more (by first | exact hszx | (simp; omega)) _ _
            have o0 : (wx.drew.more os9 d9).cell? ⟨O, 6, none⟩ = some (.int .i64 0) := hOy.cell 6
            have o1 : (wx.drew.more os9 d9).cell? ⟨O, 7, none⟩ = some (.int .i64 0) := hOy.cell 7
            have o2 : (wx.drew.more os9 d9).cell? ⟨O, 8, none⟩ = some (.int .i64 0) := hOy.cell 8
            have o3 : (wx.drew.more os9 d9).cell? ⟨O, 9, none⟩ = some (.int .i64 0) := hOy.cell 9
            have o4 : (wx.drew.more os9 d9).cell? ⟨O, 10, none⟩ = some (.int .i64 0) := hOy.cell 10
            have o5 : (wx.drew.more os9 d9).cell? ⟨O, 11, none⟩ = some (.int .i64 0) := hOy.cell 11
            have p0 : (wx.drew.more os9 d9).frozen? ⟨O, 6, none⟩ = false := hOy.frozen 6
            have p1 : (wx.drew.more os9 d9).frozen? ⟨O, 7, none⟩ = false := hOy.frozen 7
            have p2 : (wx.drew.more os9 d9).frozen? ⟨O, 8, none⟩ = false := hOy.frozen 8
            have p3 : (wx.drew.more os9 d9).frozen? ⟨O, 9, none⟩ = false := hOy.frozen 9
            have p4 : (wx.drew.more os9 d9).frozen? ⟨O, 10, none⟩ = false := hOy.frozen 10
            have p5 : (wx.drew.more os9 d9).frozen? ⟨O, 11, none⟩ = false := hOy.frozen 11
            clear hOx hbx
            generalize wx.drew.more os9 d9 = wy at *
            refine tk8 13 rfl ?_; try simp only [lay]
            refine tk8 14 rfl ?_; try simp only [lay]
            refine tk8 15 rfl ?_; try simp only [lay]
            refine tk8 17 rfl ?_; try simp only [lay]
            refine wpAnyH_ready (rs := [18]) (by kernel_rfl) (by simp) ?_
            refine AllReadyH.cons rfl (fun K hK => ?_) AllReadyH.nil
            go_simp
            refine hK.out _ _ ?_ (fun hHeld => ?_)
            · exact by obtain ⟨h0, h1, h2, h3, h4, h5, h6, h7⟩ := hHeld; exact ⟨far6 h0 (by simp only [ne_eq]; omega), far6 h1 (by simp only [ne_eq]; omega), far6 h2 (by simp only [ne_eq]; omega), far6 h3 (by simp only [ne_eq]; omega), far6 h4 (by simp only [ne_eq]; omega), far6 h5 (by simp only [ne_eq]; omega), far6 h6 (by simp only [ne_eq]; omega), far6 h7 (by simp only [ne_eq]; omega)⟩
            clear hK K
            try simp only [lay]
            refine wpAnyH_done (by kernel_rfl) ?_ _
            have hOz' : Blk ((((((wy.setCell ⟨O, 6, none⟩ (.int .i64 nb0)).setCell ⟨O, 7, none⟩ (.int .i64 nb1)).setCell ⟨O, 8, none⟩ (.int .i64 nb2)).setCell ⟨O, 9, none⟩ (.int .i64 nb3)).setCell ⟨O, 10, none⟩ (.int .i64 nb4)).setCell ⟨O, 11, none⟩ (.int .i64 nb5)) O 44 #[.int .i64 na0, .int .i64 na1, .int .i64 na2, .int .i64 na3, .int .i64 na4, .int .i64 na5, .int .i64 nb0, .int .i64 nb1, .int .i64 nb2, .int .i64 nb3, .int .i64 nb4, .int .i64 nb5, .int .i64 y0, .int .i64 y1] := by
              have hh := ((((((hOy.put 6 (.int .i64 nb0)).put 7 (.int .i64 nb1)).put 8 (.int .i64 nb2)).put 9 (.int .i64 nb3)).put 10 (.int .i64 nb4)).put 11 (.int .i64 nb5))
              simpa only [List.setIfInBounds_toArray, List.set_cons_zero, List.set_cons_succ] using hh
            have hOz : Hid (Blk ((((((wy.setCell ⟨O, 6, none⟩ (.int .i64 nb0)).setCell ⟨O, 7, none⟩ (.int .i64 nb1)).setCell ⟨O, 8, none⟩ (.int .i64 nb2)).setCell ⟨O, 9, none⟩ (.int .i64 nb3)).setCell ⟨O, 10, none⟩ (.int .i64 nb4)).setCell ⟨O, 11, none⟩ (.int .i64 nb5)) O 44 #[.int .i64 na0, .int .i64 na1, .int .i64 na2, .int .i64 na3, .int .i64 na4, .int .i64 na5, .int .i64 nb0, .int .i64 nb1, .int .i64 nb2, .int .i64 nb3, .int .i64 nb4, .int .i64 nb5, .int .i64 y0, .int .i64 y1]) := hOz'
            clear hOz'
            have hbz2 : Below O wz ((((((wy.setCell ⟨O, 6, none⟩ (.int .i64 nb0)).setCell ⟨O, 7, none⟩ (.int .i64 nb1)).setCell ⟨O, 8, none⟩ (.int .i64 nb2)).setCell ⟨O, 9, none⟩ (.int .i64 nb3)).setCell ⟨O, 10, none⟩ (.int .i64 nb4)).setCell ⟨O, 11, none⟩ (.int .i64 nb5)) := ((((((hby.setCell (p := ⟨O, 6, none⟩) (Nat.le_refl _) (.int .i64 nb0)).setCell (p := ⟨O, 7, none⟩) (Nat.le_refl _) (.int .i64 nb1)).setCell (p := ⟨O, 8, none⟩) (Nat.le_refl _) (.int .i64 nb2)).setCell (p := ⟨O, 9, none⟩) (Nat.le_refl _) (.int .i64 nb3)).setCell (p := ⟨O, 10, none⟩) (Nat.le_refl _) (.int .i64 nb4)).setCell (p := ⟨O, 11, none⟩) (Nat.le_refl _) (.int .i64 nb5))
            go_wp2
            go_roundw
            case rel => exact ⟨2, by omega, by go_num, hOz, hbz2⟩
            case measure => simp [intOf]
          · go_wp2_with fail
            refine (of_3 _).mono ?_
            rintro e w1 ⟨rfl, os4, d4, rfl⟩
            go_wp2_with fail
            have hC := Blk.new (wr.more os4 d4) 134 #[.func (.func 100) #[] #[], .func (.func 101) #[] #[], .func (.func 102) #[] #[]]
            have hbx : Below O wz ((wr.more os4 d4).alloc (.cells #[.func (.func 100) #[] #[], .func (.func 101) #[] #[], .func (.func 102) #[] #[]] 134)) := (hbe.more (by omega) os4 d4).alloc (by simp; omega) _
            have hOx : Blk ((wr.more os4 d4).alloc (.cells #[.func (.func 100) #[] #[], .func (.func 101) #[] #[], .func (.func 102) #[] #[]] 134)) O 44 #[.int .i64 na0, .int .i64 na1, .int .i64 na2, .int .i64 na3, .int .i64 na4, .int .i64 na5, .int .i64 0, .int .i64 0, .int .i64 0, .int .i64 0, .int .i64 0, .int .i64 0, .int .i64 y0, .int .i64 y1] := (hO.more os4 d4).alloc _
            have hS2 : Blk ((wr.more os4 d4).alloc (.cells #[.func (.func 100) #[] #[], .func (.func 101) #[] #[], .func (.func 102) #[] #[]] 134)) (w.heap.size + 1) 44 #[.int .i64 a0, .int .i64 A1, .int .i64 a2, .int .i64 a3, .int .i64 a4, .int .i64 a5, .int .i64 b0, .int .i64 B1, .int .i64 b2, .int .i64 b3, .int .i64 b4, .int .i64 b5, .int .i64 W0, .int .i64 W1] := hB2.below hbx (by omega)
            have hS3 : Blk ((wr.more os4 d4).alloc (.cells #[.func (.func 100) #[] #[], .func (.func 101) #[] #[], .func (.func 102) #[] #[]] 134)) (w.heap.size + 2) 30 #[.int .i64 l0, .int .i64 l1] := hB3.below hbx (by omega)
            have hszx : O ≤ ((wr.more os4 d4).alloc (.cells #[.func (.func 100) #[] #[], .func (.func 101) #[] #[], .func (.func 102) #[] #[]] 134)).heap.size := by simp; omega
            have c1 : ((wr.more os4 d4).alloc (.cells #[.func (.func 100) #[] #[], .func (.func 101) #[] #[], .func (.func 102) #[] #[]] 134)).cell? ⟨(wr.more os4 d4).heap.size, 2, none⟩ = some (.func (.func 102) #[] #[]) := hC.cell 2
            have s0 : ((wr.more os4 d4).alloc (.cells #[.func (.func 100) #[] #[], .func (.func 101) #[] #[], .func (.func 102) #[] #[]] 134)).cell? ⟨w.heap.size + 1, 6, none⟩ = some (.int .i64 b0) := hS2.cell 6
            have s1 : ((wr.more os4 d4).alloc (.cells #[.func (.func 100) #[] #[], .func (.func 101) #[] #[], .func (.func 102) #[] #[]] 134)).cell? ⟨w.heap.size + 1, 7, none⟩ = some (.int .i64 B1) := hS2.cell 7
            have s2 : ((wr.more os4 d4).alloc (.cells #[.func (.func 100) #[] #[], .func (.func 101) #[] #[], .func (.func 102) #[] #[]] 134)).cell? ⟨w.heap.size + 1, 8, none⟩ = some (.int .i64 b2) := hS2.cell 8
            have s3 : ((wr.more os4 d4).alloc (.cells #[.func (.func 100) #[] #[], .func (.func 101) #[] #[], .func (.func 102) #[] #[]] 134)).cell? ⟨w.heap.size + 1, 9, none⟩ = some (.int .i64 b3) := hS2.cell 9
            have s4 : ((wr.more os4 d4).alloc (.cells #[.func (.func 100) #[] #[], .func (.func 101) #[] #[], .func (.func 102) #[] #[]] 134)).cell? ⟨w.heap.size + 1, 10, none⟩ = some (.int .i64 b4) := hS2.cell 10
            have s5 : ((wr.more os4 d4).alloc (.cells #[.func (.func 100) #[] #[], .func (.func 101) #[] #[], .func (.func 102) #[] #[]] 134)).cell? ⟨w.heap.size + 1, 11, none⟩ = some (.int .i64 b5) := hS2.cell 11
            have s6 : ((wr.more os4 d4).alloc (.cells #[.func (.func 100) #[] #[], .func (.func 101) #[] #[], .func (.func 102) #[] #[]] 134)).cell? ⟨w.heap.size + 2, 1, none⟩ = some (.int .i64 l1) := hS3.cell 1
            have hE : wr.heap.size + os4.size = (wr.more os4 d4).heap.size := by simp
            have hEz : O < (wr.more os4 d4).heap.size := by simp; omega
            rw [hE]
            clear hC hS2 hS3
            generalize ((wr.more os4 d4).alloc (.cells #[.func (.func 100) #[] #[], .func (.func 101) #[] #[], .func (.func 102) #[] #[]] 134)) = wx at *
            generalize (wr.more os4 d4).heap.size = E at *
            refine wp_region_held_drew (S := (fun w' => w'.cell? ⟨E, 2, none⟩ = some (.func (.func 102) #[] #[]) ∧ w'.cell? ⟨w.heap.size + 1, 6, none⟩ = some (.int .i64 b0) ∧ w'.cell? ⟨w.heap.size + 1, 7, none⟩ = some (.int .i64 B1) ∧ w'.cell? ⟨w.heap.size + 1, 8, none⟩ = some (.int .i64 b2) ∧ w'.cell? ⟨w.heap.size + 1, 9, none⟩ = some (.int .i64 b3) ∧ w'.cell? ⟨w.heap.size + 1, 10, none⟩ = some (.int .i64 b4) ∧ w'.cell? ⟨w.heap.size + 1, 11, none⟩ = some (.int .i64 b5) ∧ w'.cell? ⟨w.heap.size + 2, 1, none⟩ = some (.int .i64 l1))) (by kernel_rfl) ?_ (fun hHeld => ?_)
            · exact ⟨c1, s0, s1, s2, s3, s4, s5, s6⟩
            refine tk8 0 rfl ?_; try simp only [lay]
            refine tk8 1 rfl ?_; try simp only [lay]
            refine tk8 2 rfl ?_; try simp only [lay]
            refine tk8 3 rfl ?_; try simp only [lay]
            refine tk8 4 rfl ?_; try simp only [lay]
            refine tk8 5 rfl ?_; try simp only [lay]
            refine tk8 6 rfl ?_; try simp only [lay]
            refine tk8 7 rfl ?_; try simp only [lay]
            refine tk8 8 rfl ?_; try simp only [lay]
            refine tk8 9 rfl ?_; try simp only [lay]
            refine tk8 10 rfl ?_; try simp only [lay]
            refine tk8 11 rfl ?_; try simp only [lay]
            refine tk8 16 rfl ?_; try simp only [lay]
            refine wpAnyH_ready (rs := [12]) (by kernel_rfl) (by simp) ?_
            refine AllReadyH.cons rfl (fun K hK => ?_) AllReadyH.nil
            go_simp
            refine (next_3 b0 B1 b2 b3 b4 b5 ((dl : Int) + l1) nb0 nb1 nb2 nb3 nb4 nb5 _ hc1.out hd1.1 hd1.2 hN1).mono ?_
            rintro e w' ⟨rfl, os9, d9, rfl⟩
            refine hK.out _ _ ?_ (fun hHeld => ?_)
            · exact by obtain ⟨h0, h1, h2, h3, h4, h5, h6, h7⟩ := hHeld; exact ⟨more_keep _ _ h0, more_keep _ _ h1, more_keep _ _ h2, more_keep _ _ h3, more_keep _ _ h4, more_keep _ _ h5, more_keep _ _ h6, more_keep _ _ h7⟩
            clear hK K
            try simp only [lay]
            have hOy : Blk (wx.drew.more os9 d9) O 44 #[.int .i64 na0, .int .i64 na1, .int .i64 na2, .int .i64 na3, .int .i64 na4, .int .i64 na5, .int .i64 0, .int .i64 0, .int .i64 0, .int .i64 0, .int .i64 0, .int .i64 0, .int .i64 y0, .int .i64 y1] := (hOx.drew).more _ _
            have hby : Below O wz (wx.drew.more os9 d9) := (hbx.drewN 1).more (by first | exact hszx | (simp; omega)) _ _
            have o0 : (wx.drew.more os9 d9).cell? ⟨O, 6, none⟩ = some (.int .i64 0) := hOy.cell 6
            have o1 : (wx.drew.more os9 d9).cell? ⟨O, 7, none⟩ = some (.int .i64 0) := hOy.cell 7
            have o2 : (wx.drew.more os9 d9).cell? ⟨O, 8, none⟩ = some (.int .i64 0) := hOy.cell 8
            have o3 : (wx.drew.more os9 d9).cell? ⟨O, 9, none⟩ = some (.int .i64 0) := hOy.cell 9
            have o4 : (wx.drew.more os9 d9).cell? ⟨O, 10, none⟩ = some (.int .i64 0) := hOy.cell 10
            have o5 : (wx.drew.more os9 d9).cell? ⟨O, 11, none⟩ = some (.int .i64 0) := hOy.cell 11
            have p0 : (wx.drew.more os9 d9).frozen? ⟨O, 6, none⟩ = false := hOy.frozen 6
            have p1 : (wx.drew.more os9 d9).frozen? ⟨O, 7, none⟩ = false := hOy.frozen 7
            have p2 : (wx.drew.more os9 d9).frozen? ⟨O, 8, none⟩ = false := hOy.frozen 8
            have p3 : (wx.drew.more os9 d9).frozen? ⟨O, 9, none⟩ = false := hOy.frozen 9
            have p4 : (wx.drew.more os9 d9).frozen? ⟨O, 10, none⟩ = false := hOy.frozen 10
            have p5 : (wx.drew.more os9 d9).frozen? ⟨O, 11, none⟩ = false := hOy.frozen 11
            clear hOx hbx
            generalize wx.drew.more os9 d9 = wy at *
            refine tk8 13 rfl ?_; try simp only [lay]
            refine tk8 14 rfl ?_; try simp only [lay]
            refine tk8 15 rfl ?_; try simp only [lay]
            refine tk8 17 rfl ?_; try simp only [lay]
            refine wpAnyH_ready (rs := [18]) (by kernel_rfl) (by simp) ?_
            refine AllReadyH.cons rfl (fun K hK => ?_) AllReadyH.nil
            go_simp
            refine hK.out _ _ ?_ (fun hHeld => ?_)
            · exact by obtain ⟨h0, h1, h2, h3, h4, h5, h6, h7⟩ := hHeld; exact ⟨far6 h0 (by simp only [ne_eq]; omega), far6 h1 (by simp only [ne_eq]; omega), far6 h2 (by simp only [ne_eq]; omega), far6 h3 (by simp only [ne_eq]; omega), far6 h4 (by simp only [ne_eq]; omega), far6 h5 (by simp only [ne_eq]; omega), far6 h6 (by simp only [ne_eq]; omega), far6 h7 (by simp only [ne_eq]; omega)⟩
            clear hK K
            try simp only [lay]
            refine wpAnyH_done (by kernel_rfl) ?_ _
            have hOz' : Blk ((((((wy.setCell ⟨O, 6, none⟩ (.int .i64 nb0)).setCell ⟨O, 7, none⟩ (.int .i64 nb1)).setCell ⟨O, 8, none⟩ (.int .i64 nb2)).setCell ⟨O, 9, none⟩ (.int .i64 nb3)).setCell ⟨O, 10, none⟩ (.int .i64 nb4)).setCell ⟨O, 11, none⟩ (.int .i64 nb5)) O 44 #[.int .i64 na0, .int .i64 na1, .int .i64 na2, .int .i64 na3, .int .i64 na4, .int .i64 na5, .int .i64 nb0, .int .i64 nb1, .int .i64 nb2, .int .i64 nb3, .int .i64 nb4, .int .i64 nb5, .int .i64 y0, .int .i64 y1] := by
              have hh := ((((((hOy.put 6 (.int .i64 nb0)).put 7 (.int .i64 nb1)).put 8 (.int .i64 nb2)).put 9 (.int .i64 nb3)).put 10 (.int .i64 nb4)).put 11 (.int .i64 nb5))
              simpa only [List.setIfInBounds_toArray, List.set_cons_zero, List.set_cons_succ] using hh
            have hOz : Hid (Blk ((((((wy.setCell ⟨O, 6, none⟩ (.int .i64 nb0)).setCell ⟨O, 7, none⟩ (.int .i64 nb1)).setCell ⟨O, 8, none⟩ (.int .i64 nb2)).setCell ⟨O, 9, none⟩ (.int .i64 nb3)).setCell ⟨O, 10, none⟩ (.int .i64 nb4)).setCell ⟨O, 11, none⟩ (.int .i64 nb5)) O 44 #[.int .i64 na0, .int .i64 na1, .int .i64 na2, .int .i64 na3, .int .i64 na4, .int .i64 na5, .int .i64 nb0, .int .i64 nb1, .int .i64 nb2, .int .i64 nb3, .int .i64 nb4, .int .i64 nb5, .int .i64 y0, .int .i64 y1]) := hOz'
            clear hOz'
            have hbz2 : Below O wz ((((((wy.setCell ⟨O, 6, none⟩ (.int .i64 nb0)).setCell ⟨O, 7, none⟩ (.int .i64 nb1)).setCell ⟨O, 8, none⟩ (.int .i64 nb2)).setCell ⟨O, 9, none⟩ (.int .i64 nb3)).setCell ⟨O, 10, none⟩ (.int .i64 nb4)).setCell ⟨O, 11, none⟩ (.int .i64 nb5)) := ((((((hby.setCell (p := ⟨O, 6, none⟩) (Nat.le_refl _) (.int .i64 nb0)).setCell (p := ⟨O, 7, none⟩) (Nat.le_refl _) (.int .i64 nb1)).setCell (p := ⟨O, 8, none⟩) (Nat.le_refl _) (.int .i64 nb2)).setCell (p := ⟨O, 9, none⟩) (Nat.le_refl _) (.int .i64 nb3)).setCell (p := ⟨O, 10, none⟩) (Nat.le_refl _) (.int .i64 nb4)).setCell (p := ⟨O, 11, none⟩) (Nat.le_refl _) (.int .i64 nb5))
            go_wp2
            go_roundw
            case rel => exact ⟨2, by omega, by go_num, hOz, hbz2⟩
            case measure => simp [intOf]
        · have hi : _ = Value.int .i64 2 := hi
          subst hi
          have hO : Blk wr O 44 #[.int .i64 na0, .int .i64 na1, .int .i64 na2, .int .i64 na3, .int .i64 na4, .int .i64 na5, .int .i64 nb0, .int .i64 nb1, .int .i64 nb2, .int .i64 nb3, .int .i64 nb4, .int .i64 nb5, .int .i64 y0, .int .i64 y1] := hO.out
          have hOl := hO.lt
          have hC4 : Blk wr (w.heap.size + 3) 44 #[.int .i64 0, .int .i64 0, .int .i64 0, .int .i64 0, .int .i64 0, .int .i64 0, .int .i64 0, .int .i64 0, .int .i64 0, .int .i64 0, .int .i64 0, .int .i64 0, .int .i64 0, .int .i64 0] := hB4.below hbe (by omega)
          have hC5 : Blk wr (w.heap.size + 4) 93 #[.int .i64 0, .int .i64 0, .int .i64 0, .int .i64 0, .int .i64 0, .int .i64 0] := hB5.below hbe (by omega)
          have hC6 : Blk wr P 93 #[.int .i64 A1, .int .i64 B1, .int .i64 c0, .int .i64 c1, .int .i64 x0, .int .i64 x1] := hB6.below hbe (by omega)
          have r0 : wr.cell? ⟨O, 0, none⟩ = some (.int .i64 na0) := hO.cell 0
          have t0 : wr.cell? ⟨w.heap.size + 3, 0, none⟩ = some (.int .i64 0) := hC4.cell 0
          have v0 : wr.frozen? ⟨w.heap.size + 3, 0, none⟩ = false := hC4.frozen 0
          have r1 : wr.cell? ⟨O, 1, none⟩ = some (.int .i64 na1) := hO.cell 1
          have t1 : wr.cell? ⟨w.heap.size + 3, 1, none⟩ = some (.int .i64 0) := hC4.cell 1
          have v1 : wr.frozen? ⟨w.heap.size + 3, 1, none⟩ = false := hC4.frozen 1
          have r2 : wr.cell? ⟨O, 2, none⟩ = some (.int .i64 na2) := hO.cell 2
          have t2 : wr.cell? ⟨w.heap.size + 3, 2, none⟩ = some (.int .i64 0) := hC4.cell 2
          have v2 : wr.frozen? ⟨w.heap.size + 3, 2, none⟩ = false := hC4.frozen 2
          have r3 : wr.cell? ⟨O, 3, none⟩ = some (.int .i64 na3) := hO.cell 3
          have t3 : wr.cell? ⟨w.heap.size + 3, 3, none⟩ = some (.int .i64 0) := hC4.cell 3
          have v3 : wr.frozen? ⟨w.heap.size + 3, 3, none⟩ = false := hC4.frozen 3
          have r4 : wr.cell? ⟨O, 4, none⟩ = some (.int .i64 na4) := hO.cell 4
          have t4 : wr.cell? ⟨w.heap.size + 3, 4, none⟩ = some (.int .i64 0) := hC4.cell 4
          have v4 : wr.frozen? ⟨w.heap.size + 3, 4, none⟩ = false := hC4.frozen 4
          have r5 : wr.cell? ⟨O, 5, none⟩ = some (.int .i64 na5) := hO.cell 5
          have t5 : wr.cell? ⟨w.heap.size + 3, 5, none⟩ = some (.int .i64 0) := hC4.cell 5
          have v5 : wr.frozen? ⟨w.heap.size + 3, 5, none⟩ = false := hC4.frozen 5
          have r6 : wr.cell? ⟨O, 6, none⟩ = some (.int .i64 nb0) := hO.cell 6
          have t6 : wr.cell? ⟨w.heap.size + 3, 6, none⟩ = some (.int .i64 0) := hC4.cell 6
          have v6 : wr.frozen? ⟨w.heap.size + 3, 6, none⟩ = false := hC4.frozen 6
          have r7 : wr.cell? ⟨O, 7, none⟩ = some (.int .i64 nb1) := hO.cell 7
          have t7 : wr.cell? ⟨w.heap.size + 3, 7, none⟩ = some (.int .i64 0) := hC4.cell 7
          have v7 : wr.frozen? ⟨w.heap.size + 3, 7, none⟩ = false := hC4.frozen 7
          have r8 : wr.cell? ⟨O, 8, none⟩ = some (.int .i64 nb2) := hO.cell 8
          have t8 : wr.cell? ⟨w.heap.size + 3, 8, none⟩ = some (.int .i64 0) := hC4.cell 8
          have v8 : wr.frozen? ⟨w.heap.size + 3, 8, none⟩ = false := hC4.frozen 8
          have r9 : wr.cell? ⟨O, 9, none⟩ = some (.int .i64 nb3) := hO.cell 9
          have t9 : wr.cell? ⟨w.heap.size + 3, 9, none⟩ = some (.int .i64 0) := hC4.cell 9
          have v9 : wr.frozen? ⟨w.heap.size + 3, 9, none⟩ = false := hC4.frozen 9
          have r10 : wr.cell? ⟨O, 10, none⟩ = some (.int .i64 nb4) := hO.cell 10
          have t10 : wr.cell? ⟨w.heap.size + 3, 10, none⟩ = some (.int .i64 0) := hC4.cell 10
          have v10 : wr.frozen? ⟨w.heap.size + 3, 10, none⟩ = false := hC4.frozen 10
          have r11 : wr.cell? ⟨O, 11, none⟩ = some (.int .i64 nb5) := hO.cell 11
          have t11 : wr.cell? ⟨w.heap.size + 3, 11, none⟩ = some (.int .i64 0) := hC4.cell 11
          have v11 : wr.frozen? ⟨w.heap.size + 3, 11, none⟩ = false := hC4.frozen 11
          have r12 : wr.cell? ⟨O, 12, none⟩ = some (.int .i64 y0) := hO.cell 12
          have t12 : wr.cell? ⟨w.heap.size + 3, 12, none⟩ = some (.int .i64 0) := hC4.cell 12
          have v12 : wr.frozen? ⟨w.heap.size + 3, 12, none⟩ = false := hC4.frozen 12
          have r13 : wr.cell? ⟨O, 13, none⟩ = some (.int .i64 y1) := hO.cell 13
          have t13 : wr.cell? ⟨w.heap.size + 3, 13, none⟩ = some (.int .i64 0) := hC4.cell 13
          have v13 : wr.frozen? ⟨w.heap.size + 3, 13, none⟩ = false := hC4.frozen 13
          have p0 : wr.cell? ⟨P, 0, none⟩ = some (.int .i64 A1) := hC6.cell 0
          have y0_ : wr.cell? ⟨w.heap.size + 4, 0, none⟩ = some (.int .i64 0) := hC5.cell 0
          have z0 : wr.frozen? ⟨w.heap.size + 4, 0, none⟩ = false := hC5.frozen 0
          have p1 : wr.cell? ⟨P, 1, none⟩ = some (.int .i64 B1) := hC6.cell 1
          have y1_ : wr.cell? ⟨w.heap.size + 4, 1, none⟩ = some (.int .i64 0) := hC5.cell 1
          have z1 : wr.frozen? ⟨w.heap.size + 4, 1, none⟩ = false := hC5.frozen 1
          have p2 : wr.cell? ⟨P, 2, none⟩ = some (.int .i64 c0) := hC6.cell 2
          have y2_ : wr.cell? ⟨w.heap.size + 4, 2, none⟩ = some (.int .i64 0) := hC5.cell 2
          have z2 : wr.frozen? ⟨w.heap.size + 4, 2, none⟩ = false := hC5.frozen 2
          have p3 : wr.cell? ⟨P, 3, none⟩ = some (.int .i64 c1) := hC6.cell 3
          have y3_ : wr.cell? ⟨w.heap.size + 4, 3, none⟩ = some (.int .i64 0) := hC5.cell 3
          have z3 : wr.frozen? ⟨w.heap.size + 4, 3, none⟩ = false := hC5.frozen 3
          have p4 : wr.cell? ⟨P, 4, none⟩ = some (.int .i64 x0) := hC6.cell 4
          have y4_ : wr.cell? ⟨w.heap.size + 4, 4, none⟩ = some (.int .i64 0) := hC5.cell 4
          have z4 : wr.frozen? ⟨w.heap.size + 4, 4, none⟩ = false := hC5.frozen 4
          have p5 : wr.cell? ⟨P, 5, none⟩ = some (.int .i64 x1) := hC6.cell 5
          have y5_ : wr.cell? ⟨w.heap.size + 4, 5, none⟩ = some (.int .i64 0) := hC5.cell 5
          have z5 : wr.frozen? ⟨w.heap.size + 4, 5, none⟩ = false := hC5.frozen 5
          have hbf := hZB.trans (hbe.mono hZs)
          clear hB1 hB2 hB3 hB4 hB5 hB6 hN hbe0
          go_wp2_with fail
          go_region
          have hX1 : Blk ((((((((((((((((((((wr.setCell ⟨w.heap.size + 3, 0, none⟩ (.int .i64 na0)).setCell ⟨w.heap.size + 3, 1, none⟩ (.int .i64 na1)).setCell ⟨w.heap.size + 3, 2, none⟩ (.int .i64 na2)).setCell ⟨w.heap.size + 3, 3, none⟩ (.int .i64 na3)).setCell ⟨w.heap.size + 3, 4, none⟩ (.int .i64 na4)).setCell ⟨w.heap.size + 3, 5, none⟩ (.int .i64 na5)).setCell ⟨w.heap.size + 3, 6, none⟩ (.int .i64 nb0)).setCell ⟨w.heap.size + 3, 7, none⟩ (.int .i64 nb1)).setCell ⟨w.heap.size + 3, 8, none⟩ (.int .i64 nb2)).setCell ⟨w.heap.size + 3, 9, none⟩ (.int .i64 nb3)).setCell ⟨w.heap.size + 3, 10, none⟩ (.int .i64 nb4)).setCell ⟨w.heap.size + 3, 11, none⟩ (.int .i64 nb5)).setCell ⟨w.heap.size + 3, 12, none⟩ (.int .i64 y0)).setCell ⟨w.heap.size + 3, 13, none⟩ (.int .i64 y1)).setCell ⟨w.heap.size + 4, 0, none⟩ (.int .i64 A1)).setCell ⟨w.heap.size + 4, 1, none⟩ (.int .i64 B1)).setCell ⟨w.heap.size + 4, 2, none⟩ (.int .i64 c0)).setCell ⟨w.heap.size + 4, 3, none⟩ (.int .i64 c1)).setCell ⟨w.heap.size + 4, 4, none⟩ (.int .i64 x0)).setCell ⟨w.heap.size + 4, 5, none⟩ (.int .i64 x1)) (w.heap.size + 3) 44 #[.int .i64 na0, .int .i64 na1, .int .i64 na2, .int .i64 na3, .int .i64 na4, .int .i64 na5, .int .i64 nb0, .int .i64 nb1, .int .i64 nb2, .int .i64 nb3, .int .i64 nb4, .int .i64 nb5, .int .i64 y0, .int .i64 y1] := by
            have hh := ((((((((((((((((((((hC4.put 0 (.int .i64 na0)).put 1 (.int .i64 na1)).put 2 (.int .i64 na2)).put 3 (.int .i64 na3)).put 4 (.int .i64 na4)).put 5 (.int .i64 na5)).put 6 (.int .i64 nb0)).put 7 (.int .i64 nb1)).put 8 (.int .i64 nb2)).put 9 (.int .i64 nb3)).put 10 (.int .i64 nb4)).put 11 (.int .i64 nb5)).put 12 (.int .i64 y0)).put 13 (.int .i64 y1)).far (p := ⟨w.heap.size + 4, 0, none⟩) (by simp only [ne_eq]; omega) (.int .i64 A1)).far (p := ⟨w.heap.size + 4, 1, none⟩) (by simp only [ne_eq]; omega) (.int .i64 B1)).far (p := ⟨w.heap.size + 4, 2, none⟩) (by simp only [ne_eq]; omega) (.int .i64 c0)).far (p := ⟨w.heap.size + 4, 3, none⟩) (by simp only [ne_eq]; omega) (.int .i64 c1)).far (p := ⟨w.heap.size + 4, 4, none⟩) (by simp only [ne_eq]; omega) (.int .i64 x0)).far (p := ⟨w.heap.size + 4, 5, none⟩) (by simp only [ne_eq]; omega) (.int .i64 x1))
            simpa only [List.setIfInBounds_toArray, List.set_cons_zero, List.set_cons_succ] using hh
          have hX2 : Blk ((((((((((((((((((((wr.setCell ⟨w.heap.size + 3, 0, none⟩ (.int .i64 na0)).setCell ⟨w.heap.size + 3, 1, none⟩ (.int .i64 na1)).setCell ⟨w.heap.size + 3, 2, none⟩ (.int .i64 na2)).setCell ⟨w.heap.size + 3, 3, none⟩ (.int .i64 na3)).setCell ⟨w.heap.size + 3, 4, none⟩ (.int .i64 na4)).setCell ⟨w.heap.size + 3, 5, none⟩ (.int .i64 na5)).setCell ⟨w.heap.size + 3, 6, none⟩ (.int .i64 nb0)).setCell ⟨w.heap.size + 3, 7, none⟩ (.int .i64 nb1)).setCell ⟨w.heap.size + 3, 8, none⟩ (.int .i64 nb2)).setCell ⟨w.heap.size + 3, 9, none⟩ (.int .i64 nb3)).setCell ⟨w.heap.size + 3, 10, none⟩ (.int .i64 nb4)).setCell ⟨w.heap.size + 3, 11, none⟩ (.int .i64 nb5)).setCell ⟨w.heap.size + 3, 12, none⟩ (.int .i64 y0)).setCell ⟨w.heap.size + 3, 13, none⟩ (.int .i64 y1)).setCell ⟨w.heap.size + 4, 0, none⟩ (.int .i64 A1)).setCell ⟨w.heap.size + 4, 1, none⟩ (.int .i64 B1)).setCell ⟨w.heap.size + 4, 2, none⟩ (.int .i64 c0)).setCell ⟨w.heap.size + 4, 3, none⟩ (.int .i64 c1)).setCell ⟨w.heap.size + 4, 4, none⟩ (.int .i64 x0)).setCell ⟨w.heap.size + 4, 5, none⟩ (.int .i64 x1)) (w.heap.size + 4) 93 #[.int .i64 A1, .int .i64 B1, .int .i64 c0, .int .i64 c1, .int .i64 x0, .int .i64 x1] := by
            have hh := ((((((((((((((((((((hC5.far (p := ⟨w.heap.size + 3, 0, none⟩) (by simp only [ne_eq]; omega) (.int .i64 na0)).far (p := ⟨w.heap.size + 3, 1, none⟩) (by simp only [ne_eq]; omega) (.int .i64 na1)).far (p := ⟨w.heap.size + 3, 2, none⟩) (by simp only [ne_eq]; omega) (.int .i64 na2)).far (p := ⟨w.heap.size + 3, 3, none⟩) (by simp only [ne_eq]; omega) (.int .i64 na3)).far (p := ⟨w.heap.size + 3, 4, none⟩) (by simp only [ne_eq]; omega) (.int .i64 na4)).far (p := ⟨w.heap.size + 3, 5, none⟩) (by simp only [ne_eq]; omega) (.int .i64 na5)).far (p := ⟨w.heap.size + 3, 6, none⟩) (by simp only [ne_eq]; omega) (.int .i64 nb0)).far (p := ⟨w.heap.size + 3, 7, none⟩) (by simp only [ne_eq]; omega) (.int .i64 nb1)).far (p := ⟨w.heap.size + 3, 8, none⟩) (by simp only [ne_eq]; omega) (.int .i64 nb2)).far (p := ⟨w.heap.size + 3, 9, none⟩) (by simp only [ne_eq]; omega) (.int .i64 nb3)).far (p := ⟨w.heap.size + 3, 10, none⟩) (by simp only [ne_eq]; omega) (.int .i64 nb4)).far (p := ⟨w.heap.size + 3, 11, none⟩) (by simp only [ne_eq]; omega) (.int .i64 nb5)).far (p := ⟨w.heap.size + 3, 12, none⟩) (by simp only [ne_eq]; omega) (.int .i64 y0)).far (p := ⟨w.heap.size + 3, 13, none⟩) (by simp only [ne_eq]; omega) (.int .i64 y1)).put 0 (.int .i64 A1)).put 1 (.int .i64 B1)).put 2 (.int .i64 c0)).put 3 (.int .i64 c1)).put 4 (.int .i64 x0)).put 5 (.int .i64 x1))
            simpa only [List.setIfInBounds_toArray, List.set_cons_zero, List.set_cons_succ] using hh
          have hX3 : Below w.heap.size w ((((((((((((((((((((wr.setCell ⟨w.heap.size + 3, 0, none⟩ (.int .i64 na0)).setCell ⟨w.heap.size + 3, 1, none⟩ (.int .i64 na1)).setCell ⟨w.heap.size + 3, 2, none⟩ (.int .i64 na2)).setCell ⟨w.heap.size + 3, 3, none⟩ (.int .i64 na3)).setCell ⟨w.heap.size + 3, 4, none⟩ (.int .i64 na4)).setCell ⟨w.heap.size + 3, 5, none⟩ (.int .i64 na5)).setCell ⟨w.heap.size + 3, 6, none⟩ (.int .i64 nb0)).setCell ⟨w.heap.size + 3, 7, none⟩ (.int .i64 nb1)).setCell ⟨w.heap.size + 3, 8, none⟩ (.int .i64 nb2)).setCell ⟨w.heap.size + 3, 9, none⟩ (.int .i64 nb3)).setCell ⟨w.heap.size + 3, 10, none⟩ (.int .i64 nb4)).setCell ⟨w.heap.size + 3, 11, none⟩ (.int .i64 nb5)).setCell ⟨w.heap.size + 3, 12, none⟩ (.int .i64 y0)).setCell ⟨w.heap.size + 3, 13, none⟩ (.int .i64 y1)).setCell ⟨w.heap.size + 4, 0, none⟩ (.int .i64 A1)).setCell ⟨w.heap.size + 4, 1, none⟩ (.int .i64 B1)).setCell ⟨w.heap.size + 4, 2, none⟩ (.int .i64 c0)).setCell ⟨w.heap.size + 4, 3, none⟩ (.int .i64 c1)).setCell ⟨w.heap.size + 4, 4, none⟩ (.int .i64 x0)).setCell ⟨w.heap.size + 4, 5, none⟩ (.int .i64 x1)) := ((((((((((((((((((((hbf.setCell (p := ⟨w.heap.size + 3, 0, none⟩) (by dsimp only; omega) (.int .i64 na0)).setCell (p := ⟨w.heap.size + 3, 1, none⟩) (by dsimp only; omega) (.int .i64 na1)).setCell (p := ⟨w.heap.size + 3, 2, none⟩) (by dsimp only; omega) (.int .i64 na2)).setCell (p := ⟨w.heap.size + 3, 3, none⟩) (by dsimp only; omega) (.int .i64 na3)).setCell (p := ⟨w.heap.size + 3, 4, none⟩) (by dsimp only; omega) (.int .i64 na4)).setCell (p := ⟨w.heap.size + 3, 5, none⟩) (by dsimp only; omega) (.int .i64 na5)).setCell (p := ⟨w.heap.size + 3, 6, none⟩) (by dsimp only; omega) (.int .i64 nb0)).setCell (p := ⟨w.heap.size + 3, 7, none⟩) (by dsimp only; omega) (.int .i64 nb1)).setCell (p := ⟨w.heap.size + 3, 8, none⟩) (by dsimp only; omega) (.int .i64 nb2)).setCell (p := ⟨w.heap.size + 3, 9, none⟩) (by dsimp only; omega) (.int .i64 nb3)).setCell (p := ⟨w.heap.size + 3, 10, none⟩) (by dsimp only; omega) (.int .i64 nb4)).setCell (p := ⟨w.heap.size + 3, 11, none⟩) (by dsimp only; omega) (.int .i64 nb5)).setCell (p := ⟨w.heap.size + 3, 12, none⟩) (by dsimp only; omega) (.int .i64 y0)).setCell (p := ⟨w.heap.size + 3, 13, none⟩) (by dsimp only; omega) (.int .i64 y1)).setCell (p := ⟨w.heap.size + 4, 0, none⟩) (by dsimp only; omega) (.int .i64 A1)).setCell (p := ⟨w.heap.size + 4, 1, none⟩) (by dsimp only; omega) (.int .i64 B1)).setCell (p := ⟨w.heap.size + 4, 2, none⟩) (by dsimp only; omega) (.int .i64 c0)).setCell (p := ⟨w.heap.size + 4, 3, none⟩) (by dsimp only; omega) (.int .i64 c1)).setCell (p := ⟨w.heap.size + 4, 4, none⟩) (by dsimp only; omega) (.int .i64 x0)).setCell (p := ⟨w.heap.size + 4, 5, none⟩) (by dsimp only; omega) (.int .i64 x1))
          generalize ((((((((((((((((((((wr.setCell ⟨w.heap.size + 3, 0, none⟩ (.int .i64 na0)).setCell ⟨w.heap.size + 3, 1, none⟩ (.int .i64 na1)).setCell ⟨w.heap.size + 3, 2, none⟩ (.int .i64 na2)).setCell ⟨w.heap.size + 3, 3, none⟩ (.int .i64 na3)).setCell ⟨w.heap.size + 3, 4, none⟩ (.int .i64 na4)).setCell ⟨w.heap.size + 3, 5, none⟩ (.int .i64 na5)).setCell ⟨w.heap.size + 3, 6, none⟩ (.int .i64 nb0)).setCell ⟨w.heap.size + 3, 7, none⟩ (.int .i64 nb1)).setCell ⟨w.heap.size + 3, 8, none⟩ (.int .i64 nb2)).setCell ⟨w.heap.size + 3, 9, none⟩ (.int .i64 nb3)).setCell ⟨w.heap.size + 3, 10, none⟩ (.int .i64 nb4)).setCell ⟨w.heap.size + 3, 11, none⟩ (.int .i64 nb5)).setCell ⟨w.heap.size + 3, 12, none⟩ (.int .i64 y0)).setCell ⟨w.heap.size + 3, 13, none⟩ (.int .i64 y1)).setCell ⟨w.heap.size + 4, 0, none⟩ (.int .i64 A1)).setCell ⟨w.heap.size + 4, 1, none⟩ (.int .i64 B1)).setCell ⟨w.heap.size + 4, 2, none⟩ (.int .i64 c0)).setCell ⟨w.heap.size + 4, 3, none⟩ (.int .i64 c1)).setCell ⟨w.heap.size + 4, 4, none⟩ (.int .i64 x0)).setCell ⟨w.heap.size + 4, 5, none⟩ (.int .i64 x1)) = w9 at *
          have m0 : w9.cell? ⟨w.heap.size + 3, 0, none⟩ = some (.int .i64 na0) := hX1.cell 0
          have m1 : w9.cell? ⟨w.heap.size + 3, 1, none⟩ = some (.int .i64 na1) := hX1.cell 1
          have m2 : w9.cell? ⟨w.heap.size + 3, 2, none⟩ = some (.int .i64 na2) := hX1.cell 2
          have m3 : w9.cell? ⟨w.heap.size + 3, 3, none⟩ = some (.int .i64 na3) := hX1.cell 3
          have m4 : w9.cell? ⟨w.heap.size + 3, 4, none⟩ = some (.int .i64 na4) := hX1.cell 4
          have m5 : w9.cell? ⟨w.heap.size + 3, 5, none⟩ = some (.int .i64 na5) := hX1.cell 5
          have m6 : w9.cell? ⟨w.heap.size + 3, 6, none⟩ = some (.int .i64 nb0) := hX1.cell 6
          have m7 : w9.cell? ⟨w.heap.size + 3, 7, none⟩ = some (.int .i64 nb1) := hX1.cell 7
          have m8 : w9.cell? ⟨w.heap.size + 3, 8, none⟩ = some (.int .i64 nb2) := hX1.cell 8
          have m9 : w9.cell? ⟨w.heap.size + 3, 9, none⟩ = some (.int .i64 nb3) := hX1.cell 9
          have m10 : w9.cell? ⟨w.heap.size + 3, 10, none⟩ = some (.int .i64 nb4) := hX1.cell 10
          have m11 : w9.cell? ⟨w.heap.size + 3, 11, none⟩ = some (.int .i64 nb5) := hX1.cell 11
          have m12 : w9.cell? ⟨w.heap.size + 3, 12, none⟩ = some (.int .i64 y0) := hX1.cell 12
          have m13 : w9.cell? ⟨w.heap.size + 3, 13, none⟩ = some (.int .i64 y1) := hX1.cell 13
          have o0 : w9.cell? ⟨w.heap.size + 4, 0, none⟩ = some (.int .i64 A1) := hX2.cell 0
          have o1 : w9.cell? ⟨w.heap.size + 4, 1, none⟩ = some (.int .i64 B1) := hX2.cell 1
          have o2 : w9.cell? ⟨w.heap.size + 4, 2, none⟩ = some (.int .i64 c0) := hX2.cell 2
          have o3 : w9.cell? ⟨w.heap.size + 4, 3, none⟩ = some (.int .i64 c1) := hX2.cell 3
          have o4 : w9.cell? ⟨w.heap.size + 4, 4, none⟩ = some (.int .i64 x0) := hX2.cell 4
          have o5 : w9.cell? ⟨w.heap.size + 4, 5, none⟩ = some (.int .i64 x1) := hX2.cell 5
          go_wp2
          refine bodyPost_ret (v := .tuple #[.agg #[.int .i64 na0, .int .i64 na1, .int .i64 na2, .int .i64 na3, .int .i64 na4, .int .i64 na5, .int .i64 nb0, .int .i64 nb1, .int .i64 nb2, .int .i64 nb3, .int .i64 nb4, .int .i64 nb5, .int .i64 y0, .int .i64 y1], .agg #[.int .i64 A1, .int .i64 B1, .int .i64 c0, .int .i64 c1, .int .i64 x0, .int .i64 x1], .int .i64 0]) ?_ rfl ?_
          · simp [results, Tryz.results42, go_sem, m0, m1, m2, m3, m4, m5, m6, m7, m8, m9, m10, m11, m12, m13, o0, o1, o2, o3, o4, o5]
          · exact ⟨rfl, More.of_below (hX3.drewN 1)⟩
end Go.Proofs.YtgmljgcmfooniaaGreatDoor
