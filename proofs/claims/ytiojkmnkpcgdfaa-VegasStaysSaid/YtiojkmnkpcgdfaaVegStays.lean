/- VegasStays: for every window and any delays the law returns true. Conditions: none. -/
import Derived.Test.YtiojkmnkpcgdfaaVeg
import Derived.Test.YtiojkmnkpcgdfaaOpen
namespace Go.Proofs.Ytiojkmnkpcgdfaa
open Go.RowKit Go.Tide
set_option linter.unusedVariables false
set_option linter.unusedSimpArgs false

def VegSt (win base lo : Int) : Prop := 1 ≤ win ∧ win ≤ 12 ∧ -1 ≤ base ∧ base ≤ 1099511627776 ∧ (base < 0 ∧ lo = 1152921504606846976 ∨ 0 ≤ base ∧ lo = base)

theorem VegSt.right {win base lo : Int} (h : VegSt win base lo) : vegasRight 1 win base 0 0 0 = true := by
  unfold VegSt at h
  exact decide_eq_true (by omega)
theorem VegSt.low {win base lo x : Int} (h : VegSt win base lo) (h0 : 0 ≤ x) (h1 : x ≤ 1099511627776) : (if x < lo then x else lo) = lowBase base x := by
  unfold VegSt at h
  simp only [lowBase]
  omega
theorem VegSt.step {win base lo x : Int} (h : VegSt win base lo) (h0 : 0 ≤ x) (h1 : x ≤ 1099511627776) : VegSt (vegWin win base x) (lowBase base x) (lowBase base x) := by
  unfold VegSt at h
  have h2 : 1 ≤ vegWin win base x ∧ vegWin win base x ≤ 12 := by simp only [vegWin]; omega
  have h3 : 0 ≤ lowBase base x ∧ lowBase base x ≤ 1099511627776 := by simp only [lowBase]; omega
  unfold VegSt
  omega

set_option maxHeartbeats 1000000 in
theorem vegasStays_walk (a0 : Int) (a1 : Option Addr) (len1 cap1 : Nat) (z1 : List Int) (w : World) (b0 : InI64 a0) (f1 : IsFlat w a1 len1 cap1 1 z1) (r1 : cap1 * 8 ≤ 140737488351232) :
    Calls Try.prog 7 #[.int .i64 a0, .slice a1 len1 cap1] w fun e w' => e = .returned (.bool true) ∧ Below w.heap.size w w' := by
  have hlen : len1 ≤ 17592186044416 := by
    rcases f1 with ⟨_, h, _, _⟩ | ⟨_, _, h, _⟩ <;> omega
  go_enter Try.func7, Try.ntmps7
  go_wp2_with (first
    | (go_at_call 17; refine (vegas_alive _).mono ?_; rintro e w' ⟨rfl, os, n, rfl⟩)
    | (go_at_call 18; refine (vegas_new _ _).mono ?_; rintro e w' ⟨rfl, x, rfl⟩))
  have hst0 : VegSt (min (max a0 1) 12) (-1) 1152921504606846976 := by unfold VegSt; omega
  have hbl0 : Blk (((w.more os n).alloc x).alloc (Obj.cells #[.int .i64 1, .int .i64 (min (max a0 1) 12), .int .i64 (-1), .int .i64 0, .int .i64 0, .int .i64 0] 25)) (w.heap.size + (os.size + 1)) 25
      #[.int .i64 1, .int .i64 (min (max a0 1) 12), .int .i64 (-1), .int .i64 0, .int .i64 0, .int .i64 0] := by
    have := Blk.new ((w.more os n).alloc x) 25 #[.int .i64 1, .int .i64 (min (max a0 1) 12), .int .i64 (-1), .int .i64 0, .int .i64 0, .int .i64 0]
    simpa [Nat.add_assoc] using this
  have hbe0 : Below w.heap.size w (((w.more os n).alloc x).alloc (Obj.cells #[.int .i64 1, .int .i64 (min (max a0 1) 12), .int .i64 (-1), .int .i64 0, .int .i64 0, .int .i64 0] 25)) := More.below (by repeat (first | (with_reducible exact More.refl _) | (with_reducible refine More.alloc ?_ _) | (with_reducible refine More.more ?_ _ _) | (with_reducible refine More.drewN ?_ _) | (with_reducible refine More.drew ?_)))
  generalize (((w.more os n).alloc x).alloc (Obj.cells #[.int .i64 1, .int .i64 (min (max a0 1) 12), .int .i64 (-1), .int .i64 0, .int .i64 0, .int .i64 0] 25)) = w1 at *
  go_loopw [6, 17] (fun least i wr => ∃ (k : Nat) (win base lo : Int), i = .int .i64 k ∧ k ≤ len1 ∧ least = .int .i64 lo ∧ VegSt win base lo ∧
      Blk wr (w.heap.size + (os.size + 1)) 25 #[.int .i64 1, .int .i64 win, .int .i64 base, .int .i64 0, .int .i64 0, .int .i64 0] ∧ Below w.heap.size w wr)
    (fun _ i _ => len1 - (intOf i).toNat)
  case atStart => exact ⟨0, _, _, _, rfl, Nat.zero_le _, rfl, hst0, hbl0, hbe0⟩
  case round =>
    obtain ⟨k, win, base, lo, rfl, hk, rfl, hst, hbl, hbe⟩ := hrel
    have hbt := hbl.lt
    have c0 : wr.cell? ⟨w.heap.size + (os.size + 1), 0, none⟩ = some (.int .i64 1) := hbl.cell 0
    have c1 : wr.cell? ⟨w.heap.size + (os.size + 1), 1, none⟩ = some (.int .i64 win) := hbl.cell 1
    have c2 : wr.cell? ⟨w.heap.size + (os.size + 1), 2, none⟩ = some (.int .i64 base) := hbl.cell 2
    have c3 : wr.cell? ⟨w.heap.size + (os.size + 1), 3, none⟩ = some (.int .i64 0) := hbl.cell 3
    have c4 : wr.cell? ⟨w.heap.size + (os.size + 1), 4, none⟩ = some (.int .i64 0) := hbl.cell 4
    have c5 : wr.cell? ⟨w.heap.size + (os.size + 1), 5, none⟩ = some (.int .i64 0) := hbl.cell 5
    by_cases hlt : k < len1
    · obtain ⟨b, off, xv, rfl, hb, hc, hx0, hx1, -, -⟩ := f1.at_ hlt
      have hcell : wr.cell? ⟨b, off + k, none⟩ = some (.int .i64 xv) := (hbe.cell (p := ⟨b, off + k, none⟩) hb).trans hc
      clear hc f1
      by_cases hx : 0 ≤ xv ∧ xv ≤ 1099511627776
      · obtain ⟨hx2, hx3⟩ := hx
        have hm := hst.low hx2 hx3
        have hst' := hst.step hx2 hx3
        have hr := Lib.hid hst.right
        have hr2 := hst'.right
        have q0 := hbl.frozen 0
        have q1 := hbl.frozen 1
        have q2 := hbl.frozen 2
        have q3 := hbl.frozen 3
        have q4 := hbl.frozen 4
        have q5 := hbl.frozen 5
        go_wp2_with (first
          | (go_at_call 19; refine (vegas_next_ok _ _ _ _ _ _ _ _ hr.out hx2 hx3).mono ?_; rintro e w' ⟨rfl, y1, y2, y3, rfl⟩)
          | (go_at_call 20; refine (vegas_right _ _ _ _ _ _ _).mono ?_; rintro e w' ⟨rfl, y4, rfl⟩))
        go_roundw
        have hb6 := (((((hbl.put 0 (.int .i64 1)).put 1 (.int .i64 (vegWin win base xv))).put 2 (.int .i64 (lowBase base xv))).put 3 (.int .i64 0)).put 4 (.int .i64 0)).put 5 (.int .i64 0)
        case rel =>
          refine ⟨k + 1, _, _, _, by go_num, by omega, rfl, hst', ?_, ?_⟩
          · repeat (with_reducible refine Blk.alloc ?_ _)
            exact hb6
          · go_grown
        case measure => simp [intOf]; omega
      · go_wp2_with (first
          | (go_at_call 19; refine (vegas_next_range _ _ _ _ _ _ _ _ hst.right (by omega)).mono ?_; rintro e w' ⟨rfl, y1, y2, y3, rfl⟩))
        all_goals
          go_roundw
          case rel => exact ⟨k + 1, win, base, lo, by go_num, by omega, rfl, hst, (((hbl.alloc _).alloc _).alloc _).alloc _, (by go_grown)⟩
          case measure => simp [intOf]; omega
    · go_wp2_with (go_at_call 20; refine (vegas_right _ _ _ _ _ _ _).mono ?_; rintro e w' ⟨rfl, y4, rfl⟩)
      go_ret
      exact ⟨ret_bool hst.right, (by go_grown)⟩
end Go.Proofs.Ytiojkmnkpcgdfaa
