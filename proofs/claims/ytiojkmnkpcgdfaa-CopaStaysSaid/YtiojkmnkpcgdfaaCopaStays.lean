/- CopaStays: for every window and any delays the law returns true. Conditions: none. -/
import Derived.Test.YtiojkmnkpcgdfaaCopa
import Derived.Test.YtiojkmnkpcgdfaaOpen
namespace Go.Proofs.Ytiojkmnkpcgdfaa
open Go.RowKit Go.Tide
set_option linter.unusedVariables false
set_option linter.unusedSimpArgs false

def CopaSt (win base way spd lo : Int) : Prop := 1 ≤ win ∧ win ≤ 12 ∧ -1 ≤ base ∧ base ≤ 1099511627776 ∧ -1 ≤ way ∧ way ≤ 1 ∧ 0 ≤ spd ∧ spd ≤ 4 ∧ (base < 0 ∧ lo = 1152921504606846976 ∨ 0 ≤ base ∧ lo = base)

theorem CopaSt.right {win base way spd lo : Int} (h : CopaSt win base way spd lo) : copaRight 2 win base way spd 0 = true := by
  unfold CopaSt at h
  exact decide_eq_true (by omega)
theorem CopaSt.low {win base way spd lo x : Int} (h : CopaSt win base way spd lo) (h0 : 0 ≤ x) (h1 : x ≤ 1099511627776) : (if x < lo then x else lo) = lowBase base x := by
  unfold CopaSt at h
  simp only [lowBase]
  omega
theorem CopaSt.step {win base way spd lo x : Int} (h : CopaSt win base way spd lo) (h0 : 0 ≤ x) (h1 : x ≤ 1099511627776) :
    CopaSt (copaWin win base way spd x) (lowBase base x) (copaWay win base x) (copaSpd win base way spd x) (lowBase base x) := by
  unfold CopaSt at h
  have h2 : 1 ≤ copaWin win base way spd x ∧ copaWin win base way spd x ≤ 12 := by simp only [copaWin]; omega
  have h3 : 0 ≤ lowBase base x ∧ lowBase base x ≤ 1099511627776 := by simp only [lowBase]; omega
  have h4 : -1 ≤ copaWay win base x ∧ copaWay win base x ≤ 1 := by unfold copaWay; split <;> omega
  have h5 : 0 ≤ copaSpd win base way spd x ∧ copaSpd win base way spd x ≤ 4 := by unfold copaSpd; split <;> omega
  unfold CopaSt
  omega

set_option maxHeartbeats 1000000 in
theorem copaStays_walk (a0 : Int) (a1 : Option Addr) (len1 cap1 : Nat) (z1 : List Int) (w : World) (b0 : InI64 a0) (f1 : IsFlat w a1 len1 cap1 1 z1) (r1 : cap1 * 8 ≤ 140737488351232) :
    Calls Try.prog 10 #[.int .i64 a0, .slice a1 len1 cap1] w fun e w' => e = .returned (.bool true) ∧ Below w.heap.size w w' := by
  have hlen : len1 ≤ 17592186044416 := by
    rcases f1 with ⟨_, h, _, _⟩ | ⟨_, _, h, _⟩ <;> omega
  go_enter Try.func10, Try.ntmps10
  go_wp2_with (first
    | (go_at_call 21; refine (copa_alive _).mono ?_; rintro e w' ⟨rfl, os, n, rfl⟩)
    | (go_at_call 22; refine (copa_new _ _).mono ?_; rintro e w' ⟨rfl, x, rfl⟩))
  have hst0 : CopaSt (min (max a0 1) 12) (-1) 0 0 1152921504606846976 := by unfold CopaSt; omega
  have hbl0 : Blk (((w.more os n).alloc x).alloc (Obj.cells #[.int .i64 2, .int .i64 (min (max a0 1) 12), .int .i64 (-1), .int .i64 0, .int .i64 0, .int .i64 0] 25)) (w.heap.size + (os.size + 1)) 25
      #[.int .i64 2, .int .i64 (min (max a0 1) 12), .int .i64 (-1), .int .i64 0, .int .i64 0, .int .i64 0] := by
    have := Blk.new ((w.more os n).alloc x) 25 #[.int .i64 2, .int .i64 (min (max a0 1) 12), .int .i64 (-1), .int .i64 0, .int .i64 0, .int .i64 0]
    simpa [Nat.add_assoc] using this
  have hbe0 : Below w.heap.size w (((w.more os n).alloc x).alloc (Obj.cells #[.int .i64 2, .int .i64 (min (max a0 1) 12), .int .i64 (-1), .int .i64 0, .int .i64 0, .int .i64 0] 25)) := More.below (by repeat (first | (with_reducible exact More.refl _) | (with_reducible refine More.alloc ?_ _) | (with_reducible refine More.more ?_ _ _) | (with_reducible refine More.drewN ?_ _) | (with_reducible refine More.drew ?_)))
  generalize (((w.more os n).alloc x).alloc (Obj.cells #[.int .i64 2, .int .i64 (min (max a0 1) 12), .int .i64 (-1), .int .i64 0, .int .i64 0, .int .i64 0] 25)) = w1 at *
  go_loopw [6, 17] (fun least i wr => ∃ (k : Nat) (win base way spd lo : Int), i = .int .i64 k ∧ k ≤ len1 ∧ least = .int .i64 lo ∧ CopaSt win base way spd lo ∧
      Blk wr (w.heap.size + (os.size + 1)) 25 #[.int .i64 2, .int .i64 win, .int .i64 base, .int .i64 way, .int .i64 spd, .int .i64 0] ∧ Below w.heap.size w wr)
    (fun _ i _ => len1 - (intOf i).toNat)
  case atStart => exact ⟨0, _, _, _, _, _, rfl, Nat.zero_le _, rfl, hst0, hbl0, hbe0⟩
  case round =>
    obtain ⟨k, win, base, way, spd, lo, rfl, hk, rfl, hst, hbl, hbe⟩ := hrel
    have hbt := hbl.lt
    have c0 : wr.cell? ⟨w.heap.size + (os.size + 1), 0, none⟩ = some (.int .i64 2) := hbl.cell 0
    have c1 : wr.cell? ⟨w.heap.size + (os.size + 1), 1, none⟩ = some (.int .i64 win) := hbl.cell 1
    have c2 : wr.cell? ⟨w.heap.size + (os.size + 1), 2, none⟩ = some (.int .i64 base) := hbl.cell 2
    have c3 : wr.cell? ⟨w.heap.size + (os.size + 1), 3, none⟩ = some (.int .i64 way) := hbl.cell 3
    have c4 : wr.cell? ⟨w.heap.size + (os.size + 1), 4, none⟩ = some (.int .i64 spd) := hbl.cell 4
    have c5 : wr.cell? ⟨w.heap.size + (os.size + 1), 5, none⟩ = some (.int .i64 0) := hbl.cell 5
    by_cases hlt : k < len1
    · obtain ⟨b, off, xv, rfl, hb, hc, hx0, hx1, -, -⟩ := f1.at_ hlt
      have hcell : wr.cell? ⟨b, off + k, none⟩ = some (.int .i64 xv) := (hbe.cell (p := ⟨b, off + k, none⟩) hb).trans hc
      clear hc f1
      by_cases hx : 0 ≤ xv ∧ xv ≤ 1099511627776
      · obtain ⟨hx2, hx3⟩ := hx
        have hm := hst.low hx2 hx3
        have hst' := hst.step hx2 hx3
        have hr := Lib.hid hst.right
        have hr2 := hst'.right
        have q0 := hbl.frozen 0
        have q1 := hbl.frozen 1
        have q2 := hbl.frozen 2
        have q3 := hbl.frozen 3
        have q4 := hbl.frozen 4
        have q5 := hbl.frozen 5
        go_wp2_with (first
          | (go_at_call 23; refine (copa_next_ok _ _ _ _ _ _ _ _ hr.out hx2 hx3).mono ?_; rintro e w' ⟨rfl, os1, n1, rfl⟩)
          | (go_at_call 24; refine (copa_right _ _ _ _ _ _ _).mono ?_; rintro e w' ⟨rfl, y4, rfl⟩))
        go_roundw
        have hb6 := (((((hbl.put 0 (.int .i64 2)).put 1 (.int .i64 (copaWin win base way spd xv))).put 2 (.int .i64 (lowBase base xv))).put 3 (.int .i64 (copaWay win base xv))).put 4 (.int .i64 (copaSpd win base way spd xv))).put 5 (.int .i64 0)
        case rel =>
          refine ⟨k + 1, _, _, _, _, _, by go_num, by omega, rfl, hst', ?_, ?_⟩
          · (repeat (first | (with_reducible refine Blk.alloc ?_ _) | (with_reducible refine Blk.more ?_ _ _) | (with_reducible refine Blk.drew ?_) | (with_reducible refine Blk.drewN ?_ _)))
            exact hb6
          · exact (by repeat' (first | (with_reducible exact Below.refl _ _) | (with_reducible assumption) | (with_reducible refine Below.alloc ?_ ?_ _) | (with_reducible refine Below.more ?_ ?_ _ _) | (with_reducible refine Below.drew ?_) | (with_reducible refine Below.drewN ?_ _) | (with_reducible refine Below.setCell ?_ ?_ _) | go_size | (simp; omega)))
        case measure => simp [intOf]; omega
      · go_wp2_with (first
          | (go_at_call 23; refine (copa_next_range _ _ _ _ _ _ _ _ hst.right (by omega)).mono ?_; rintro e w' ⟨rfl, os1, n1, rfl⟩))
        all_goals
          go_roundw
          case rel => exact ⟨k + 1, win, base, way, spd, lo, by go_num, by omega, rfl, hst, (hbl.more _ _).alloc _, (by repeat' (first | (with_reducible exact Below.refl _ _) | (with_reducible assumption) | (with_reducible refine Below.alloc ?_ ?_ _) | (with_reducible refine Below.more ?_ ?_ _ _) | (with_reducible refine Below.drew ?_) | (with_reducible refine Below.drewN ?_ _) | (with_reducible refine Below.setCell ?_ ?_ _) | go_size | (simp; omega)))⟩
          case measure => simp [intOf]; omega
    · go_wp2_with (go_at_call 24; refine (copa_right _ _ _ _ _ _ _).mono ?_; rintro e w' ⟨rfl, y4, rfl⟩)
      go_ret
      exact ⟨ret_bool hst.right, (by repeat' (first | (with_reducible exact Below.refl _ _) | (with_reducible assumption) | (with_reducible refine Below.alloc ?_ ?_ _) | (with_reducible refine Below.more ?_ ?_ _ _) | (with_reducible refine Below.drew ?_) | (with_reducible refine Below.drewN ?_ _) | (with_reducible refine Below.setCell ?_ ?_ _) | go_size | (simp; omega)))⟩
end Go.Proofs.Ytiojkmnkpcgdfaa
