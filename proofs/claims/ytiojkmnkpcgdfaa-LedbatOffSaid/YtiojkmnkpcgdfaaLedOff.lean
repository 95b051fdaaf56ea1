/- LedbatOff: for every window, delays and shift the law returns true. Conditions: none. -/
import Derived.Test.YtiojkmnkpcgdfaaLed
import Derived.Test.YtiojkmnkpcgdfaaOpen
namespace Go.Proofs.Ytiojkmnkpcgdfaa
open Go.RowKit Go.Tide
set_option linter.unusedVariables false
set_option linter.unusedSimpArgs false

def LedOffSt (by_ win base part base2 : Int) : Prop := 1 ≤ win ∧ win ≤ 12 ∧ -1 ≤ base ∧ base ≤ 1073741824 ∧ 0 ≤ part ∧ part < 4 ∧ (part = 0 ∨ win < 12) ∧ (base = -1 ∧ base2 = -1 ∨ 0 ≤ base ∧ base2 = base + by_ ∧ 0 ≤ by_ ∧ by_ ≤ 1073741824)

theorem LedOffSt.right1 {b win base part base2 : Int} (h : LedOffSt b win base part base2) : ledbatRight 3 win base 0 0 part = true := by
  unfold LedOffSt at h
  exact decide_eq_true (by omega)
theorem LedOffSt.right2 {b win base part base2 : Int} (h : LedOffSt b win base part base2) : ledbatRight 3 win base2 0 0 part = true := by
  unfold LedOffSt at h
  exact decide_eq_true (by omega)
theorem LedOffSt.all_ {b win base part base2 x : Int} (h : LedOffSt b win base part base2) (h0 : 0 ≤ x) : ledAll win base2 part (x + b) = ledAll win base part x := by
  unfold LedOffSt at h
  simp only [ledAll, lowBase]
  omega
theorem LedOffSt.low {b win base part base2 x : Int} (h : LedOffSt b win base part base2) (h0 : 0 ≤ x) (hb : 0 ≤ b) : lowBase base2 (x + b) = lowBase base x + b := by
  unfold LedOffSt at h
  simp only [lowBase]
  omega
theorem LedOffSt.step {b win base part base2 x : Int} (h : LedOffSt b win base part base2) (h0 : 0 ≤ x) (h1 : x ≤ 1073741824) (hb0 : 0 ≤ b) (hb1 : b ≤ 1073741824) :
    LedOffSt b (ledAll win base part x / 4) (lowBase base x) (ledAll win base part x % 4) (lowBase base x + b) := by
  unfold LedOffSt at h
  have h2 : 4 ≤ ledAll win base part x ∧ ledAll win base part x ≤ 48 := by simp only [ledAll]; omega
  have h3 : 0 ≤ lowBase base x ∧ lowBase base x ≤ 1073741824 := by simp only [lowBase]; omega
  unfold LedOffSt
  omega

set_option maxHeartbeats 1000000 in
theorem ledbatOff_walk (a0 : Int) (a1 : Option Addr) (len1 cap1 : Nat) (z1 : List Int) (a2 : Int) (w : World) (b0 : InI64 a0) (f1 : IsFlat w a1 len1 cap1 1 z1) (r1 : cap1 * 8 ≤ 140737488351232) (b2 : InI64 a2) :
    Calls Try.prog 5 #[.int .i64 a0, .slice a1 len1 cap1, .int .i64 a2] w fun e w' => e = .returned (.bool true) ∧ Below w.heap.size w w' := by
  have hlen : len1 ≤ 17592186044416 := by
    rcases f1 with ⟨_, h, _, _⟩ | ⟨_, _, h, _⟩ <;> omega
  go_enter Try.func5, Try.ntmps5
  go_wp2_with (first
    | (go_at_call 13; refine (ledbat_alive _).mono ?_; rintro e w' ⟨rfl, os, n, rfl⟩)
    | (go_at_call 14; refine (ledbat_new _ _).mono ?_; rintro e w' ⟨rfl, x, rfl⟩))
  have hst0 : LedOffSt a2 (min (max a0 1) 12) (-1) 0 (-1) := by unfold LedOffSt; omega
  go_loopw [21] (fun i wr => ∃ (k : Nat) (win base part base2 : Int), i = .int .i64 k ∧ k ≤ len1 ∧ LedOffSt a2 win base part base2 ∧
      Blk wr (w.heap.size + (os.size + 2)) 25 #[.int .i64 3, .int .i64 win, .int .i64 base, .int .i64 0, .int .i64 0, .int .i64 part] ∧
      Blk wr (w.heap.size + (os.size + 3)) 25 #[.int .i64 3, .int .i64 win, .int .i64 base2, .int .i64 0, .int .i64 0, .int .i64 part] ∧ Below w.heap.size w wr)
    (fun i _ => len1 - (intOf i).toNat)
  case atStart => exact ⟨0, _, _, _, _, rfl, Nat.zero_le _, hst0, (by repeat (first | ((with_reducible refine Blk.new' ?_); (simp [Nat.add_assoc]; done)) | (with_reducible refine Blk.alloc ?_ _) | (with_reducible refine Blk.more ?_ _ _) | (with_reducible refine Blk.drew ?_) | (with_reducible refine Blk.drewN ?_ _))), (by repeat (first | ((with_reducible refine Blk.new' ?_); (simp [Nat.add_assoc]; done)) | (with_reducible refine Blk.alloc ?_ _) | (with_reducible refine Blk.more ?_ _ _) | (with_reducible refine Blk.drew ?_) | (with_reducible refine Blk.drewN ?_ _))), (by repeat' (first | (with_reducible exact Below.refl _ _) | (with_reducible assumption) | (with_reducible refine Below.alloc ?_ ?_ _) | (with_reducible refine Below.more ?_ ?_ _ _) | (with_reducible refine Below.drew ?_) | (with_reducible refine Below.drewN ?_ _) | (with_reducible refine Below.setCell ?_ ?_ _) | go_size | (simp; omega)))⟩
  case round =>
    obtain ⟨k, win, base, part, base2, rfl, hk, hst, hbl, hbm, hbe⟩ := hrel
    have hbt := hbl.lt
    have hbu := hbm.lt
    have c0 : wr.cell? ⟨w.heap.size + (os.size + 2), 0, none⟩ = some (.int .i64 3) := hbl.cell 0
    have c1 : wr.cell? ⟨w.heap.size + (os.size + 2), 1, none⟩ = some (.int .i64 win) := hbl.cell 1
    have c2 : wr.cell? ⟨w.heap.size + (os.size + 2), 2, none⟩ = some (.int .i64 base) := hbl.cell 2
    have c3 : wr.cell? ⟨w.heap.size + (os.size + 2), 3, none⟩ = some (.int .i64 0) := hbl.cell 3
    have c4 : wr.cell? ⟨w.heap.size + (os.size + 2), 4, none⟩ = some (.int .i64 0) := hbl.cell 4
    have c5 : wr.cell? ⟨w.heap.size + (os.size + 2), 5, none⟩ = some (.int .i64 part) := hbl.cell 5
    have d0 : wr.cell? ⟨w.heap.size + (os.size + 3), 0, none⟩ = some (.int .i64 3) := hbm.cell 0
    have d1 : wr.cell? ⟨w.heap.size + (os.size + 3), 1, none⟩ = some (.int .i64 win) := hbm.cell 1
    have d2 : wr.cell? ⟨w.heap.size + (os.size + 3), 2, none⟩ = some (.int .i64 base2) := hbm.cell 2
    have d3 : wr.cell? ⟨w.heap.size + (os.size + 3), 3, none⟩ = some (.int .i64 0) := hbm.cell 3
    have d4 : wr.cell? ⟨w.heap.size + (os.size + 3), 4, none⟩ = some (.int .i64 0) := hbm.cell 4
    have d5 : wr.cell? ⟨w.heap.size + (os.size + 3), 5, none⟩ = some (.int .i64 part) := hbm.cell 5
    by_cases hlt : k < len1
    · obtain ⟨b, off, xv, rfl, hb, hc, hx0, hx1, -, -⟩ := f1.at_ hlt
      have hcell : wr.cell? ⟨b, off + k, none⟩ = some (.int .i64 xv) := (hbe.cell (p := ⟨b, off + k, none⟩) hb).trans hc
      clear hc f1
      by_cases hx : 0 ≤ xv ∧ 0 ≤ a2 ∧ xv ≤ 1073741824 ∧ a2 ≤ 1073741824
      · obtain ⟨hx2, hy2, hx3, hy3⟩ := hx
        have hst' := hst.step hx2 hx3 hy2 hy3
        have hr := Lib.hid hst.right1
        have hr2 := Lib.hid hst.right2
        have hl := hst.low hx2 hy2
        have ha := hst.all_ hx2
        have hl0 : 0 ≤ lowBase base xv := by unfold LedOffSt at hst; simp only [lowBase]; omega
        have hl1 : lowBase base xv ≤ 1073741824 := by unfold LedOffSt at hst; simp only [lowBase]; omega
        have q0 := hbl.frozen 0
        have q1 := hbl.frozen 1
        have q2 := hbl.frozen 2
        have q3 := hbl.frozen 3
        have q4 := hbl.frozen 4
        have q5 := hbl.frozen 5
        have p0 := hbm.frozen 0
        have p1 := hbm.frozen 1
        have p2 := hbm.frozen 2
        have p3 := hbm.frozen 3
        have p4 := hbm.frozen 4
        have p5 := hbm.frozen 5
        have tok1 : True := trivial
        go_wp2_with (first
          | (go_at_call 15; have _t := tok1; refine (ledbat_next_ok _ _ _ _ _ _ _ _ hr.out hx2 (by omega)).mono ?_; rintro e w' ⟨rfl, y1, y2, y3, rfl⟩; clear tok1)
          | (go_at_call 15; refine (ledbat_next_ok _ _ _ _ _ _ _ _ hr2.out (by omega) (by omega)).mono ?_; rintro e w' ⟨rfl, y4, y5, y6, rfl⟩))
        go_roundw
        case rel =>
          refine ⟨k + 1, _, _, _, _, by go_num, by omega, hst', ?_, ?_, ?_⟩
          · (repeat (first | (with_reducible refine Blk.alloc ?_ _) | (with_reducible refine Blk.more ?_ _ _) | (with_reducible refine Blk.drew ?_) | (with_reducible refine Blk.drewN ?_ _)))
            unfold Blk at hbl ⊢
            simp [World.setCell, Array.getElem?_modify, hbl]
          · (repeat (first | (with_reducible refine Blk.alloc ?_ _) | (with_reducible refine Blk.more ?_ _ _) | (with_reducible refine Blk.drew ?_) | (with_reducible refine Blk.drewN ?_ _)))
            unfold Blk at hbm ⊢
            simp [World.setCell, Array.getElem?_modify, hbm]
          · exact (by repeat' (first | (with_reducible exact Below.refl _ _) | (with_reducible assumption) | (with_reducible refine Below.alloc ?_ ?_ _) | (with_reducible refine Below.more ?_ ?_ _ _) | (with_reducible refine Below.drew ?_) | (with_reducible refine Below.drewN ?_ _) | (with_reducible refine Below.setCell ?_ ?_ _) | go_size | (simp; omega)))
        case measure => simp [intOf]; omega
      · go_wp2
        all_goals
          go_ret
          exact ⟨rfl, hbe⟩
    · go_wp2
      go_ret
      exact ⟨rfl, hbe⟩
end Go.Proofs.Ytiojkmnkpcgdfaa
