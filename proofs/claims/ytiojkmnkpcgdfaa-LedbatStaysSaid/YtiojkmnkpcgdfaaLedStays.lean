/- LedbatStays: for every window and any delays the law returns true. Conditions: none. -/
import Derived.Test.YtiojkmnkpcgdfaaLed
import Derived.Test.YtiojkmnkpcgdfaaOpen
namespace Go.Proofs.Ytiojkmnkpcgdfaa
open Go.RowKit Go.Tide
set_option linter.unusedVariables false
set_option linter.unusedSimpArgs false

def LedSt (win base part lo : Int) : Prop := 1 ≤ win ∧ win ≤ 12 ∧ -1 ≤ base ∧ base ≤ 1099511627776 ∧ 0 ≤ part ∧ part < 4 ∧ (part = 0 ∨ win < 12) ∧ (base < 0 ∧ lo = 1152921504606846976 ∨ 0 ≤ base ∧ lo = base)

theorem LedSt.right {win base part lo : Int} (h : LedSt win base part lo) : ledbatRight 3 win base 0 0 part = true :=
  decide_eq_true ⟨rfl, h.1, h.2.1, h.2.2.1, h.2.2.2.1, rfl, rfl, h.2.2.2.2.1, h.2.2.2.2.2.1, h.2.2.2.2.2.2.1⟩
theorem LedSt.low {win base part lo x : Int} (h : LedSt win base part lo) (h0 : 0 ≤ x) (h1 : x ≤ 1099511627776) : (if x < lo then x else lo) = lowBase base x := by
  obtain ⟨_, _, _, _, _, _, _, h⟩ := h
  simp only [lowBase]
  omega
theorem LedSt.step {win base part lo x : Int} (h : LedSt win base part lo) (h0 : 0 ≤ x) (h1 : x ≤ 1099511627776) : LedSt (ledAll win base part x / 4) (lowBase base x) (ledAll win base part x % 4) (lowBase base x) := by
  obtain ⟨_, _, _, _, _, _, _, h⟩ := h
  have h2 : 4 ≤ ledAll win base part x ∧ ledAll win base part x ≤ 48 := by simp only [ledAll]; omega
  have h3 : 0 ≤ lowBase base x ∧ lowBase base x ≤ 1099511627776 := by simp only [lowBase]; omega
  unfold LedSt
  omega

set_option maxHeartbeats 1000000 in
theorem ledbatStays_walk (a0 : Int) (a1 : Option Addr) (len1 cap1 : Nat) (z1 : List Int) (w : World) (b0 : InI64 a0) (f1 : IsFlat w a1 len1 cap1 1 z1) (r1 : cap1 * 8 ≤ 140737488351232) :
    Calls Try.prog 3 #[.int .i64 a0, .slice a1 len1 cap1] w fun e w' => e = .returned (.bool true) ∧ Below w.heap.size w w' := by
  have hlen : len1 ≤ 17592186044416 := by
    rcases f1 with ⟨_, h, _, _⟩ | ⟨_, _, h, _⟩ <;> omega
  go_enter Try.func3, Try.ntmps3
  go_wp2_with (first
    | (go_at_call 13; refine (ledbat_alive _).mono ?_; rintro e w' ⟨rfl, os, n, rfl⟩)
    | (go_at_call 14; refine (ledbat_new _ _).mono ?_; rintro e w' ⟨rfl, x, rfl⟩))
  have hst0 : LedSt (min (max a0 1) 12) (-1) 0 1152921504606846976 := by unfold LedSt; omega
  have hbl0 : Blk (((w.more os n).alloc x).alloc (Obj.cells #[.int .i64 3, .int .i64 (min (max a0 1) 12), .int .i64 (-1), .int .i64 0, .int .i64 0, .int .i64 0] 25)) (w.heap.size + (os.size + 1)) 25
      #[.int .i64 3, .int .i64 (min (max a0 1) 12), .int .i64 (-1), .int .i64 0, .int .i64 0, .int .i64 0] := by
    have := Blk.new ((w.more os n).alloc x) 25 #[.int .i64 3, .int .i64 (min (max a0 1) 12), .int .i64 (-1), .int .i64 0, .int .i64 0, .int .i64 0]
    simpa [Nat.add_assoc] using this
  have hbe0 : Below w.heap.size w (((w.more os n).alloc x).alloc (Obj.cells #[.int .i64 3, .int .i64 (min (max a0 1) 12), .int .i64 (-1), .int .i64 0, .int .i64 0, .int .i64 0] 25)) := More.below (by repeat (first | exact More.refl _ | refine More.alloc ?_ _ | refine More.more ?_ _ _ | refine More.drewN ?_ _ | refine More.drew ?_))
  generalize (((w.more os n).alloc x).alloc (Obj.cells #[.int .i64 3, .int .i64 (min (max a0 1) 12), .int .i64 (-1), .int .i64 0, .int .i64 0, .int .i64 0] 25)) = w1 at *
  go_loopw [6, 17] (fun least i wr => ∃ (k : Nat) (win base part lo : Int), i = .int .i64 k ∧ k ≤ len1 ∧ least = .int .i64 lo ∧ LedSt win base part lo ∧
      Blk wr (w.heap.size + (os.size + 1)) 25 #[.int .i64 3, .int .i64 win, .int .i64 base, .int .i64 0, .int .i64 0, .int .i64 part] ∧ Below w.heap.size w wr)
    (fun _ i _ => len1 - (intOf i).toNat)
  case atStart => exact ⟨0, _, _, _, _, rfl, Nat.zero_le _, rfl, hst0, hbl0, hbe0⟩
  case round =>
    obtain ⟨k, win, base, part, lo, rfl, hk, rfl, hst, hbl, hbe⟩ := hrel
    have hbt := hbl.lt
    have c0 : wr.cell? ⟨w.heap.size + (os.size + 1), 0, none⟩ = some (.int .i64 3) := hbl.cell 0
    have c1 : wr.cell? ⟨w.heap.size + (os.size + 1), 1, none⟩ = some (.int .i64 win) := hbl.cell 1
    have c2 : wr.cell? ⟨w.heap.size + (os.size + 1), 2, none⟩ = some (.int .i64 base) := hbl.cell 2
    have c3 : wr.cell? ⟨w.heap.size + (os.size + 1), 3, none⟩ = some (.int .i64 0) := hbl.cell 3
    have c4 : wr.cell? ⟨w.heap.size + (os.size + 1), 4, none⟩ = some (.int .i64 0) := hbl.cell 4
    have c5 : wr.cell? ⟨w.heap.size + (os.size + 1), 5, none⟩ = some (.int .i64 part) := hbl.cell 5
    by_cases hlt : k < len1
    · obtain ⟨b, off, xv, rfl, hb, hc, hx0, hx1, -, -⟩ := f1.at_ hlt
      have hcell : wr.cell? ⟨b, off + k, none⟩ = some (.int .i64 xv) := (hbe.cell (p := ⟨b, off + k, none⟩) hb).trans hc
      clear hc f1
      by_cases hx : 0 ≤ xv ∧ xv ≤ 1099511627776
      · obtain ⟨hx2, hx3⟩ := hx
        have hm := hst.low hx2 hx3
        have hst' := hst.step hx2 hx3
        have hr := Lib.hid hst.right
        have hr2 := hst'.right
        have q0 := hbl.frozen 0
        have q1 := hbl.frozen 1
        have q2 := hbl.frozen 2
        have q3 := hbl.frozen 3
        have q4 := hbl.frozen 4
        have q5 := hbl.frozen 5
        go_wp2_with (first
          | (go_at_call 15; refine (ledbat_next_ok _ _ _ _ _ _ _ _ hr.out hx2 hx3).mono ?_; rintro e w' ⟨rfl, y1, y2, y3, rfl⟩)
          | (go_at_call 16; refine (ledbat_right _ _ _ _ _ _ _).mono ?_; rintro e w' ⟨rfl, y4, rfl⟩))
        go_roundw
        have hb6 := (((((hbl.put 0 (.int .i64 3)).put 1 (.int .i64 (ledAll win base part xv / 4))).put 2 (.int .i64 (lowBase base xv))).put 3 (.int .i64 0)).put 4 (.int .i64 0)).put 5 (.int .i64 (ledAll win base part xv % 4))
        case rel =>
          refine ⟨k + 1, _, _, _, _, by go_num, by omega, rfl, hst', ?_, ?_⟩
          · repeat (with_reducible refine Blk.alloc ?_ _)
            exact hb6
          · go_grown
        case measure => simp [intOf]; omega
      · go_wp2_with (first
          | (go_at_call 15; refine (ledbat_next_range _ _ _ _ _ _ _ _ hst.right (by omega)).mono ?_; rintro e w' ⟨rfl, y1, y2, y3, rfl⟩))
        all_goals
          go_roundw
          case rel => exact ⟨k + 1, win, base, part, lo, by go_num, by omega, rfl, hst, (((hbl.alloc _).alloc _).alloc _).alloc _, (by go_grown)⟩
          case measure => simp [intOf]; omega
    · go_wp2_with (go_at_call 16; refine (ledbat_right _ _ _ _ _ _ _).mono ?_; rintro e w' ⟨rfl, y4, rfl⟩)
      go_ret
      exact ⟨ret_bool hst.right, (by go_grown)⟩
end Go.Proofs.Ytiojkmnkpcgdfaa
