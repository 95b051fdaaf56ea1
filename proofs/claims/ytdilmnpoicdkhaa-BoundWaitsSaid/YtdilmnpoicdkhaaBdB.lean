/- BoundWaits, BoundDelay: for every input the law returns true. Conditions: none. -/
import Derived.Test.YtdilmnpoicdkhaaBdA
set_option linter.unusedVariables false
set_option linter.unusedSimpArgs false
namespace Go.Proofs.Ytdilmnpoicdkhaa
open Go.RowKit Go.Tide
set_option linter.unusedVariables false
set_option linter.unusedSimpArgs false

set_option maxHeartbeats 4000000 in
theorem boundWaits_walk (a0 : Option Addr) (len0 cap0 : Nat) (z0 : List Int) (a1 : Option Addr) (len1 cap1 : Nat) (z1 : List Int) (a2 : Option Addr) (len2 cap2 : Nat) (z2 : List Int) (a3 : Option Addr) (len3 cap3 : Nat) (z3 : List Int) (w : World) (f0 : IsFlat w a0 len0 cap0 1 z0) (r0 : cap0 * 8 ≤ 140737488351232) (f1 : IsFlat w a1 len1 cap1 1 z1) (r1 : cap1 * 8 ≤ 140737488351232) (f2 : IsFlat w a2 len2 cap2 1 z2) (r2 : cap2 * 8 ≤ 140737488351232) (f3 : IsFlat w a3 len3 cap3 1 z3) (r3 : cap3 * 8 ≤ 140737488351232) :
    Calls Try.prog 19 #[.slice a0 len0 cap0, .slice a1 len1 cap1, .slice a2 len2 cap2, .slice a3 len3 cap3] w fun e w' => e = .returned (.bool true) ∧ Below w.heap.size w w' := by
  have hle0 := f0.le
  have hle1 := f1.le
  have hle2 := f2.le
  have hle3 := f3.le
  have hi := f0.row
  have ho := f1.row
  have hr := f2.row
  have hs := f3.row
  generalize (fun k => z0.getD k 0) = i at hi
  generalize (fun k => z1.getD k 0) = o at ho
  generalize (fun k => z2.getD k 0) = row at hr
  generalize (fun k => z3.getD k 0) = serve at hs
  clear f0 f1 f2 f3
  go_enter Try.func19, Try.ntmps19
  go_wp2_with (go_at_call 51; refine (bound_alive _).mono ?_; rintro e w' ⟨rfl, os, n_, rfl⟩)
  refine (premise_any _ _ _ _ len0 len1 len2 len3 _ _ _ _ i o row serve _ (by repeat (first | (with_reducible assumption) | (with_reducible exact Row.nil) | (with_reducible apply Row.drewN) | (with_reducible apply Row.drew) | (with_reducible apply Row.more) | (with_reducible apply Row.alloc))) (by repeat (first | (with_reducible assumption) | (with_reducible exact Row.nil) | (with_reducible apply Row.drewN) | (with_reducible apply Row.drew) | (with_reducible apply Row.more) | (with_reducible apply Row.alloc))) (by repeat (first | (with_reducible assumption) | (with_reducible exact Row.nil) | (with_reducible apply Row.drewN) | (with_reducible apply Row.drew) | (with_reducible apply Row.more) | (with_reducible apply Row.alloc))) (by repeat (first | (with_reducible assumption) | (with_reducible exact Row.nil) | (with_reducible apply Row.drewN) | (with_reducible apply Row.drew) | (with_reducible apply Row.more) | (with_reducible apply Row.alloc))) (by omega) (by omega)).mono ?_
  rintro e w1 ⟨ok, rfl, hok, os1, d1, rfl⟩
  cases ok with
  | false =>
    go_wp2_with fail
    go_ret
    exact ⟨rfl, More.below (by repeat (first | (with_reducible assumption) | (with_reducible exact More.refl _) | (with_reducible refine More.alloc ?_ _) | (with_reducible refine More.more ?_ _ _) | (with_reducible refine More.drewN ?_ _) | (with_reducible refine More.drew ?_)))⟩
  | true =>
    obtain ⟨p1, p2, rfl, rfl, rfl, ⟨p3, p4, p5, p6⟩, p7, p8⟩ := hok rfl
    have hle := bound_waits p3 p4 p5 p6 p7 p8
    have hd : Hid (decide (hiTo i o (min len3 len3) ≤ hiTo row serve (min len3 len3)) = true) := by show _ = _; rw [Nat.min_self]; simpa using hle
    obtain ⟨x, hx⟩ : ∃ x, Hid (hiTo i o (min len3 len3) = x) := ⟨_, rfl⟩
    obtain ⟨y, hy⟩ : ∃ y, Hid (hiTo row serve (min len3 len3) = y) := ⟨_, rfl⟩
    rw [hx.out, hy.out] at hd
    have hxy : decide (x ≤ y) = true := hd.out
    clear p1 p2 p3 p4 p5 p6 p7 p8 hle hd hok
    go_wp2_with fail
    refine (high_any _ _ len3 len3 _ _ (i) (o) _ (by repeat (first | (with_reducible assumption) | (with_reducible exact Row.nil) | (with_reducible apply Row.drewN) | (with_reducible apply Row.drew) | (with_reducible apply Row.more) | (with_reducible apply Row.alloc))) (by repeat (first | (with_reducible assumption) | (with_reducible exact Row.nil) | (with_reducible apply Row.drewN) | (with_reducible apply Row.drew) | (with_reducible apply Row.more) | (with_reducible apply Row.alloc))) (by omega) (by omega)).mono ?_
    rintro e w1 ⟨rfl, os_1, d_1, rfl⟩
    rw [hx.out]
    go_wp2_with fail
    refine (high_any _ _ len3 len3 _ _ (row) (serve) _ (by repeat (first | (with_reducible assumption) | (with_reducible exact Row.nil) | (with_reducible apply Row.drewN) | (with_reducible apply Row.drew) | (with_reducible apply Row.more) | (with_reducible apply Row.alloc))) (by repeat (first | (with_reducible assumption) | (with_reducible exact Row.nil) | (with_reducible apply Row.drewN) | (with_reducible apply Row.drew) | (with_reducible apply Row.more) | (with_reducible apply Row.alloc))) (by omega) (by omega)).mono ?_
    rintro e w1 ⟨rfl, os_2, d_2, rfl⟩
    rw [hy.out]
    go_wp2
    go_ret
    exact ⟨rfl, More.below (by repeat (first | (with_reducible assumption) | (with_reducible exact More.refl _) | (with_reducible refine More.alloc ?_ _) | (with_reducible refine More.more ?_ _ _) | (with_reducible refine More.drewN ?_ _) | (with_reducible refine More.drew ?_)))⟩

set_option maxHeartbeats 4000000 in
theorem boundDelay_walk (a0 : Option Addr) (len0 cap0 : Nat) (z0 : List Int) (a1 : Option Addr) (len1 cap1 : Nat) (z1 : List Int) (a2 : Option Addr) (len2 cap2 : Nat) (z2 : List Int) (a3 : Option Addr) (len3 cap3 : Nat) (z3 : List Int) (w : World) (f0 : IsFlat w a0 len0 cap0 1 z0) (r0 : cap0 * 8 ≤ 140737488351232) (f1 : IsFlat w a1 len1 cap1 1 z1) (r1 : cap1 * 8 ≤ 140737488351232) (f2 : IsFlat w a2 len2 cap2 1 z2) (r2 : cap2 * 8 ≤ 140737488351232) (f3 : IsFlat w a3 len3 cap3 1 z3) (r3 : cap3 * 8 ≤ 140737488351232) :
    Calls Try.prog 20 #[.slice a0 len0 cap0, .slice a1 len1 cap1, .slice a2 len2 cap2, .slice a3 len3 cap3] w fun e w' => e = .returned (.bool true) ∧ Below w.heap.size w w' := by
  have hle0 := f0.le
  have hle1 := f1.le
  have hle2 := f2.le
  have hle3 := f3.le
  have hi := f0.row
  have ho := f1.row
  have hr := f2.row
  have hs := f3.row
  generalize (fun k => z0.getD k 0) = i at hi
  generalize (fun k => z1.getD k 0) = o at ho
  generalize (fun k => z2.getD k 0) = row at hr
  generalize (fun k => z3.getD k 0) = serve at hs
  clear f0 f1 f2 f3
  go_enter Try.func20, Try.ntmps20
  go_wp2_with (go_at_call 51; refine (bound_alive _).mono ?_; rintro e w' ⟨rfl, os, n_, rfl⟩)
  refine (far_any _ _ len2 len3 _ _ row serve _ (by repeat (first | (with_reducible assumption) | (with_reducible exact Row.nil) | (with_reducible apply Row.drewN) | (with_reducible apply Row.drew) | (with_reducible apply Row.more) | (with_reducible apply Row.alloc))) (by repeat (first | (with_reducible assumption) | (with_reducible exact Row.nil) | (with_reducible apply Row.drewN) | (with_reducible apply Row.drew) | (with_reducible apply Row.more) | (with_reducible apply Row.alloc))) (by omega) (by omega)).mono ?_
  rintro e w1 ⟨r_1, ok_1, rfl, hi_1, ha_1, os_1, d_1, rfl⟩
  go_wp2_with fail
  refine (premise_any _ _ _ _ len0 len1 len2 len3 _ _ _ _ i o row serve _ (by repeat (first | (with_reducible assumption) | (with_reducible exact Row.nil) | (with_reducible apply Row.drewN) | (with_reducible apply Row.drew) | (with_reducible apply Row.more) | (with_reducible apply Row.alloc))) (by repeat (first | (with_reducible assumption) | (with_reducible exact Row.nil) | (with_reducible apply Row.drewN) | (with_reducible apply Row.drew) | (with_reducible apply Row.more) | (with_reducible apply Row.alloc))) (by repeat (first | (with_reducible assumption) | (with_reducible exact Row.nil) | (with_reducible apply Row.drewN) | (with_reducible apply Row.drew) | (with_reducible apply Row.more) | (with_reducible apply Row.alloc))) (by repeat (first | (with_reducible assumption) | (with_reducible exact Row.nil) | (with_reducible apply Row.drewN) | (with_reducible apply Row.drew) | (with_reducible apply Row.more) | (with_reducible apply Row.alloc))) (by omega) (by omega)).mono ?_
  rintro e w1 ⟨ok, rfl, hok, os2, d2, rfl⟩
  cases ok with
  | false =>
    go_wp2_with fail
    go_ret
    exact ⟨rfl, More.below (by repeat (first | (with_reducible assumption) | (with_reducible exact More.refl _) | (with_reducible refine More.alloc ?_ _) | (with_reducible refine More.more ?_ _ _) | (with_reducible refine More.drewN ?_ _) | (with_reducible refine More.drew ?_)))⟩
  | true =>
    cases ok_1 with
    | false =>
      go_wp2_with fail
      go_ret
      exact ⟨rfl, More.below (by repeat (first | (with_reducible assumption) | (with_reducible exact More.refl _) | (with_reducible refine More.alloc ?_ _) | (with_reducible refine More.more ?_ _ _) | (with_reducible refine More.drewN ?_ _) | (with_reducible refine More.drew ?_)))⟩
    | true =>
      have hA := ha_1 rfl
      obtain ⟨p1, p2, rfl, rfl, rfl, ⟨p3, p4, p5, p6⟩, p7, p8⟩ := hok rfl
      by_cases hso : sorted len3 serve = true
      · have HD : Hid (∀ t, t + r_1 < len3 → i t ≤ o (t + r_1)) := bound_delay p1 p3 p4 p5 p6 p7 p8 hA (sorted_iff.1 hso)
        have hrb : r_1 ≤ len3 := by rcases hA.2 with h | ⟨t, a1, a2, _⟩ <;> omega
        have E5 := Lib.hid hso
        clear hso p1 p2 p3 p4 p5 p6 p7 p8 hA hok hi_1 ha_1
        go_wp2_with fail
        refine (issorted_any _ len3 _ serve _ (by repeat (first | (with_reducible assumption) | (with_reducible exact Row.nil) | (with_reducible apply Row.drewN) | (with_reducible apply Row.drew) | (with_reducible apply Row.more) | (with_reducible apply Row.alloc))) (by omega)).mono ?_
        rintro e w' ⟨rfl, os3, d3, rfl⟩
        rw [E5.out]
        have hmz : More w ((((w.more os n_).more os_1 d_1).more os2 d2).more os3 d3) := (by repeat (first | (with_reducible assumption) | (with_reducible exact More.refl _) | (with_reducible refine More.alloc ?_ _) | (with_reducible refine More.more ?_ _ _) | (with_reducible refine More.drewN ?_ _) | (with_reducible refine More.drew ?_)))
        have hii : Row ((((w.more os n_).more os_1 d_1).more os2 d2).more os3 d3) a0 len3 i := (by repeat (first | (with_reducible assumption) | (with_reducible exact Row.nil) | (with_reducible apply Row.drewN) | (with_reducible apply Row.drew) | (with_reducible apply Row.more) | (with_reducible apply Row.alloc)))
        have hoo : Row ((((w.more os n_).more os_1 d_1).more os2 d2).more os3 d3) a1 len3 o := (by repeat (first | (with_reducible assumption) | (with_reducible exact Row.nil) | (with_reducible apply Row.drewN) | (with_reducible apply Row.drew) | (with_reducible apply Row.more) | (with_reducible apply Row.alloc)))
        generalize (((w.more os n_).more os_1 d_1).more os2 d2).more os3 d3 = wz at *
        go_wp2_with fail
        go_loopw [38] (fun j wr => ∃ k dr : Nat, j = .int .i64 k ∧ k ≤ len3 ∧ wr = wz.drewN dr) (fun j _ => len3 - (intOf j).toNat)
        case atStart => exact ⟨0, 0, rfl, Nat.zero_le _, rfl⟩
        case round =>
          obtain ⟨k, dr, rfl, hk, rfl⟩ := hrel
          by_cases hlt : k < len3
          · obtain ⟨b1, o1, x, rfl, g1, k1, hx⟩ := hii.at_ hlt
            obtain ⟨q, hq⟩ : ∃ q, Hid (k + r_1 = q) := ⟨_, rfl⟩
            have hts : (k : Int) + (r_1 : Int) = ((q : Nat) : Int) := by have := hq.out; omega
            have kw : IntKind.i64.wrap ((q : Nat) : Int) = ((q : Nat) : Int) := IntWalk.i64_in _ (by have := hq.out; omega)
            have k2 : (k : Int) < (len3 : Int) := by omega
            by_cases hqn : q < len3
            · obtain ⟨b2, o2, y, rfl, g2, k3, hy⟩ := hoo.at_ hqn
              have k4 : (q : Int) < (len3 : Int) := by omega
              have k5 : decide ((q : Int) < (len3 : Int)) = true := by simp; omega
              have hle := HD.out k (by have := hq.out; omega)
              rw [hq.out, ← hx.out, ← hy.out] at hle
              have hd : decide (y < x) = false := by simp; omega
              clear hle
              go_wp2_with fail
              go_roundw
              case rel => exact ⟨k + 1, _, by go_num, by omega, rfl⟩
              case measure => simp [intOf]; omega
            · have k5 : decide ((q : Int) < (len3 : Int)) = false := by simp; omega
              go_wp2_with fail
              go_roundw
              case rel => exact ⟨k + 1, _, by go_num, by omega, rfl⟩
              case measure => simp [intOf]; omega
          · obtain rfl : k = len3 := by omega
            go_wp2
            go_ret
            exact ⟨rfl, (hmz.drewN _).below⟩
      · have hso' : sorted len3 serve = false := by simpa using hso
        have E5 := Lib.hid hso'
        clear hso hso' p1 p2 p3 p4 p5 p6 p7 p8 hA hok hi_1 ha_1
        go_wp2_with fail
        refine (issorted_any _ len3 _ serve _ (by repeat (first | (with_reducible assumption) | (with_reducible exact Row.nil) | (with_reducible apply Row.drewN) | (with_reducible apply Row.drew) | (with_reducible apply Row.more) | (with_reducible apply Row.alloc))) (by omega)).mono ?_
        rintro e w' ⟨rfl, os3, d3, rfl⟩
        rw [E5.out]
        go_wp2
        go_ret
        exact ⟨rfl, More.below (by repeat (first | (with_reducible assumption) | (with_reducible exact More.refl _) | (with_reducible refine More.alloc ?_ _) | (with_reducible refine More.more ?_ _ _) | (with_reducible refine More.drewN ?_ _) | (with_reducible refine More.drew ?_)))⟩
end Go.Proofs.Ytdilmnpoicdkhaa
