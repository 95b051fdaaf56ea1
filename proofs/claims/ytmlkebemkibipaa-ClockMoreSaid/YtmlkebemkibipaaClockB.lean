/- ClockOff: for every input the law returns true. Conditions: none. -/
import Derived.Test.YtmlkebemkibipaaClockA
set_option linter.unusedVariables false
set_option linter.unusedSimpArgs false
namespace Go.Tide
theorem BestIn.shift {x : Nat → Int} {lo : Int} {k : Nat} {v : Int} (h : BestIn ltB x lo k v) (d : Int) : BestIn ltB (fun k => x k + d) lo k (v + d) := by
  obtain ⟨⟨i, a1, a2, a3⟩, a4⟩ := h
  refine ⟨⟨i, a1, a2, by rw [← a3]⟩, fun t t1 t2 => ?_⟩
  have := ltB_not.1 (a4 t t1 t2)
  rw [ltB_not]
  show v + d ≤ x t + d
  omega
theorem base_shift {x : Nat → Int} {part keep : Int} (hp : 1 ≤ part) (hk : 1 ≤ keep) (d : Int) (k : Nat) : baseOf (fun k => x k + d) part keep k = baseOf x part keep k + d :=
  (baseOf_spec hp hk k).unique ord_lt ((baseOf_spec hp hk k).shift d)
/-- All packets so much off. -/
def offOf (f : Nat → Nat → Int) (s c : Int) (k j : Nat) : Int := if j = 0 then f k 0 + s else f k 1 + c
theorem off_waits (f : Nat → Nat → Int) (s c : Int) {part keep : Int} (hp : 1 ≤ part) (hk : 1 ≤ keep) (k : Nat) : pwaits f part keep k = pwaits (offOf f s c) part keep k := by
  have e : pways (offOf f s c) = fun k => pways f k + (c - s) := by
    funext k
    simp only [pways, offOf]
    simp
    omega
  unfold pwaits
  rw [e, base_shift hp hk]
  show _ = pways f k + (c - s) - _
  omega
end Go.Tide
namespace Go.Proofs.Ytmlkebemkibipaa
open Go.RowKit Go.Tide
set_option linter.unusedVariables false
set_option linter.unusedSimpArgs false

theorem pktInfo : (Try.prog.info? 32).map (fun i => (i.zero, i.size, i.bytes)) = some (some (.agg #[.int .i64 0, .int .i64 0]), 2, 16) := by kernel_rfl

set_option maxHeartbeats 2000000 in
theorem clockOff_walk (a0 : Option Addr) (len0 cap0 : Nat) (z0 : List Int) (a1 : Int) (a2 : Int) (a3 : Int) (a4 : Int) (w : World) (f0 : IsFlat w a0 len0 cap0 2 z0) (r0 : cap0 * 16 ≤ 140737488351232) (b1 : InI64 a1) (b2 : InI64 a2) (b3 : InI64 a3) (b4 : InI64 a4) :
    Calls Try.prog 7 #[.slice a0 len0 cap0, .int .i64 a1, .int .i64 a2, .int .i64 a3, .int .i64 a4] w fun e w' => e = .returned (.bool true) ∧ Below w.heap.size w w' := by
  obtain ⟨i0_, hi, hz0, hz1, hz2⟩ := info_parts pktInfo
  have hle := f0.le'
  have hs := f0.rowC (by omega)
  have hfb : ∀ k j, InI64 ((fun k j => z0.getD (k * 2 + j) 0) k j) := fun k j => f0.boundC _
  generalize (fun k j => z0.getD (k * 2 + j) 0) = f at hs hfb
  clear f0
  rcases Int.lt_trichotomy a3 a4 with c0 | c0 | c0
  · have d0 : decide (a3 < a4) = true := by simpa using c0
    by_cases c1 : 1099511627776 < a4
    · have d1 : decide (1099511627776 < a4) = true := by simpa using c1
      go_enter Try.func7, Try.ntmps7
      go_wp2_with (go_at_call 18; refine (clock_alive _).mono ?_; rintro e w' ⟨rfl, os, n_, rfl⟩)
      go_ret
      exact ⟨rfl, More.below (by repeat (first | (with_reducible assumption) | (with_reducible exact More.refl _) | (with_reducible refine More.alloc ?_ _) | (with_reducible refine More.more ?_ _ _) | (with_reducible refine More.drewN ?_ _) | (with_reducible refine More.drew ?_)))⟩
    · have d1 : decide (1099511627776 < a4) = false := by simpa using c1
      by_cases c2 : a3 < -1099511627776
      · have d2 : decide (a3 < -1099511627776) = true := by simpa using c2
        go_enter Try.func7, Try.ntmps7
        go_wp2_with (go_at_call 18; refine (clock_alive _).mono ?_; rintro e w' ⟨rfl, os, n_, rfl⟩)
        go_ret
        exact ⟨rfl, More.below (by repeat (first | (with_reducible assumption) | (with_reducible exact More.refl _) | (with_reducible refine More.alloc ?_ _) | (with_reducible refine More.more ?_ _ _) | (with_reducible refine More.drewN ?_ _) | (with_reducible refine More.drew ?_)))⟩
      · have d2 : decide (a3 < -1099511627776) = false := by simpa using c2
        by_cases c3 : pRight len0 f = true
        · have HR := Lib.hid c3
          have HP := Lib.hid (pRight_iff.1 c3)
          clear c3
          go_enter Try.func7, Try.ntmps7
          go_wp2_with (go_at_call 18; refine (clock_alive _).mono ?_; rintro e w' ⟨rfl, os, n_, rfl⟩)
          refine (pright_any a0 len0 cap0 f _ (by repeat (first | (with_reducible assumption) | (with_reducible exact RowC.nil) | (with_reducible apply RowC.drewN) | (with_reducible apply RowC.drew) | (with_reducible apply RowC.more) | (with_reducible apply RowC.alloc))) (by omega)).mono ?_
          rintro e w1 ⟨rfl, os_1, d_1, rfl⟩
          rw [HR.out]
          go_wp2_with fail
          have hmz : More w ((w.more os n_).more os_1 d_1) := (by repeat (first | (with_reducible assumption) | (with_reducible exact More.refl _) | (with_reducible refine More.alloc ?_ _) | (with_reducible refine More.more ?_ _ _) | (with_reducible refine More.drewN ?_ _) | (with_reducible refine More.drew ?_)))
          have hlz : RowC ((w.more os n_).more os_1 d_1) 2 a0 len0 f := (by repeat (first | (with_reducible assumption) | (with_reducible exact RowC.nil) | (with_reducible apply RowC.drewN) | (with_reducible apply RowC.drew) | (with_reducible apply RowC.more) | (with_reducible apply RowC.alloc)))
          generalize (w.more os n_).more os_1 d_1 = wz at *
          have hbz := hmz.below
          have hsz0 := hbz.size
          go_loopw [11, 33] (fun out i wr => ∃ k : Nat, i = .int .i64 k ∧ k ≤ len0 ∧ wr.ownsRow wz.heap.size 32 2 out k (cellsC 2 k (offOf f a3 a4)) ∧ Below wz.heap.size wz wr) (fun _ i _ => len0 - (intOf i).toNat)
          case atStart => exact ⟨0, rfl, Nat.zero_le _, World.ownsRow_nil _ _ _ _, Below.refl _ _⟩
          case round =>
            obtain ⟨k, rfl, hk, hown, hbw⟩ := hrel
            obtain ⟨ao, co, hv, hco⟩ := own_sliceC hown
            subst hv
            have hsz := hbw.size
            by_cases hlt : k < len0
            · obtain ⟨b, off, x, y, rfl, hb, hcx, hcy, hx, hy⟩ := (hlz.below hbw (Nat.le_refl _)).at2 hlt
              have hxb := HP.out k hlt
              rw [← hx.out, ← hy.out] at hxb
              obtain ⟨⟨x1, x2⟩, y1, y2⟩ := hxb
              have HC : Hid ([.int .i64 (x + a3), .int .i64 (y + a4)] = (List.range 2).map fun j => Value.int .i64 (offOf f a3 a4 k j)) := by rw [hx.out, hy.out]; rfl
              go_wp2_with (at_builtin; refine wpList_append_own _ rfl (.tmp 37) (.tmp 47) 29 rfl wz.heap.size 32 i0_ (.agg #[.int .i64 0, .int .i64 0]) 2 16 Try.underlying29 hi hz0 hz1 hz2 rfl (by decide) (.slice ao k co) k (cellsC 2 k (offOf f a3 a4)) rfl ((hown.alloc _).alloc _) _ 1 1 [.int .i64 (x + a3), .int .i64 (y + a4)] rfl rfl (Blk.news (cs := #[.int .i64 (x + a3), .int .i64 (y + a4)]) (t := 32) (by repeat (first | (with_reducible assumption) | ((with_reducible refine Blk.new' ?_); (simp [Nat.add_assoc]; done)) | (with_reducible refine Blk.alloc ?_ _) | (with_reducible refine Blk.more ?_ _ _) | (with_reducible refine Blk.drew ?_) | (with_reducible refine Blk.drewN ?_ _)))) (by simp [Value.oneCell']) (by simp only [maxLen]; omega) (by omega) (by simp; omega) ?_; intro v' w5 hown5 hgrow5 hnil; clear hnil)
              go_roundw
              case rel => exact ⟨k + 1, by go_num, by omega, by rw [cellsC_succ, ← HC.out]; exact hown5, ((hbw.alloc hsz _).alloc (by simp; omega) _).grown hgrow5 (by simp; omega) (own_base hown)⟩
              case measure => simp [intOf]; omega
            · obtain rfl : k = len0 := by omega
              have hoff : RowC wr 2 ao k (offOf f a3 a4) := RowC.of_own (by omega) hown
              have hl : RowC wr 2 a0 k f := hlz.below hbw (Nat.le_refl _)
              have hbr : Below w.heap.size w wr := hbz.trans (hbw.mono hsz0)
              have hsr : w.heap.size ≤ wr.heap.size := by omega
              clear hown hbw hlz hs
              by_cases c5 : pRight k (offOf f a3 a4) = true
              · have HR5 := Lib.hid c5
                have HP5 := Lib.hid (pRight_iff.1 c5)
                clear c5
                by_cases c6 : a1 < 1 ∨ a2 < 1
                · have H6 := Lib.hid c6
                  have E := Lib.hid (eqRows_true (n := 0) (m := 0) (f := fun _ => 0) (g := fun _ => 0) ⟨rfl, fun _ _ => rfl⟩)
                  clear c6
                  go_wp2_with fail
                  refine (pright_any ao k co _ _ hoff (by omega)).mono ?_
                  rintro e w1 ⟨rfl, os_2, d_2, rfl⟩
                  rw [HR5.out]
                  go_wp2_with fail
                  refine (pwaits_off a0 k cap0 f _ (by repeat (first | (with_reducible assumption) | (with_reducible exact RowC.nil) | (with_reducible apply RowC.drewN) | (with_reducible apply RowC.drew) | (with_reducible apply RowC.more) | (with_reducible apply RowC.alloc))) (by omega) HP.out a1 a2 H6.out).mono ?_
                  rintro e w1 ⟨rfl, os_3, d_3, rfl⟩
                  go_wp2_with fail
                  refine (pwaits_off ao k co _ _ (by repeat (first | (with_reducible assumption) | (with_reducible exact RowC.nil) | (with_reducible apply RowC.drewN) | (with_reducible apply RowC.drew) | (with_reducible apply RowC.more) | (with_reducible apply RowC.alloc))) (by omega) HP5.out a1 a2 H6.out).mono ?_
                  rintro e w1 ⟨rfl, os_4, d_4, rfl⟩
                  go_wp2_with fail
                  refine (equal_any none none 0 0 _ _ (fun _ => 0) (fun _ => 0) _ Row.nil Row.nil (by omega) (by omega)).mono ?_
                  rintro e w1 ⟨rfl, os_5, d_5, rfl⟩
                  rw [E.out]
                  go_wp2
                  go_ret
                  exact ⟨rfl, below_then hbr hsr (by repeat (first | (with_reducible assumption) | (with_reducible exact More.refl _) | (with_reducible refine More.alloc ?_ _) | (with_reducible refine More.more ?_ _ _) | (with_reducible refine More.drewN ?_ _) | (with_reducible refine More.drew ?_)))⟩
                · have E := Lib.hid (eqRows_true (n := k) (m := k) (f := pwaits f a1 a2) (g := pwaits (offOf f a3 a4) a1 a2) ⟨rfl, fun j _ => off_waits f a3 a4 (by omega) (by omega) j⟩)
                  have p1 : 1 ≤ a1 := by omega
                  have p2 : 1 ≤ a2 := by omega
                  have q1 := b1.2
                  have q2 := b2.2
                  clear c6
                  go_wp2_with fail
                  refine (pright_any ao k co _ _ hoff (by omega)).mono ?_
                  rintro e w1 ⟨rfl, os_2, d_2, rfl⟩
                  rw [HR5.out]
                  go_wp2_with fail
                  refine (pwaits_any a0 k cap0 f _ (by repeat (first | (with_reducible assumption) | (with_reducible exact RowC.nil) | (with_reducible apply RowC.drewN) | (with_reducible apply RowC.drew) | (with_reducible apply RowC.more) | (with_reducible apply RowC.alloc))) (by omega) HP.out a1 a2 p1 q1 p2 q2).mono ?_
                  rintro e w1 ⟨a_3, c_3, rfl, hc_3, hr_3, hb_3⟩
                  obtain ⟨os_3, d_3, rfl⟩ := More.of_below hb_3
                  clear hb_3
                  go_wp2_with fail
                  refine (pwaits_any ao k co _ _ (by repeat (first | (with_reducible assumption) | (with_reducible exact RowC.nil) | (with_reducible apply RowC.drewN) | (with_reducible apply RowC.drew) | (with_reducible apply RowC.more) | (with_reducible apply RowC.alloc))) (by omega) HP5.out a1 a2 p1 q1 p2 q2).mono ?_
                  rintro e w1 ⟨a_4, c_4, rfl, hc_4, hr_4, hb_4⟩
                  obtain ⟨os_4, d_4, rfl⟩ := More.of_below hb_4
                  clear hb_4
                  go_wp2_with fail
                  refine (equal_any _ _ k k _ _ _ _ _ (by repeat (first | (with_reducible assumption) | (with_reducible exact Row.nil) | (with_reducible apply Row.drewN) | (with_reducible apply Row.drew) | (with_reducible apply Row.more) | (with_reducible apply Row.alloc))) (by repeat (first | (with_reducible assumption) | (with_reducible exact Row.nil) | (with_reducible apply Row.drewN) | (with_reducible apply Row.drew) | (with_reducible apply Row.more) | (with_reducible apply Row.alloc))) (by omega) (by omega)).mono ?_
                  rintro e w1 ⟨rfl, os_5, d_5, rfl⟩
                  rw [E.out]
                  go_wp2
                  go_ret
                  exact ⟨rfl, below_then hbr hsr (by repeat (first | (with_reducible assumption) | (with_reducible exact More.refl _) | (with_reducible refine More.alloc ?_ _) | (with_reducible refine More.more ?_ _ _) | (with_reducible refine More.drewN ?_ _) | (with_reducible refine More.drew ?_)))⟩
              · have c5' : pRight k (offOf f a3 a4) = false := by simpa using c5
                have HR5 := Lib.hid c5'
                clear c5 c5'
                go_wp2_with fail
                refine (pright_any ao k co _ _ hoff (by omega)).mono ?_
                rintro e w1 ⟨rfl, os_2, d_2, rfl⟩
                rw [HR5.out]
                go_wp2
                go_ret
                exact ⟨rfl, below_then hbr hsr (by repeat (first | (with_reducible assumption) | (with_reducible exact More.refl _) | (with_reducible refine More.alloc ?_ _) | (with_reducible refine More.more ?_ _ _) | (with_reducible refine More.drewN ?_ _) | (with_reducible refine More.drew ?_)))⟩
        · have c3' : pRight len0 f = false := by simpa using c3
          have HR := Lib.hid c3'
          clear c3 c3'
          go_enter Try.func7, Try.ntmps7
          go_wp2_with (go_at_call 18; refine (clock_alive _).mono ?_; rintro e w' ⟨rfl, os, n_, rfl⟩)
          refine (pright_any a0 len0 cap0 f _ (by repeat (first | (with_reducible assumption) | (with_reducible exact RowC.nil) | (with_reducible apply RowC.drewN) | (with_reducible apply RowC.drew) | (with_reducible apply RowC.more) | (with_reducible apply RowC.alloc))) (by omega)).mono ?_
          rintro e w1 ⟨rfl, os_1, d_1, rfl⟩
          rw [HR.out]
          go_wp2
          go_ret
          exact ⟨rfl, More.below (by repeat (first | (with_reducible assumption) | (with_reducible exact More.refl _) | (with_reducible refine More.alloc ?_ _) | (with_reducible refine More.more ?_ _ _) | (with_reducible refine More.drewN ?_ _) | (with_reducible refine More.drew ?_)))⟩
  · subst c0
    by_cases c1 : 1099511627776 < a3
    · have d1 : decide (1099511627776 < a3) = true := by simpa using c1
      go_enter Try.func7, Try.ntmps7
      go_wp2_with (go_at_call 18; refine (clock_alive _).mono ?_; rintro e w' ⟨rfl, os, n_, rfl⟩)
      go_ret
      exact ⟨rfl, More.below (by repeat (first | (with_reducible assumption) | (with_reducible exact More.refl _) | (with_reducible refine More.alloc ?_ _) | (with_reducible refine More.more ?_ _ _) | (with_reducible refine More.drewN ?_ _) | (with_reducible refine More.drew ?_)))⟩
    · have d1 : decide (1099511627776 < a3) = false := by simpa using c1
      by_cases c2 : a3 < -1099511627776
      · have d2 : decide (a3 < -1099511627776) = true := by simpa using c2
        go_enter Try.func7, Try.ntmps7
        go_wp2_with (go_at_call 18; refine (clock_alive _).mono ?_; rintro e w' ⟨rfl, os, n_, rfl⟩)
        go_ret
        exact ⟨rfl, More.below (by repeat (first | (with_reducible assumption) | (with_reducible exact More.refl _) | (with_reducible refine More.alloc ?_ _) | (with_reducible refine More.more ?_ _ _) | (with_reducible refine More.drewN ?_ _) | (with_reducible refine More.drew ?_)))⟩
      · have d2 : decide (a3 < -1099511627776) = false := by simpa using c2
        by_cases c3 : pRight len0 f = true
        · have HR := Lib.hid c3
          have HP := Lib.hid (pRight_iff.1 c3)
          clear c3
          go_enter Try.func7, Try.ntmps7
          go_wp2_with (go_at_call 18; refine (clock_alive _).mono ?_; rintro e w' ⟨rfl, os, n_, rfl⟩)
          refine (pright_any a0 len0 cap0 f _ (by repeat (first | (with_reducible assumption) | (with_reducible exact RowC.nil) | (with_reducible apply RowC.drewN) | (with_reducible apply RowC.drew) | (with_reducible apply RowC.more) | (with_reducible apply RowC.alloc))) (by omega)).mono ?_
          rintro e w1 ⟨rfl, os_1, d_1, rfl⟩
          rw [HR.out]
          go_wp2_with fail
          have hmz : More w ((w.more os n_).more os_1 d_1) := (by repeat (first | (with_reducible assumption) | (with_reducible exact More.refl _) | (with_reducible refine More.alloc ?_ _) | (with_reducible refine More.more ?_ _ _) | (with_reducible refine More.drewN ?_ _) | (with_reducible refine More.drew ?_)))
          have hlz : RowC ((w.more os n_).more os_1 d_1) 2 a0 len0 f := (by repeat (first | (with_reducible assumption) | (with_reducible exact RowC.nil) | (with_reducible apply RowC.drewN) | (with_reducible apply RowC.drew) | (with_reducible apply RowC.more) | (with_reducible apply RowC.alloc)))
          generalize (w.more os n_).more os_1 d_1 = wz at *
          have hbz := hmz.below
          have hsz0 := hbz.size
          go_loopw [11, 33] (fun out i wr => ∃ k : Nat, i = .int .i64 k ∧ k ≤ len0 ∧ wr.ownsRow wz.heap.size 32 2 out k (cellsC 2 k (offOf f a3 a3)) ∧ Below wz.heap.size wz wr) (fun _ i _ => len0 - (intOf i).toNat)
          case atStart => exact ⟨0, rfl, Nat.zero_le _, World.ownsRow_nil _ _ _ _, Below.refl _ _⟩
          case round =>
            obtain ⟨k, rfl, hk, hown, hbw⟩ := hrel
            obtain ⟨ao, co, hv, hco⟩ := own_sliceC hown
            subst hv
            have hsz := hbw.size
            by_cases hlt : k < len0
            · obtain ⟨b, off, x, y, rfl, hb, hcx, hcy, hx, hy⟩ := (hlz.below hbw (Nat.le_refl _)).at2 hlt
              have hxb := HP.out k hlt
              rw [← hx.out, ← hy.out] at hxb
              obtain ⟨⟨x1, x2⟩, y1, y2⟩ := hxb
              have HC : Hid ([.int .i64 (x + a3), .int .i64 (y + a3)] = (List.range 2).map fun j => Value.int .i64 (offOf f a3 a3 k j)) := by rw [hx.out, hy.out]; rfl
              go_wp2_with (at_builtin; refine wpList_append_own _ rfl (.tmp 37) (.tmp 47) 29 rfl wz.heap.size 32 i0_ (.agg #[.int .i64 0, .int .i64 0]) 2 16 Try.underlying29 hi hz0 hz1 hz2 rfl (by decide) (.slice ao k co) k (cellsC 2 k (offOf f a3 a3)) rfl ((hown.alloc _).alloc _) _ 1 1 [.int .i64 (x + a3), .int .i64 (y + a3)] rfl rfl (Blk.news (cs := #[.int .i64 (x + a3), .int .i64 (y + a3)]) (t := 32) (by repeat (first | (with_reducible assumption) | ((with_reducible refine Blk.new' ?_); (simp [Nat.add_assoc]; done)) | (with_reducible refine Blk.alloc ?_ _) | (with_reducible refine Blk.more ?_ _ _) | (with_reducible refine Blk.drew ?_) | (with_reducible refine Blk.drewN ?_ _)))) (by simp [Value.oneCell']) (by simp only [maxLen]; omega) (by omega) (by simp; omega) ?_; intro v' w5 hown5 hgrow5 hnil; clear hnil)
              go_roundw
              case rel => exact ⟨k + 1, by go_num, by omega, by rw [cellsC_succ, ← HC.out]; exact hown5, ((hbw.alloc hsz _).alloc (by simp; omega) _).grown hgrow5 (by simp; omega) (own_base hown)⟩
              case measure => simp [intOf]; omega
            · obtain rfl : k = len0 := by omega
              have hoff : RowC wr 2 ao k (offOf f a3 a3) := RowC.of_own (by omega) hown
              have hl : RowC wr 2 a0 k f := hlz.below hbw (Nat.le_refl _)
              have hbr : Below w.heap.size w wr := hbz.trans (hbw.mono hsz0)
              have hsr : w.heap.size ≤ wr.heap.size := by omega
              clear hown hbw hlz hs
              by_cases c5 : pRight k (offOf f a3 a3) = true
              · have HR5 := Lib.hid c5
                have HP5 := Lib.hid (pRight_iff.1 c5)
                clear c5
                by_cases c6 : a1 < 1 ∨ a2 < 1
                · have H6 := Lib.hid c6
                  have E := Lib.hid (eqRows_true (n := 0) (m := 0) (f := fun _ => 0) (g := fun _ => 0) ⟨rfl, fun _ _ => rfl⟩)
                  clear c6
                  go_wp2_with fail
                  refine (pright_any ao k co _ _ hoff (by omega)).mono ?_
                  rintro e w1 ⟨rfl, os_2, d_2, rfl⟩
                  rw [HR5.out]
                  go_wp2_with fail
                  refine (pwaits_off a0 k cap0 f _ (by repeat (first | (with_reducible assumption) | (with_reducible exact RowC.nil) | (with_reducible apply RowC.drewN) | (with_reducible apply RowC.drew) | (with_reducible apply RowC.more) | (with_reducible apply RowC.alloc))) (by omega) HP.out a1 a2 H6.out).mono ?_
                  rintro e w1 ⟨rfl, os_3, d_3, rfl⟩
                  go_wp2_with fail
                  refine (pwaits_off ao k co _ _ (by repeat (first | (with_reducible assumption) | (with_reducible exact RowC.nil) | (with_reducible apply RowC.drewN) | (with_reducible apply RowC.drew) | (with_reducible apply RowC.more) | (with_reducible apply RowC.alloc))) (by omega) HP5.out a1 a2 H6.out).mono ?_
                  rintro e w1 ⟨rfl, os_4, d_4, rfl⟩
                  go_wp2_with fail
                  refine (equal_any none none 0 0 _ _ (fun _ => 0) (fun _ => 0) _ Row.nil Row.nil (by omega) (by omega)).mono ?_
                  rintro e w1 ⟨rfl, os_5, d_5, rfl⟩
                  rw [E.out]
                  go_wp2
                  go_ret
                  exact ⟨rfl, below_then hbr hsr (by repeat (first | (with_reducible assumption) | (with_reducible exact More.refl _) | (with_reducible refine More.alloc ?_ _) | (with_reducible refine More.more ?_ _ _) | (with_reducible refine More.drewN ?_ _) | (with_reducible refine More.drew ?_)))⟩
                · have E := Lib.hid (eqRows_true (n := k) (m := k) (f := pwaits f a1 a2) (g := pwaits (offOf f a3 a3) a1 a2) ⟨rfl, fun j _ => off_waits f a3 a3 (by omega) (by omega) j⟩)
                  have p1 : 1 ≤ a1 := by omega
                  have p2 : 1 ≤ a2 := by omega
                  have q1 := b1.2
                  have q2 := b2.2
                  clear c6
                  go_wp2_with fail
                  refine (pright_any ao k co _ _ hoff (by omega)).mono ?_
                  rintro e w1 ⟨rfl, os_2, d_2, rfl⟩
                  rw [HR5.out]
                  go_wp2_with fail
                  refine (pwaits_any a0 k cap0 f _ (by repeat (first | (with_reducible assumption) | (with_reducible exact RowC.nil) | (with_reducible apply RowC.drewN) | (with_reducible apply RowC.drew) | (with_reducible apply RowC.more) | (with_reducible apply RowC.alloc))) (by omega) HP.out a1 a2 p1 q1 p2 q2).mono ?_
                  rintro e w1 ⟨a_3, c_3, rfl, hc_3, hr_3, hb_3⟩
                  obtain ⟨os_3, d_3, rfl⟩ := More.of_below hb_3
                  clear hb_3
                  go_wp2_with fail
                  refine (pwaits_any ao k co _ _ (by repeat (first | (with_reducible assumption) | (with_reducible exact RowC.nil) | (with_reducible apply RowC.drewN) | (with_reducible apply RowC.drew) | (with_reducible apply RowC.more) | (with_reducible apply RowC.alloc))) (by omega) HP5.out a1 a2 p1 q1 p2 q2).mono ?_
                  rintro e w1 ⟨a_4, c_4, rfl, hc_4, hr_4, hb_4⟩
                  obtain ⟨os_4, d_4, rfl⟩ := More.of_below hb_4
                  clear hb_4
                  go_wp2_with fail
                  refine (equal_any _ _ k k _ _ _ _ _ (by repeat (first | (with_reducible assumption) | (with_reducible exact Row.nil) | (with_reducible apply Row.drewN) | (with_reducible apply Row.drew) | (with_reducible apply Row.more) | (with_reducible apply Row.alloc))) (by repeat (first | (with_reducible assumption) | (with_reducible exact Row.nil) | (with_reducible apply Row.drewN) | (with_reducible apply Row.drew) | (with_reducible apply Row.more) | (with_reducible apply Row.alloc))) (by omega) (by omega)).mono ?_
                  rintro e w1 ⟨rfl, os_5, d_5, rfl⟩
                  rw [E.out]
                  go_wp2
                  go_ret
                  exact ⟨rfl, below_then hbr hsr (by repeat (first | (with_reducible assumption) | (with_reducible exact More.refl _) | (with_reducible refine More.alloc ?_ _) | (with_reducible refine More.more ?_ _ _) | (with_reducible refine More.drewN ?_ _) | (with_reducible refine More.drew ?_)))⟩
              · have c5' : pRight k (offOf f a3 a3) = false := by simpa using c5
                have HR5 := Lib.hid c5'
                clear c5 c5'
                go_wp2_with fail
                refine (pright_any ao k co _ _ hoff (by omega)).mono ?_
                rintro e w1 ⟨rfl, os_2, d_2, rfl⟩
                rw [HR5.out]
                go_wp2
                go_ret
                exact ⟨rfl, below_then hbr hsr (by repeat (first | (with_reducible assumption) | (with_reducible exact More.refl _) | (with_reducible refine More.alloc ?_ _) | (with_reducible refine More.more ?_ _ _) | (with_reducible refine More.drewN ?_ _) | (with_reducible refine More.drew ?_)))⟩
        · have c3' : pRight len0 f = false := by simpa using c3
          have HR := Lib.hid c3'
          clear c3 c3'
          go_enter Try.func7, Try.ntmps7
          go_wp2_with (go_at_call 18; refine (clock_alive _).mono ?_; rintro e w' ⟨rfl, os, n_, rfl⟩)
          refine (pright_any a0 len0 cap0 f _ (by repeat (first | (with_reducible assumption) | (with_reducible exact RowC.nil) | (with_reducible apply RowC.drewN) | (with_reducible apply RowC.drew) | (with_reducible apply RowC.more) | (with_reducible apply RowC.alloc))) (by omega)).mono ?_
          rintro e w1 ⟨rfl, os_1, d_1, rfl⟩
          rw [HR.out]
          go_wp2
          go_ret
          exact ⟨rfl, More.below (by repeat (first | (with_reducible assumption) | (with_reducible exact More.refl _) | (with_reducible refine More.alloc ?_ _) | (with_reducible refine More.more ?_ _ _) | (with_reducible refine More.drewN ?_ _) | (with_reducible refine More.drew ?_)))⟩
  · have d0 : decide (a4 < a3) = true := by simpa using c0
    by_cases c1 : 1099511627776 < a3
    · have d1 : decide (1099511627776 < a3) = true := by simpa using c1
      go_enter Try.func7, Try.ntmps7
      go_wp2_with (go_at_call 18; refine (clock_alive _).mono ?_; rintro e w' ⟨rfl, os, n_, rfl⟩)
      go_ret
      exact ⟨rfl, More.below (by repeat (first | (with_reducible assumption) | (with_reducible exact More.refl _) | (with_reducible refine More.alloc ?_ _) | (with_reducible refine More.more ?_ _ _) | (with_reducible refine More.drewN ?_ _) | (with_reducible refine More.drew ?_)))⟩
    · have d1 : decide (1099511627776 < a3) = false := by simpa using c1
      by_cases c2 : a4 < -1099511627776
      · have d2 : decide (a4 < -1099511627776) = true := by simpa using c2
        go_enter Try.func7, Try.ntmps7
        go_wp2_with (go_at_call 18; refine (clock_alive _).mono ?_; rintro e w' ⟨rfl, os, n_, rfl⟩)
        go_ret
        exact ⟨rfl, More.below (by repeat (first | (with_reducible assumption) | (with_reducible exact More.refl _) | (with_reducible refine More.alloc ?_ _) | (with_reducible refine More.more ?_ _ _) | (with_reducible refine More.drewN ?_ _) | (with_reducible refine More.drew ?_)))⟩
      · have d2 : decide (a4 < -1099511627776) = false := by simpa using c2
        by_cases c3 : pRight len0 f = true
        · have HR := Lib.hid c3
          have HP := Lib.hid (pRight_iff.1 c3)
          clear c3
          go_enter Try.func7, Try.ntmps7
          go_wp2_with (go_at_call 18; refine (clock_alive _).mono ?_; rintro e w' ⟨rfl, os, n_, rfl⟩)
          refine (pright_any a0 len0 cap0 f _ (by repeat (first | (with_reducible assumption) | (with_reducible exact RowC.nil) | (with_reducible apply RowC.drewN) | (with_reducible apply RowC.drew) | (with_reducible apply RowC.more) | (with_reducible apply RowC.alloc))) (by omega)).mono ?_
          rintro e w1 ⟨rfl, os_1, d_1, rfl⟩
          rw [HR.out]
          go_wp2_with fail
          have hmz : More w ((w.more os n_).more os_1 d_1) := (by repeat (first | (with_reducible assumption) | (with_reducible exact More.refl _) | (with_reducible refine More.alloc ?_ _) | (with_reducible refine More.more ?_ _ _) | (with_reducible refine More.drewN ?_ _) | (with_reducible refine More.drew ?_)))
          have hlz : RowC ((w.more os n_).more os_1 d_1) 2 a0 len0 f := (by repeat (first | (with_reducible assumption) | (with_reducible exact RowC.nil) | (with_reducible apply RowC.drewN) | (with_reducible apply RowC.drew) | (with_reducible apply RowC.more) | (with_reducible apply RowC.alloc)))
          generalize (w.more os n_).more os_1 d_1 = wz at *
          have hbz := hmz.below
          have hsz0 := hbz.size
          go_loopw [11, 33] (fun out i wr => ∃ k : Nat, i = .int .i64 k ∧ k ≤ len0 ∧ wr.ownsRow wz.heap.size 32 2 out k (cellsC 2 k (offOf f a3 a4)) ∧ Below wz.heap.size wz wr) (fun _ i _ => len0 - (intOf i).toNat)
          case atStart => exact ⟨0, rfl, Nat.zero_le _, World.ownsRow_nil _ _ _ _, Below.refl _ _⟩
          case round =>
            obtain ⟨k, rfl, hk, hown, hbw⟩ := hrel
            obtain ⟨ao, co, hv, hco⟩ := own_sliceC hown
            subst hv
            have hsz := hbw.size
            by_cases hlt : k < len0
            · obtain ⟨b, off, x, y, rfl, hb, hcx, hcy, hx, hy⟩ := (hlz.below hbw (Nat.le_refl _)).at2 hlt
              have hxb := HP.out k hlt
              rw [← hx.out, ← hy.out] at hxb
              obtain ⟨⟨x1, x2⟩, y1, y2⟩ := hxb
              have HC : Hid ([.int .i64 (x + a3), .int .i64 (y + a4)] = (List.range 2).map fun j => Value.int .i64 (offOf f a3 a4 k j)) := by rw [hx.out, hy.out]; rfl
              go_wp2_with (at_builtin; refine wpList_append_own _ rfl (.tmp 37) (.tmp 47) 29 rfl wz.heap.size 32 i0_ (.agg #[.int .i64 0, .int .i64 0]) 2 16 Try.underlying29 hi hz0 hz1 hz2 rfl (by decide) (.slice ao k co) k (cellsC 2 k (offOf f a3 a4)) rfl ((hown.alloc _).alloc _) _ 1 1 [.int .i64 (x + a3), .int .i64 (y + a4)] rfl rfl (Blk.news (cs := #[.int .i64 (x + a3), .int .i64 (y + a4)]) (t := 32) (by repeat (first | (with_reducible assumption) | ((with_reducible refine Blk.new' ?_); (simp [Nat.add_assoc]; done)) | (with_reducible refine Blk.alloc ?_ _) | (with_reducible refine Blk.more ?_ _ _) | (with_reducible refine Blk.drew ?_) | (with_reducible refine Blk.drewN ?_ _)))) (by simp [Value.oneCell']) (by simp only [maxLen]; omega) (by omega) (by simp; omega) ?_; intro v' w5 hown5 hgrow5 hnil; clear hnil)
              go_roundw
              case rel => exact ⟨k + 1, by go_num, by omega, by rw [cellsC_succ, ← HC.out]; exact hown5, ((hbw.alloc hsz _).alloc (by simp; omega) _).grown hgrow5 (by simp; omega) (own_base hown)⟩
              case measure => simp [intOf]; omega
            · obtain rfl : k = len0 := by omega
              have hoff : RowC wr 2 ao k (offOf f a3 a4) := RowC.of_own (by omega) hown
              have hl : RowC wr 2 a0 k f := hlz.below hbw (Nat.le_refl _)
              have hbr : Below w.heap.size w wr := hbz.trans (hbw.mono hsz0)
              have hsr : w.heap.size ≤ wr.heap.size := by omega
              clear hown hbw hlz hs
              by_cases c5 : pRight k (offOf f a3 a4) = true
              · have HR5 := Lib.hid c5
                have HP5 := Lib.hid (pRight_iff.1 c5)
                clear c5
                by_cases c6 : a1 < 1 ∨ a2 < 1
                · have H6 := Lib.hid c6
                  have E := Lib.hid (eqRows_true (n := 0) (m := 0) (f := fun _ => 0) (g := fun _ => 0) ⟨rfl, fun _ _ => rfl⟩)
                  clear c6
                  go_wp2_with fail
                  refine (pright_any ao k co _ _ hoff (by omega)).mono ?_
                  rintro e w1 ⟨rfl, os_2, d_2, rfl⟩
                  rw [HR5.out]
                  go_wp2_with fail
                  refine (pwaits_off a0 k cap0 f _ (by repeat (first | (with_reducible assumption) | (with_reducible exact RowC.nil) | (with_reducible apply RowC.drewN) | (with_reducible apply RowC.drew) | (with_reducible apply RowC.more) | (with_reducible apply RowC.alloc))) (by omega) HP.out a1 a2 H6.out).mono ?_
                  rintro e w1 ⟨rfl, os_3, d_3, rfl⟩
                  go_wp2_with fail
                  refine (pwaits_off ao k co _ _ (by repeat (first | (with_reducible assumption) | (with_reducible exact RowC.nil) | (with_reducible apply RowC.drewN) | (with_reducible apply RowC.drew) | (with_reducible apply RowC.more) | (with_reducible apply RowC.alloc))) (by omega) HP5.out a1 a2 H6.out).mono ?_
                  rintro e w1 ⟨rfl, os_4, d_4, rfl⟩
                  go_wp2_with fail
                  refine (equal_any none none 0 0 _ _ (fun _ => 0) (fun _ => 0) _ Row.nil Row.nil (by omega) (by omega)).mono ?_
                  rintro e w1 ⟨rfl, os_5, d_5, rfl⟩
                  rw [E.out]
                  go_wp2
                  go_ret
                  exact ⟨rfl, below_then hbr hsr (by repeat (first | (with_reducible assumption) | (with_reducible exact More.refl _) | (with_reducible refine More.alloc ?_ _) | (with_reducible refine More.more ?_ _ _) | (with_reducible refine More.drewN ?_ _) | (with_reducible refine More.drew ?_)))⟩
                · have E := Lib.hid (eqRows_true (n := k) (m := k) (f := pwaits f a1 a2) (g := pwaits (offOf f a3 a4) a1 a2) ⟨rfl, fun j _ => off_waits f a3 a4 (by omega) (by omega) j⟩)
                  have p1 : 1 ≤ a1 := by omega
                  have p2 : 1 ≤ a2 := by omega
                  have q1 := b1.2
                  have q2 := b2.2
                  clear c6
                  go_wp2_with fail
                  refine (pright_any ao k co _ _ hoff (by omega)).mono ?_
                  rintro e w1 ⟨rfl, os_2, d_2, rfl⟩
                  rw [HR5.out]
                  go_wp2_with fail
                  refine (pwaits_any a0 k cap0 f _ (by repeat (first | (with_reducible assumption) | (with_reducible exact RowC.nil) | (with_reducible apply RowC.drewN) | (with_reducible apply RowC.drew) | (with_reducible apply RowC.more) | (with_reducible apply RowC.alloc))) (by omega) HP.out a1 a2 p1 q1 p2 q2).mono ?_
                  rintro e w1 ⟨a_3, c_3, rfl, hc_3, hr_3, hb_3⟩
                  obtain ⟨os_3, d_3, rfl⟩ := More.of_below hb_3
                  clear hb_3
                  go_wp2_with fail
                  refine (pwaits_any ao k co _ _ (by repeat (first | (with_reducible assumption) | (with_reducible exact RowC.nil) | (with_reducible apply RowC.drewN) | (with_reducible apply RowC.drew) | (with_reducible apply RowC.more) | (with_reducible apply RowC.alloc))) (by omega) HP5.out a1 a2 p1 q1 p2 q2).mono ?_
                  rintro e w1 ⟨a_4, c_4, rfl, hc_4, hr_4, hb_4⟩
                  obtain ⟨os_4, d_4, rfl⟩ := More.of_below hb_4
                  clear hb_4
                  go_wp2_with fail
                  refine (equal_any _ _ k k _ _ _ _ _ (by repeat (first | (with_reducible assumption) | (with_reducible exact Row.nil) | (with_reducible apply Row.drewN) | (with_reducible apply Row.drew) | (with_reducible apply Row.more) | (with_reducible apply Row.alloc))) (by repeat (first | (with_reducible assumption) | (with_reducible exact Row.nil) | (with_reducible apply Row.drewN) | (with_reducible apply Row.drew) | (with_reducible apply Row.more) | (with_reducible apply Row.alloc))) (by omega) (by omega)).mono ?_
                  rintro e w1 ⟨rfl, os_5, d_5, rfl⟩
                  rw [E.out]
                  go_wp2
                  go_ret
                  exact ⟨rfl, below_then hbr hsr (by repeat (first | (with_reducible assumption) | (with_reducible exact More.refl _) | (with_reducible refine More.alloc ?_ _) | (with_reducible refine More.more ?_ _ _) | (with_reducible refine More.drewN ?_ _) | (with_reducible refine More.drew ?_)))⟩
              · have c5' : pRight k (offOf f a3 a4) = false := by simpa using c5
                have HR5 := Lib.hid c5'
                clear c5 c5'
                go_wp2_with fail
                refine (pright_any ao k co _ _ hoff (by omega)).mono ?_
                rintro e w1 ⟨rfl, os_2, d_2, rfl⟩
                rw [HR5.out]
                go_wp2
                go_ret
                exact ⟨rfl, below_then hbr hsr (by repeat (first | (with_reducible assumption) | (with_reducible exact More.refl _) | (with_reducible refine More.alloc ?_ _) | (with_reducible refine More.more ?_ _ _) | (with_reducible refine More.drewN ?_ _) | (with_reducible refine More.drew ?_)))⟩
        · have c3' : pRight len0 f = false := by simpa using c3
          have HR := Lib.hid c3'
          clear c3 c3'
          go_enter Try.func7, Try.ntmps7
          go_wp2_with (go_at_call 18; refine (clock_alive _).mono ?_; rintro e w' ⟨rfl, os, n_, rfl⟩)
          refine (pright_any a0 len0 cap0 f _ (by repeat (first | (with_reducible assumption) | (with_reducible exact RowC.nil) | (with_reducible apply RowC.drewN) | (with_reducible apply RowC.drew) | (with_reducible apply RowC.more) | (with_reducible apply RowC.alloc))) (by omega)).mono ?_
          rintro e w1 ⟨rfl, os_1, d_1, rfl⟩
          rw [HR.out]
          go_wp2
          go_ret
          exact ⟨rfl, More.below (by repeat (first | (with_reducible assumption) | (with_reducible exact More.refl _) | (with_reducible refine More.alloc ?_ _) | (with_reducible refine More.more ?_ _ _) | (with_reducible refine More.drewN ?_ _) | (with_reducible refine More.drew ?_)))⟩
end Go.Proofs.Ytmlkebemkibipaa
