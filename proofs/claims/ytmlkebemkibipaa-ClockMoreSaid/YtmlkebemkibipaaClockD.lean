/- ClockMore: for every input the law returns true. Conditions: none. -/
import Derived.Test.YtmlkebemkibipaaClockA
import Derived.Test.YtmlkebemkibipaaClonP
import Derived.Test.YtmlkebemkibipaaSlEqD
set_option linter.unusedVariables false
set_option linter.unusedSimpArgs false
namespace Go.Tide
/-- One number of one element turned. -/
def setC (f : Nat → Nat → Int) (K J : Nat) (v : Int) (k j : Nat) : Int := if k = K ∧ j = J then v else f k j
theorem bestTo_congr {h : Int → Int → Bool} {x y : Nat → Int} {lo : Int} {k : Nat} (e : ∀ j, j ≤ k → x j = y j) : bestTo h x lo k = bestTo h y lo k := by
  induction k with
  | zero => exact e 0 (Nat.le_refl _)
  | succ k ih =>
    have h1 := ih fun j hj => e j (by omega)
    have h2 := e (k + 1) (Nat.le_refl _)
    unfold bestTo
    rw [h1, h2]
theorem partLo_before {part keep : Int} (hp : 1 ≤ part) (hk : 2 ≤ keep) (k : Nat) : partLo part keep (k + 1) ≤ max 0 (k : Int) := by
  unfold partLo
  have h1 := Int.mul_ediv_self_le (x := ((k + 1 : Nat) : Int)) (k := part) (by omega)
  have h2 := Int.mul_le_mul_of_nonneg_left (show ((k + 1 : Nat) : Int) / part + 1 - keep ≤ ((k + 1 : Nat) : Int) / part - 1 by omega) (show 0 ≤ part by omega)
  rw [Int.mul_sub part _ 1] at h2
  omega
theorem waits_last {f : Nat → Nat → Int} {part keep : Int} (hp : 1 ≤ part) (hk : 2 ≤ keep) (k : Nat) : pwaits f part keep (k + 1) = max (pways f (k + 1) - bestTo ltB (pways f) (partLo part keep (k + 1)) k) 0 := by
  have hl := partLo_before hp hk k
  unfold pwaits baseOf
  rw [show bestTo ltB (pways f) (partLo part keep (k + 1)) (k + 1) = if partLo part keep (k + 1) ≤ (k : Int) then (if ltB (bestTo ltB (pways f) (partLo part keep (k + 1)) k) (pways f (k + 1)) = true then bestTo ltB (pways f) (partLo part keep (k + 1)) k else pways f (k + 1)) else pways f (k + 1) from rfl, if_pos (by omega)]
  by_cases hc : ltB (bestTo ltB (pways f) (partLo part keep (k + 1)) k) (pways f (k + 1)) = true
  · rw [if_pos hc]
    have := ltB_iff.1 hc
    omega
  · rw [if_neg hc]
    have := ltB_not.1 (by simpa using hc)
    omega
theorem waits_more {f : Nat → Nat → Int} {part keep more : Int} (hp : 1 ≤ part) (hk : 2 ≤ keep) (hm : 0 ≤ more) (k : Nat) :
    (∀ j, j < k + 1 → pwaits f part keep j = pwaits (setC f (k + 1) 1 (f (k + 1) 1 + more)) part keep j) ∧ pwaits f part keep (k + 1) ≤ pwaits (setC f (k + 1) 1 (f (k + 1) 1 + more)) part keep (k + 1) ∧
    pwaits (setC f (k + 1) 1 (f (k + 1) 1 + more)) part keep (k + 1) ≤ pwaits f part keep (k + 1) + more ∧ (pwaits f part keep (k + 1) = 0 ∨ pwaits (setC f (k + 1) 1 (f (k + 1) 1 + more)) part keep (k + 1) = pwaits f part keep (k + 1) + more) := by
  have hw : ∀ j, j < k + 1 → pways f j = pways (setC f (k + 1) 1 (f (k + 1) 1 + more)) j := fun j hj => by
    unfold pways setC
    rw [if_neg (by omega), if_neg (by omega)]
  have hl : pways (setC f (k + 1) 1 (f (k + 1) 1 + more)) (k + 1) = pways f (k + 1) + more := by
    unfold pways setC
    rw [if_pos ⟨rfl, rfl⟩, if_neg (by omega)]
    omega
  have e1 := waits_last (f := f) hp hk k
  have e2 := waits_last (f := setC f (k + 1) 1 (f (k + 1) 1 + more)) hp hk k
  rw [hl, ← bestTo_congr (x := pways f) (fun j hj => hw j (by omega))] at e2
  refine ⟨fun j hj => ?_, by omega, by omega, by omega⟩
  unfold pwaits baseOf
  rw [← hw j hj, ← bestTo_congr (x := pways f) (fun i hi => hw i (by omega))]
theorem right_more {f : Nat → Nat → Int} {n K : Nat} {more : Int} (h : PRight n f) (hK : K < n) (hm : 0 ≤ more) (hl : f K 1 + more ≤ 1099511627776) : PRight n (setC f K 1 (f K 1 + more)) := by
  intro k hk
  have := h k hk
  have h2 := h K hK
  unfold setC
  by_cases e : k = K
  · subst e
    rw [if_neg (by omega), if_pos ⟨rfl, rfl⟩]
    omega
  · rw [if_neg (by omega), if_neg (by omega)]
    exact this
end Go.Tide
namespace Go
theorem cellsC_set {C n K J : Nat} (f : Nat → Nat → Int) (v : Int) (hK : K < n) (hJ : J < C) : (cellsC C n f).set (K * C + J) (.int .i64 v) = cellsC C n (Tide.setC f K J v) := by
  apply List.ext_getElem?
  intro i
  have hC : 0 < C := by omega
  rw [List.getElem?_set]
  by_cases hi : i < n * C
  · obtain ⟨k, j, hj, rfl⟩ : ∃ k r, r < C ∧ i = k * C + r := ⟨i / C, i % C, Nat.mod_lt _ hC, by rw [Nat.mul_comm]; exact (Nat.div_add_mod i C).symm⟩
    have hk : k < n := by
      rcases Nat.lt_or_ge k n with h | h
      · exact h
      · have := Nat.mul_le_mul_right C h
        omega
    rw [cellsC_get (Tide.setC f K J v) hk hj]
    by_cases e : K * C + J = k * C + j
    · have e1 : K = k := by
        rcases Nat.lt_trichotomy K k with h | h | h
        · have := Nat.mul_le_mul_right C (show K + 1 ≤ k by omega)
          rw [Nat.add_mul] at this
          omega
        · exact h
        · have := Nat.mul_le_mul_right C (show k + 1 ≤ K by omega)
          rw [Nat.add_mul] at this
          omega
      subst e1
      have e2 : J = j := by omega
      subst e2
      rw [if_pos rfl, if_pos (by rw [cellsC_length]; exact hi)]
      simp [Tide.setC]
    · rw [if_neg e, cellsC_get f hk hj]
      have : ¬ (k = K ∧ j = J) := by rintro ⟨rfl, rfl⟩; exact e rfl
      simp [Tide.setC, this]
  · have : ¬ K * C + J = i := by
      have := Nat.mul_le_mul_right C (show K + 1 ≤ n by omega)
      rw [Nat.add_mul] at this
      omega
    rw [if_neg this, List.getElem?_eq_none (by rw [cellsC_length]; omega), List.getElem?_eq_none (by rw [cellsC_length]; omega)]
theorem Row.pre {w : World} {a : Option Addr} {n m : Nat} {f : Nat → Int} (h : Row w a n f) (hm : m ≤ n) : Row w a m f := fun h0 => by
  obtain ⟨b, off, e, hb, hc⟩ := h (by omega)
  exact ⟨b, off, e, hb, fun k hk => hc k (by omega)⟩
end Go
namespace Go.Proofs.Ytmlkebemkibipaa
open Go.RowKit Go.Tide
set_option linter.unusedVariables false
set_option linter.unusedSimpArgs false

set_option maxHeartbeats 2000000 in
theorem clockMore_walk (a0 : Option Addr) (len0 cap0 : Nat) (z0 : List Int) (a1 : Int) (a2 : Int) (a3 : Int) (w : World) (f0 : IsFlat w a0 len0 cap0 2 z0) (r0 : cap0 * 16 ≤ 140737488351232) (b1 : InI64 a1) (b2 : InI64 a2) (b3 : InI64 a3) :
    Calls Try.prog 10 #[.slice a0 len0 cap0, .int .i64 a1, .int .i64 a2, .int .i64 a3] w fun e w' => e = .returned (.bool true) ∧ Below w.heap.size w w' := by
  have hle := f0.le'
  have hs := f0.rowC (by omega)
  have hfb : ∀ k j, InI64 ((fun k j => z0.getD (k * 2 + j) 0) k j) := fun k j => f0.boundC _
  generalize (fun k j => z0.getD (k * 2 + j) 0) = f at hs hfb
  clear f0
  have q1 := b1.2
  have q2 := b2.2
  have hlb : len0 ≤ 8796093022208 := by omega
  by_cases c0 : len0 ≤ 1
  · have d0 : decide ((len0 : Int) - 1 < 1) = true := by simp; omega
    go_enter Try.func10, Try.ntmps10
    go_wp2_with (go_at_call 18; refine (clock_alive _).mono ?_; rintro e w' ⟨rfl, os, n_, rfl⟩)
    go_ret
    exact ⟨rfl, More.below (by repeat (first | (with_reducible assumption) | (with_reducible exact More.refl _) | (with_reducible refine More.alloc ?_ _) | (with_reducible refine More.more ?_ _ _) | (with_reducible refine More.drewN ?_ _) | (with_reducible refine More.drew ?_)))⟩
  · obtain ⟨N, rfl⟩ : ∃ N, len0 = N + 1 := ⟨len0 - 1, by omega⟩
    have hN1 : 1 ≤ N := by omega
    obtain ⟨M, HN⟩ : ∃ M, Hid (N = M + 1) := ⟨N - 1, show _ = _ by omega⟩
    clear c0
    have d0 : decide ((N : Int) < 1) = false := by simp; omega
    by_cases c1 : a1 < 1
    · have d1 : decide (a1 < 1) = true := by simpa using c1
      go_enter Try.func10, Try.ntmps10
      go_wp2_with (go_at_call 18; refine (clock_alive _).mono ?_; rintro e w' ⟨rfl, os, n_, rfl⟩)
      go_ret
      exact ⟨rfl, More.below (by repeat (first | (with_reducible assumption) | (with_reducible exact More.refl _) | (with_reducible refine More.alloc ?_ _) | (with_reducible refine More.more ?_ _ _) | (with_reducible refine More.drewN ?_ _) | (with_reducible refine More.drew ?_)))⟩
    · have d1 : decide (a1 < 1) = false := by simpa using c1
      by_cases c2 : a2 < 2
      · have d2 : decide (a2 < 2) = true := by simpa using c2
        go_enter Try.func10, Try.ntmps10
        go_wp2_with (go_at_call 18; refine (clock_alive _).mono ?_; rintro e w' ⟨rfl, os, n_, rfl⟩)
        go_ret
        exact ⟨rfl, More.below (by repeat (first | (with_reducible assumption) | (with_reducible exact More.refl _) | (with_reducible refine More.alloc ?_ _) | (with_reducible refine More.more ?_ _ _) | (with_reducible refine More.drewN ?_ _) | (with_reducible refine More.drew ?_)))⟩
      · have d2 : decide (a2 < 2) = false := by simpa using c2
        by_cases c3 : a3 < 0
        · have d3 : decide (a3 < 0) = true := by simpa using c3
          go_enter Try.func10, Try.ntmps10
          go_wp2_with (go_at_call 18; refine (clock_alive _).mono ?_; rintro e w' ⟨rfl, os, n_, rfl⟩)
          go_ret
          exact ⟨rfl, More.below (by repeat (first | (with_reducible assumption) | (with_reducible exact More.refl _) | (with_reducible refine More.alloc ?_ _) | (with_reducible refine More.more ?_ _ _) | (with_reducible refine More.drewN ?_ _) | (with_reducible refine More.drew ?_)))⟩
        · have d3 : decide (a3 < 0) = false := by simpa using c3
          by_cases c4 : 1099511627776 < a3
          · have d4 : decide (1099511627776 < a3) = true := by simpa using c4
            go_enter Try.func10, Try.ntmps10
            go_wp2_with (go_at_call 18; refine (clock_alive _).mono ?_; rintro e w' ⟨rfl, os, n_, rfl⟩)
            go_ret
            exact ⟨rfl, More.below (by repeat (first | (with_reducible assumption) | (with_reducible exact More.refl _) | (with_reducible refine More.alloc ?_ _) | (with_reducible refine More.more ?_ _ _) | (with_reducible refine More.drewN ?_ _) | (with_reducible refine More.drew ?_)))⟩
          · have d4 : decide (1099511627776 < a3) = false := by simpa using c4
            by_cases c5 : pRight (N + 1) f = true
            · have HR := Lib.hid c5
              have HP := Lib.hid (pRight_iff.1 c5)
              clear c5
              obtain ⟨b, off, x, y, rfl, hb, hcx, hcy, hx, hy⟩ := hs.at2 (show N < N + 1 by omega)
              have hxb := HP.out N (by omega)
              rw [← hx.out, ← hy.out] at hxb
              obtain ⟨⟨x1, x2⟩, y1, y2⟩ := hxb
              have t0 : (0 : Int) ≤ (N : Int) := by omega
              have t1 : (N : Int) < (N : Int) + 1 := by omega
              by_cases c6 : 1099511627776 < y + a3
              · have d6 : decide (1099511627776 < y + a3) = true := by simpa using c6
                go_enter Try.func10, Try.ntmps10
                go_wp2_with (go_at_call 18; refine (clock_alive _).mono ?_; rintro e w' ⟨rfl, os, n_, rfl⟩)
                refine (pright_any _ (N + 1) cap0 f _ (by repeat (first | (with_reducible assumption) | (with_reducible exact RowC.nil) | (with_reducible apply RowC.drewN) | (with_reducible apply RowC.drew) | (with_reducible apply RowC.more) | (with_reducible apply RowC.alloc))) (by omega)).mono ?_
                rintro e w1 ⟨rfl, os_1, d_1, rfl⟩
                rw [HR.out]
                go_wp2
                go_ret
                exact ⟨rfl, More.below (by repeat (first | (with_reducible assumption) | (with_reducible exact More.refl _) | (with_reducible refine More.alloc ?_ _) | (with_reducible refine More.more ?_ _ _) | (with_reducible refine More.drewN ?_ _) | (with_reducible refine More.drew ?_)))⟩
              · have d6 : decide (1099511627776 < y + a3) = false := by simpa using c6
                have HP2 := Lib.hid (right_more (K := N) (more := a3) HP.out (by omega) (by omega) (by rw [← hy.out]; omega))
                have HW : Hid ((∀ j, j < N → pwaits f a1 a2 j = pwaits (setC f N 1 (f N 1 + a3)) a1 a2 j) ∧ pwaits f a1 a2 N ≤ pwaits (setC f N 1 (f N 1 + a3)) a1 a2 N ∧
                    pwaits (setC f N 1 (f N 1 + a3)) a1 a2 N ≤ pwaits f a1 a2 N + a3 ∧ (pwaits f a1 a2 N = 0 ∨ pwaits (setC f N 1 (f N 1 + a3)) a1 a2 N = pwaits f a1 a2 N + a3)) := by
                  rw [HN.out]
                  exact waits_more (by omega) (by omega) (by omega) M
                have E := Lib.hid (eqRows_true (n := N) (m := N) (f := pwaits f a1 a2) (g := pwaits (setC f N 1 (f N 1 + a3)) a1 a2) ⟨rfl, HW.out.1⟩)
                have HA : Hid (-2199023255552 ≤ pwaits f a1 a2 N ∧ pwaits f a1 a2 N ≤ 4398046511104) := by
                  have h1 := pways_bounds HP.out (show N < N + 1 by omega)
                  have h2 := base_bounds (x := pways f) (part := a1) (keep := a2) (by omega) (by omega) (show N < N + 1 by omega) fun j hj => pways_bounds HP.out hj
                  have h3 := waits_last (f := f) (part := a1) (keep := a2) (by omega) (by omega) M
                  rw [← HN.out] at h3
                  unfold pwaits at *
                  show _ ∧ _
                  omega
                have p1 : 1 ≤ a1 := by omega
                have p2 : 1 ≤ a2 := by omega
                go_enter Try.func10, Try.ntmps10
                go_wp2_with (go_at_call 18; refine (clock_alive _).mono ?_; rintro e w' ⟨rfl, os, n_, rfl⟩)
                refine (pright_any _ (N + 1) cap0 f _ (by repeat (first | (with_reducible assumption) | (with_reducible exact RowC.nil) | (with_reducible apply RowC.drewN) | (with_reducible apply RowC.drew) | (with_reducible apply RowC.more) | (with_reducible apply RowC.alloc))) (by omega)).mono ?_
                rintro e w1 ⟨rfl, os_1, d_1, rfl⟩
                rw [HR.out]
                go_wp2_with fail
                refine (pwaits_any _ (N + 1) cap0 f _ (by repeat (first | (with_reducible assumption) | (with_reducible exact RowC.nil) | (with_reducible apply RowC.drewN) | (with_reducible apply RowC.drew) | (with_reducible apply RowC.more) | (with_reducible apply RowC.alloc))) (by omega) HP.out a1 a2 p1 q1 p2 q2).mono ?_
                rintro e w1 ⟨a_3, c_3, rfl, hc_3, hr_3, hb_3⟩
                obtain ⟨os_3, d_3, rfl⟩ := More.of_below hb_3
                clear hb_3
                go_wp2_with fail
                refine (clonep_any b off (N + 1) cap0 f _ (by repeat (first | (with_reducible assumption) | (with_reducible exact RowC.nil) | (with_reducible apply RowC.drewN) | (with_reducible apply RowC.drew) | (with_reducible apply RowC.more) | (with_reducible apply RowC.alloc))) (by omega) (by omega)).mono ?_
                rintro e w1 ⟨g, cg, rfl, hcg, hown, hbc⟩
                have hmz : More w (((w.more os n_).more os_1 d_1).more os_3 d_3) := (by repeat (first | (with_reducible assumption) | (with_reducible exact More.refl _) | (with_reducible refine More.alloc ?_ _) | (with_reducible refine More.more ?_ _ _) | (with_reducible refine More.drewN ?_ _) | (with_reducible refine More.drew ?_)))
                have hAz : Row (((w.more os n_).more os_1 d_1).more os_3 d_3) a_3 (N + 1) (pwaits f a1 a2) := (by repeat (first | (with_reducible assumption) | (with_reducible exact Row.nil) | (with_reducible apply Row.drewN) | (with_reducible apply Row.drew) | (with_reducible apply Row.more) | (with_reducible apply Row.alloc)))
                clear hr_3
                generalize ((w.more os n_).more os_1 d_1).more os_3 d_3 = wz at *
                have hA1 : Row w1 a_3 (N + 1) (pwaits f a1 a2) := hAz.below hbc (Nat.le_refl _)
                have hgb : wz.heap.size ≤ g := (hown.lt g rfl).1
                have hcell : w1.cell? ⟨g, N * 2 + 1, none⟩ = some (.int .i64 y) := by
                  rw [hown.cellAt (N * 2 + 1) (by omega), cellsC_get f (by omega) (by omega), hy.out]
                have hfro := hown.frozenAt (N * 2 + 1)
                go_wp2_with fail
                have hst := (hown.stored (N * 2 + 1) (.int .i64 (y + a3))).1
                rw [cellsC_set f (y + a3) (by omega) (by omega)] at hst
                have hB0 := RowC.of_own (by omega) hst
                rw [hy.out] at hB0
                have hbW : Below wz.heap.size wz (w1.setCell ⟨g, N * 2 + 1, none⟩ (.int .i64 (f N 1 + a3))) := hbc.setCell (p := ⟨g, N * 2 + 1, none⟩) hgb _
                rw [hy.out]
                clear hst hown hcell hfro hA1 hbc hgb hx hy hcx hcy hs
                generalize w1.setCell ⟨g, N * 2 + 1, none⟩ (.int .i64 (f N 1 + a3)) = w2 at *
                have hA2 : Row w2 a_3 (N + 1) (pwaits f a1 a2) := hAz.below hbW (Nat.le_refl _)
                refine (pwaits_any _ (N + 1) cg _ _ hB0 (by omega) HP2.out a1 a2 p1 q1 p2 q2).mono ?_
                rintro e w3 ⟨a_4, c_4, rfl, hc_4, hr_4, hb_4⟩
                obtain ⟨os_4, d_4, rfl⟩ := More.of_below hb_4
                have hA4 : Row (w2.more os_4 d_4) a_3 (N + 1) (pwaits f a1 a2) := (by repeat (first | (with_reducible assumption) | (with_reducible exact Row.nil) | (with_reducible apply Row.drewN) | (with_reducible apply Row.drew) | (with_reducible apply Row.more) | (with_reducible apply Row.alloc)))
                have hbF : Below w.heap.size w (w2.more os_4 d_4) := below_then (hmz.below.trans (hbW.mono hmz.below.size)) (by have := hmz.below.size; have := hbW.size; omega) (by repeat (first | (with_reducible assumption) | (with_reducible exact More.refl _) | (with_reducible refine More.alloc ?_ _) | (with_reducible refine More.more ?_ _ _) | (with_reducible refine More.drewN ?_ _) | (with_reducible refine More.drew ?_)))
                clear hb_4 hA2 hAz hB0 hbW hmz
                generalize w2.more os_4 d_4 = wq at *
                obtain ⟨pA, oA, A, rfl, gA, kA, hA⟩ := hA4.at_ (show N < N + 1 by omega)
                obtain ⟨pB, oB, B, rfl, gB, kB, hB⟩ := hr_4.at_ (show N < N + 1 by omega)
                have HQ : Hid (∀ m c c', Calls Try.prog 14 #[.slice (some ⟨pA, oA, none⟩) N c, .slice (some ⟨pB, oB, none⟩) N c'] (wq.drewN m) fun e w' => e = .returned (.bool true) ∧ ∃ m, w' = wq.drewN m) := fun m c c' => by
                  rw [← E.out]
                  exact (equal_d _ _ N N c c' _ _ _ ((hA4.pre (by omega)).drewN m) ((hr_4.pre (by omega)).drewN m) (by omega) (by omega)).mono fun e w' ⟨he, d, hd⟩ => ⟨he, m + d, by rw [hd]; simp [World.drewN, Nat.add_assoc]⟩
                have hw := HW.out.2
                rw [← hA.out, ← hB.out] at hw
                have ha := HA.out
                rw [← hA.out] at ha
                obtain ⟨w1_, w2_, w3_⟩ := hw
                obtain ⟨ha1, ha2⟩ := ha
                have kw : IntKind.i64.wrap (A + a3) = A + a3 := IntWalk.i64_in _ (by omega)
                have e1 : decide (A ≤ B) = true := by simp; omega
                have e2 : decide (B ≤ A + a3) = true := by simp; omega
                have u1 : (N : Int) ≤ (c_3 : Int) := by omega
                have u2 : (N : Int) ≤ (c_4 : Int) := by omega
                clear hA4 hr_4 E
                by_cases hA0 : A = 0
                · have e3 : (A == 0) = true := by simpa using hA0
                  clear hA0 w1_ w2_ w3_
                  go_wp2_with fail
                  go_quiet ((go_at_call 14; exact HQ.out _ _ _))
                  go_wp2_with fail
                  go_quiet (fail)
                  go_wp2
                  go_ret
                  exact ⟨rfl, (hbF.drewN _).drewN _⟩
                · have e3 : (A == 0) = false := by simpa using hA0
                  have hBA : B = A + a3 := by omega
                  have e4 : (B == A + a3) = true := by simpa using hBA
                  clear hA0 w1_ w2_ w3_ hBA
                  go_wp2_with fail
                  go_quiet ((go_at_call 14; exact HQ.out _ _ _))
                  go_wp2_with fail
                  go_quiet (fail)
                  go_wp2
                  go_ret
                  exact ⟨rfl, (hbF.drewN _).drewN _⟩
            · have c5' : pRight (N + 1) f = false := by simpa using c5
              have HR := Lib.hid c5'
              clear c5 c5'
              go_enter Try.func10, Try.ntmps10
              go_wp2_with (go_at_call 18; refine (clock_alive _).mono ?_; rintro e w' ⟨rfl, os, n_, rfl⟩)
              refine (pright_any a0 (N + 1) cap0 f _ (by repeat (first | (with_reducible assumption) | (with_reducible exact RowC.nil) | (with_reducible apply RowC.drewN) | (with_reducible apply RowC.drew) | (with_reducible apply RowC.more) | (with_reducible apply RowC.alloc))) (by omega)).mono ?_
              rintro e w1 ⟨rfl, os_1, d_1, rfl⟩
              rw [HR.out]
              go_wp2
              go_ret
              exact ⟨rfl, More.below (by repeat (first | (with_reducible assumption) | (with_reducible exact More.refl _) | (with_reducible refine More.alloc ?_ _) | (with_reducible refine More.more ?_ _ _) | (with_reducible refine More.drewN ?_ _) | (with_reducible refine More.drew ?_)))⟩
end Go.Proofs.Ytmlkebemkibipaa
