/- VerdictStarves: for every input the law returns true. Conditions: none. -/
import Derived.Test.YtehlgomjgmabeaaVdCl
import Derived.Test.YtehlgomjgmabeaaIsFlat
set_option linter.unusedVariables false
set_option linter.unusedSimpArgs false
namespace Go.Proofs.Ytehlgomjgmabeaa
open Go.RowKit Go.Shelf Go.Tide
set_option linter.unusedVariables false
set_option linter.unusedSimpArgs false
theorem rowC_from2 {w : World} {C : Nat} {a : Option Addr} {n c i d : Nat} {g : Nat → Nat → Int} (h : RowC w C a n g) (hd : i + d ≤ n) (hc : n ≤ c) : RowC w C (if c = i then a else Option.map (fun x => x.add (i * C)) a) d (fun k => g (i + k)) := by
  intro h0
  obtain ⟨b, off, rfl, hb, hce⟩ := h (by omega)
  refine ⟨b, off + i * C, ?_, hb, fun k j hk hj => ?_⟩
  · rw [if_neg (by omega)]
    show some ((⟨b, off, none⟩ : Addr).add (i * C)) = _
    rw [Addr.add_lit]
  · have h1 := hce (i + k) j (by omega) hj
    rw [show off + i * C + (k * C + j) = off + ((i + k) * C + j) by rw [Nat.add_mul]; omega]
    exact h1
theorem bsum_vsum2 (r : DRules) (who : Nat) (ratio : Int) (f : Nat → Nat → Int) (i : Nat) : ∀ d, bSum who ratio (fun k => dRows r f (i + k)) d = vSum r who ratio f i d := by
  intro d
  induction d with
  | zero => rfl
  | succ d ih => rw [vsum_succ, ← ih]; rfl
/-- The draws of a run that goes round behind its lead. -/
def runF (ld m : Nat) (lf rf : Nat → Nat → Int) (k j : Nat) : Int := if k < ld then lf k j else rf ((k - ld) % m) j
theorem runF_lead {ld m : Nat} {lf rf : Nat → Nat → Int} {k j : Nat} (h : k < ld) : runF ld m lf rf k j = lf k j := if_pos h
theorem runF_round {ld m : Nat} {lf rf : Nat → Nat → Int} {q k j : Nat} (h : k < m) : runF ld m lf rf (ld + (q * m + k)) j = rf k j := by
  unfold runF
  rw [if_neg (by omega), show ld + (q * m + k) - ld = k + m * q by rw [Nat.mul_comm]; omega, Nat.add_mul_mod_self_left, Nat.mod_eq_of_lt h]
theorem runF_cells0 {ld m : Nat} {lf rf : Nat → Nat → Int} : cellsC 2 ld lf = cellsC 2 (ld + 0 * m) (runF ld m lf rf) := by
  rw [Nat.zero_mul, Nat.add_zero]
  exact cellsC_congr fun k j hk _ => (runF_lead hk).symm
theorem runF_cells {ld m t : Nat} {lf rf : Nat → Nat → Int} : cellsC 2 (ld + t * m) (runF ld m lf rf) ++ cellsC 2 m rf = cellsC 2 (ld + (t + 1) * m) (runF ld m lf rf) := by
  have h := cellsC_add 2 (ld + t * m) (runF ld m lf rf) m
  rw [show ld + (t + 1) * m = ld + t * m + m by rw [Nat.add_mul]; omega, h]
  congr 1
  exact cellsC_congr fun k j hk _ => by rw [Nat.add_assoc]; exact (runF_round hk).symm
set_option maxRecDepth 20000 in
set_option maxHeartbeats 8000000 in
theorem verdictStarves_ok (a0_0 a0_1 : Int) (rate buf J who : Nat) (a2_ a3 : Int) (w : World) (HR : Hid (DRules.ok ⟨a0_0, a0_1, rate, buf, (J : Nat)⟩)) (hw : Hid (who = 0 ∨ who = 1)) (hra : Hid (1 ≤ a2_ ∧ a2_ ≤ 100)) :
    Calls Try.prog 10 #[.agg #[.int .i64 a0_0, .int .i64 a0_1, .int .i64 rate, .int .i64 buf, .int .i64 (J : Nat)], .int .i64 (who : Nat), .int .i64 a2_, .int .i64 a3] w fun e w' => e = .returned (.bool true) ∧ Below w.heap.size w w' := by
  obtain ⟨i0_, hi, hz0, hz1, hz2⟩ := info_parts twoInfo
  go_enter Try.func10, Try.ntmps10
  go_wp2_with (go_at_call 21; refine (verdict_alive _).mono ?_; rintro e w' ⟨rfl, os0, d0, rfl⟩)
  go_wp2_with fail
  have HM0 : Hid (Below w.heap.size w ((w.alloc (.cells #[.int .i64 a0_0, .int .i64 a0_1, .int .i64 rate, .int .i64 buf, .int .i64 (J : Nat)] 24)).more os0 d0)) := More.below (by repeat (first | (with_reducible assumption) | (with_reducible exact More.refl _) | (with_reducible refine More.alloc ?_ _) | (with_reducible refine More.more ?_ _ _) | (with_reducible refine More.drewN ?_ _) | (with_reducible refine More.drew ?_)))
  have hB : Blk ((w.alloc (.cells #[.int .i64 a0_0, .int .i64 a0_1, .int .i64 rate, .int .i64 buf, .int .i64 (J : Nat)] 24)).more os0 d0) w.heap.size 24 #[.int .i64 a0_0, .int .i64 a0_1, .int .i64 rate, .int .i64 buf, .int .i64 (J : Nat)] := (by repeat (first | (with_reducible assumption) | ((with_reducible refine Blk.new' ?_); (simp [Nat.add_assoc]; done)) | (with_reducible refine Blk.alloc ?_ _) | (with_reducible refine Blk.more ?_ _ _) | (with_reducible refine Blk.drew ?_) | (with_reducible refine Blk.drewN ?_ _)))
  generalize ((w.alloc (.cells #[.int .i64 a0_0, .int .i64 a0_1, .int .i64 rate, .int .i64 buf, .int .i64 (J : Nat)] 24)).more os0 d0) = w0 at *
  refine (judge_any ⟨a0_0, a0_1, rate, buf, (J : Nat)⟩ J rfl HR.out who a2_ hw.out hra.out _).mono ?_
  rintro e w1 ⟨hb1, hP⟩
  have HM1 : Hid (Below w.heap.size w w1) := HM0.out.trans (hb1.mono HM0.out.size)
  replace hB := hB.below hb1 hB.lt
  have hs1 := HM1.out.size
  have lB1 := hB.lt
  clear hb1
  rcases hP with ⟨_, rfl⟩ | ⟨M, _, _, _, _, rfl⟩ | ⟨ld, lf, aL, cL, m, rf, a2, c2, _, hst, hld, hm, rfl, hrL, hrR⟩
  · have HM2 : Hid (Below w.heap.size w ((w1.alloc (.cells #[.int .i64 0, .int .i64 0, .slice none 0 0, .slice none 0 0] 60)).setRow w1.heap.size #[.int .i64 0, .int .i64 0, .slice none 0 0, .slice none 0 0])) := HM1.out.trans (newRow_below.mono hs1)
    go_upto_region 4 with (refine wpList_store_row rfl _ _ _ rfl w1.heap.size #[.int .i64 0, .int .i64 0, .slice none 0 0, .slice none 0 0] rfl rfl 60 #[.int .i64 0, .int .i64 0, .slice none 0 0, .slice none 0 0] (Blk.new w1 _ _) (by kernel_rfl) rfl (by simp [Value.oneCell']) ?_)
    generalize ((w1.alloc (.cells #[.int .i64 0, .int .i64 0, .slice none 0 0, .slice none 0 0] 60)).setRow w1.heap.size #[.int .i64 0, .int .i64 0, .slice none 0 0, .slice none 0 0]) = w2 at *
    go_wp2
    go_ret
    exact ⟨rfl, HM2.out⟩
  · have HM2 : Hid (Below w.heap.size w ((w1.alloc (.cells #[.int .i64 0, .int .i64 0, .slice none 0 0, .slice none 0 0] 60)).setRow w1.heap.size #[.int .i64 1, .int .i64 M, .slice none 0 0, .slice none 0 0])) := HM1.out.trans (newRow_below.mono hs1)
    have hV : Blk ((w1.alloc (.cells #[.int .i64 0, .int .i64 0, .slice none 0 0, .slice none 0 0] 60)).setRow w1.heap.size #[.int .i64 1, .int .i64 M, .slice none 0 0, .slice none 0 0]) w1.heap.size 60 #[.int .i64 1, .int .i64 M, .slice none 0 0, .slice none 0 0] := newRow
    go_upto_region 4 with (refine wpList_store_row rfl _ _ _ rfl w1.heap.size #[.int .i64 1, .int .i64 M, .slice none 0 0, .slice none 0 0] rfl rfl 60 #[.int .i64 0, .int .i64 0, .slice none 0 0, .slice none 0 0] (Blk.new w1 _ _) (by kernel_rfl) rfl (by simp [Value.oneCell']) ?_)
    generalize ((w1.alloc (.cells #[.int .i64 0, .int .i64 0, .slice none 0 0, .slice none 0 0] 60)).setRow w1.heap.size #[.int .i64 1, .int .i64 M, .slice none 0 0, .slice none 0 0]) = w2 at *
    have x0 : w2.cell? ⟨w1.heap.size, 0, none⟩ = some (.int .i64 1) := hV.cell 0
    clear hV
    go_wp2
    go_ret
    exact ⟨rfl, HM2.out⟩
  have HST := Lib.hid hst
  clear hst
  have hm1 := HST.out.some_
  obtain ⟨rb, ro, hra2, hrbl, -⟩ := hrR (by omega)
  subst hra2
  go_upto_region 4 with (refine wpList_store_row rfl _ _ _ rfl w1.heap.size #[.int .i64 2, .int .i64 0, .slice aL ld cL, .slice (some ⟨rb, ro, none⟩) m c2] rfl rfl 60 #[.int .i64 0, .int .i64 0, .slice none 0 0, .slice none 0 0] (Blk.new w1 _ _) (by kernel_rfl) rfl (by simp [Value.oneCell']) ?_)
  have hV : Blk ((w1.alloc (.cells #[.int .i64 0, .int .i64 0, .slice none 0 0, .slice none 0 0] 60)).setRow w1.heap.size #[.int .i64 2, .int .i64 0, .slice aL ld cL, .slice (some ⟨rb, ro, none⟩) m c2]) w1.heap.size 60 #[.int .i64 2, .int .i64 0, .slice aL ld cL, .slice (some ⟨rb, ro, none⟩) m c2] := newRow
  have hnb : Below w1.heap.size w1 ((w1.alloc (.cells #[.int .i64 0, .int .i64 0, .slice none 0 0, .slice none 0 0] 60)).setRow w1.heap.size #[.int .i64 2, .int .i64 0, .slice aL ld cL, .slice (some ⟨rb, ro, none⟩) m c2]) := newRow_below
  generalize ((w1.alloc (.cells #[.int .i64 0, .int .i64 0, .slice none 0 0, .slice none 0 0] 60)).setRow w1.heap.size #[.int .i64 2, .int .i64 0, .slice aL ld cL, .slice (some ⟨rb, ro, none⟩) m c2]) = w2 at *
  have hB2 := hB.below hnb lB1
  have hrL2 := hrL.below hnb (Nat.le_refl _)
  have hrR2 := hrR.below hnb (Nat.le_refl _)
  have HM2 : Hid (Below w.heap.size w w2) := HM1.out.trans (hnb.mono hs1)
  have hs2 := HM2.out.size
  clear hnb hB hrL hrR lB1
  generalize w1.heap.size = V at *
  have lV := hV.lt
  have lB := hB2.lt
  have x0 : w2.cell? ⟨V, 0, none⟩ = some (.int .i64 2) := hV.cell 0
  have x2 : w2.cell? ⟨V, 2, none⟩ = some (.slice aL ld cL) := hV.cell 2
  by_cases c0 : a3 < 0
  · have d0 : decide (a3 < 0) = true := by simpa using c0
    go_wp2
    go_ret
    exact ⟨rfl, HM2.out⟩
  have d0 : decide (a3 < 0) = false := by simpa using c0
  by_cases c1 : 20 < a3
  · have d1 : decide (20 < a3) = true := by simpa using c1
    go_wp2
    go_ret
    exact ⟨rfl, HM2.out⟩
  have d1 : decide (20 < a3) = false := by simpa using c1
  go_wp2_with fail
  refine (clone2_any aL ld cL lf _ hrL2 (by omega)).mono ?_
  rintro e w3 ⟨v0, rfl, hown, hb3⟩
  have hB3 := hB2.below hb3 lB
  have hV3 := hV.below hb3 lV
  have HM3 : Hid (Below w.heap.size w w3) := HM2.out.trans (hb3.mono hs2)
  have hs3 := HM3.out.size
  have hsb := hb3.size
  obtain ⟨t, ht⟩ : ∃ t : Nat, a3 = t := ⟨a3.toNat, by omega⟩
  have ht20 : t ≤ 20 := by omega
  subst ht
  have hrR2B := hrR2
  have HB23 : Hid (Below w2.heap.size w2 w3) := hb3
  clear hb3 hrL2 hrR2 hB2 hV x0 x2 c0 c1 d0 d1
  rw [runF_cells0 (ld := ld) (m := m) (lf := lf) (rf := rf)] at hown
  go_wp2_with fail
  obtain ⟨B0, hB0⟩ : ∃ B0, Hid (w2.heap.size = B0) := ⟨_, rfl⟩
  rw [hB0.out] at hown
  have lVB : V < B0 := by rw [← hB0.out]; exact lV
  have lBB : w.heap.size < B0 := by rw [← hB0.out]; exact lB
  have hB0s : B0 ≤ w3.heap.size := by rw [← hB0.out]; exact hsb
  have hm300 : t * m ≤ 20 * 300 := Nat.mul_le_mul ht20 hm
  go_loopw [11, 43] (fun v c wr => ∃ k : Nat, c = .int .i64 k ∧ k ≤ t ∧ wr.ownsRow B0 22 2 v (ld + k * m) (cellsC 2 (ld + k * m) (runF ld m lf rf)) ∧ Below B0 w3 wr) (fun _ c _ => t - (intOf c).toNat)
  case atStart => exact ⟨0, rfl, Nat.zero_le _, by rw [Nat.zero_mul, Nat.add_zero] at hown ⊢; exact hown, Below.refl _ _⟩
  case round =>
    obtain ⟨k, rfl, hk, hown, hbw⟩ := hrel
    have hszw := hbw.size
    by_cases hlt : k < t
    · have tt1 : (k : Int) < (t : Int) := by omega
      have hRw : RowC wr 2 (some ⟨rb, ro, none⟩) m rf := hrR2B.below (HB23.out.trans (by rw [hB0.out]; exact hbw)) (Nat.le_refl _)
      have hkm : k * m ≤ 20 * 300 := Nat.mul_le_mul (by omega) hm
      have x3 : wr.cell? ⟨V, 3, none⟩ = some (.slice (some ⟨rb, ro, none⟩) m c2) := (hV3.below hbw lVB).cell 3
      go_wp2_with (at_builtin; refine wpList_append_own _ rfl (.tmp 45) (.tmp 47) 25 rfl B0 22 i0_ (.agg #[.int .i64 0, .int .i64 0]) 2 16 Try.underlying25 hi hz0 hz1 hz2 rfl (by decide) u11 (ld + k * m) (cellsC 2 (ld + k * m) (runF ld m lf rf)) rfl hown ⟨rb, ro, none⟩ m c2 (cellsC 2 m rf) rfl (cellsC_length 2 m rf) (fun j u hj => by rw [Addr.add_lit]; exact newsC (by omega) hRw j u hj) (cellsC_one 2 m rf) (by simp only [maxLen]; omega) (by omega) (by omega) ?_; intro v' w5 hown5 hgrow5 hnil; clear hnil)
      have hown6 : w5.ownsRow B0 22 2 v' (ld + (k + 1) * m) (cellsC 2 (ld + (k + 1) * m) (runF ld m lf rf)) := by
        rw [← runF_cells, show ld + (k + 1) * m = ld + k * m + m by rw [Nat.add_mul]; omega]
        exact hown5
      have hb5 : Below B0 w3 w5 := hbw.grown hgrow5 (by omega) fun g e => (own_lt hown e).1
      clear hown5 hgrow5 x3 hRw
      go_roundw
      case rel => exact ⟨k + 1, by go_num, by omega, hown6, hb5⟩
      case measure => simp [intOf]; omega
    · obtain rfl : k = t := by omega
      obtain ⟨hall, hsum⟩ := starve_run HST.out (t := k) (f := runF ld m lf rf) (fun k j h => runF_lead h) (fun q k j hq hk => runF_round hk)
      obtain ⟨av, ac, hv, hac⟩ := own_sliceC hown
      subst hv
      obtain ⟨N, hN⟩ : ∃ N, Hid (ld + k * m = N) := ⟨_, rfl⟩
      obtain ⟨D, hD⟩ : ∃ D, Hid (k * m = D) := ⟨_, rfl⟩
      have hND : N - ld = D := by have := hN.out; have := hD.out; omega
      have hldN : ld + D ≤ N := by have := hN.out; have := hD.out; omega
      have hN6 : N ≤ 1048576 := by have := hN.out; omega
      rw [hN.out] at hown hall hac
      rw [hD.out] at hsum
      rw [hN.out]
      obtain ⟨FF, hFF⟩ : ∃ FF, Hid (runF ld m lf rf = FF) := ⟨_, rfl⟩
      rw [hFF.out] at hown hall hsum
      have hrow : RowC wr 2 av N FF := RowC.of_own (by omega) hown
      have HALL := Lib.hid hall
      have HSUM := Lib.hid hsum
      have hB4 := hB3.below hbw lBB
      have hV4 := hV3.below hbw lVB
      have HM4 : Hid (Below w.heap.size w wr) := HM3.out.trans (hbw.mono (Nat.le_of_lt lBB))
      have hs4 := HM4.out.size
      have lB4 := hB4.lt
      have lV4 := hV4.lt
      have f0 : wr.cell? ⟨w.heap.size, 0, none⟩ = _ := hB4.cell 0
      have f1 : wr.cell? ⟨w.heap.size, 1, none⟩ = _ := hB4.cell 1
      have f2 : wr.cell? ⟨w.heap.size, 2, none⟩ = _ := hB4.cell 2
      have f3 : wr.cell? ⟨w.heap.size, 3, none⟩ = _ := hB4.cell 3
      have f4 : wr.cell? ⟨w.heap.size, 4, none⟩ = _ := hB4.cell 4
      clear hall hsum hown hbw hB3 hV3 hlt
      go_wp2_with fail
      refine (play_ok ⟨a0_0, a0_1, rate, buf, (J : Nat)⟩ av N ac FF _ hrow hN6 HR.out HALL.out).mono ?_
      rintro e w5 ⟨ao, co, he, hown, hb5⟩
      obtain ⟨s, hs⟩ : ∃ s, Hid (dRun ⟨a0_0, a0_1, rate, buf, (J : Nat)⟩ FF N = s) := ⟨_, rfl⟩
      rw [hs.out] at he
      have he' : e = .returned (.tuple #[.slice ao N co, .agg (stL s).toArray, .int .i64 0]) := he
      subst he'
      have hro : RowC w5 6 ao N (dRows ⟨a0_0, a0_1, rate, buf, (J : Nat)⟩ FF) := RowC.of_own (by omega) hown
      have hNc : N ≤ co := by
        obtain ⟨a', c', hcc, hcle⟩ := own_sliceC hown
        cases hcc
        exact hcle
      have hV5 := hV4.below hb5 lV4
      have HM5 : Hid (Below w.heap.size w w5) := HM4.out.trans (hb5.mono hs4)
      have hs5 := HM5.out.size
      clear he hown hb5 hrow hB4 hV4 f0 f1 f2 f3 f4 lB4 lV4
      go_upto_region 12 with (refine wpList_store_row rfl _ _ _ rfl w5.heap.size (stL s).toArray rfl rfl 32 #[.int .i64 0, .int .i64 0, .int .i64 0, .int .i64 0, .int .i64 0, .int .i64 0, .int .i64 0, .int .i64 0, .int .i64 0, .int .i64 0, .int .i64 0, .int .i64 0, .int .i64 0, .int .i64 0] (Blk.new w5 _ _) (stL_info s) rfl (stL_one s) ?_)
      have hnb : Below w5.heap.size w5 ((w5.alloc (.cells #[.int .i64 0, .int .i64 0, .int .i64 0, .int .i64 0, .int .i64 0, .int .i64 0, .int .i64 0, .int .i64 0, .int .i64 0, .int .i64 0, .int .i64 0, .int .i64 0, .int .i64 0, .int .i64 0] 32)).setRow w5.heap.size (stL s).toArray) := newRow_below
      generalize ((w5.alloc (.cells #[.int .i64 0, .int .i64 0, .int .i64 0, .int .i64 0, .int .i64 0, .int .i64 0, .int .i64 0, .int .i64 0, .int .i64 0, .int .i64 0, .int .i64 0, .int .i64 0, .int .i64 0, .int .i64 0] 32)).setRow w5.heap.size (stL s).toArray) = w6 at *
      have hro6 := hro.below hnb (Nat.le_refl _)
      have hV6 := hV5.below hnb hV5.lt
      have HM6 : Hid (Below w.heap.size w w6) := HM5.out.trans (hnb.mono hs5)
      have hs6 := HM6.out.size
      have lV6 := hV6.lt
      have x2 : w6.cell? ⟨V, 2, none⟩ = some (.slice aL ld cL) := hV6.cell 2
      obtain ⟨pa, hpa⟩ : ∃ pa, (if co = ld then ao else Option.map (fun x => x.add (ld * 6)) ao) = pa := ⟨_, rfl⟩
      have hpr : RowC w6 6 pa D (fun k => dRows ⟨a0_0, a0_1, rate, buf, (J : Nat)⟩ FF (ld + k)) := by
        rw [← hpa]
        exact rowC_from2 hro6 hldN hNc
      have HQB : Hid (∀ k, k < D → ∀ j, 0 ≤ dRows ⟨a0_0, a0_1, rate, buf, (J : Nat)⟩ FF (ld + k) j ∧ dRows ⟨a0_0, a0_1, rate, buf, (J : Nat)⟩ FF (ld + k) j ≤ 100) := fun k hk j => row_pos HR.out (run_ok HR.out _ (fun q hq => HALL.out q (by omega))) j
      obtain ⟨sm, hsm⟩ : ∃ sm, Hid (bSum who a2_ (fun k => dRows ⟨a0_0, a0_1, rate, buf, (J : Nat)⟩ FF (ld + k)) D = sm) := ⟨_, rfl⟩
      have hle : decide ((k : Int) ≤ sm) = true := by
        have h := HSUM.out
        rw [← bsum_vsum2, hsm.out] at h
        simpa using h
      have u0 : ld ≤ N := by omega
      have u1 : (ld : Int) ≤ (N : Int) := by omega
      have u2 : ld ≤ co := by omega
      clear hnb hro hV5 hV6 hro6
      go_wp2_with (go_at_call 23; refine (tbrings_any pa D (co - ld) (fun k => dRows ⟨a0_0, a0_1, rate, buf, (J : Nat)⟩ FF (ld + k)) who a2_ _ hpr (by omega) hw hra HQB).mono ?_; rintro e w' ⟨rfl, os9, d9, rfl⟩; rw [hsm.out])
      go_wp2
      go_ret
      exact ⟨rfl, below_then HM6.out hs6 (by repeat (first | (with_reducible assumption) | (with_reducible exact More.refl _) | (with_reducible refine More.alloc ?_ _) | (with_reducible refine More.more ?_ _ _) | (with_reducible refine More.drewN ?_ _) | (with_reducible refine More.drew ?_)))⟩
set_option maxRecDepth 20000 in
set_option maxHeartbeats 4000000 in
theorem verdictStarves_bad (a0_0 a0_1 a0_2 a0_3 a0_4 a1 a2_ a3 : Int) (w : World) (hno : Hid (¬ VdOk a0_0 a0_1 a0_2 a0_3 a0_4 a1 a2_)) :
    Calls Try.prog 10 #[.agg #[.int .i64 a0_0, .int .i64 a0_1, .int .i64 a0_2, .int .i64 a0_3, .int .i64 a0_4], .int .i64 a1, .int .i64 a2_, .int .i64 a3] w fun e w' => e = .returned (.bool true) ∧ Below w.heap.size w w' := by
  go_enter Try.func10, Try.ntmps10
  go_wp2_with (go_at_call 21; refine (verdict_alive _).mono ?_; rintro e w' ⟨rfl, os0, d0, rfl⟩)
  go_wp2_with fail
  have HM0 : Hid (Below w.heap.size w ((w.alloc (.cells #[.int .i64 a0_0, .int .i64 a0_1, .int .i64 a0_2, .int .i64 a0_3, .int .i64 a0_4] 24)).more os0 d0)) := More.below (by repeat (first | (with_reducible assumption) | (with_reducible exact More.refl _) | (with_reducible refine More.alloc ?_ _) | (with_reducible refine More.more ?_ _ _) | (with_reducible refine More.drewN ?_ _) | (with_reducible refine More.drew ?_)))
  generalize ((w.alloc (.cells #[.int .i64 a0_0, .int .i64 a0_1, .int .i64 a0_2, .int .i64 a0_3, .int .i64 a0_4] 24)).more os0 d0) = w0 at *
  refine (judge_bad a0_0 a0_1 a0_2 a0_3 a0_4 a1 a2_ _ hno.out).mono ?_
  rintro e w1 ⟨er, her, rfl, hb1⟩
  have HM1 : Hid (Below w.heap.size w w1) := HM0.out.trans (hb1.mono HM0.out.size)
  have g0 : (er != 0) = true := by rcases her with rfl | rfl <;> decide
  have HM2 : Hid (Below w.heap.size w ((w1.alloc (.cells #[.int .i64 0, .int .i64 0, .slice none 0 0, .slice none 0 0] 60)).setRow w1.heap.size #[.int .i64 0, .int .i64 0, .slice none 0 0, .slice none 0 0])) := HM1.out.trans (newRow_below.mono HM1.out.size)
  clear her hb1
  go_upto_region 4 with (refine wpList_store_row rfl _ _ _ rfl w1.heap.size #[.int .i64 0, .int .i64 0, .slice none 0 0, .slice none 0 0] rfl rfl 60 #[.int .i64 0, .int .i64 0, .slice none 0 0, .slice none 0 0] (Blk.new w1 _ _) (by kernel_rfl) rfl (by simp [Value.oneCell']) ?_)
  generalize ((w1.alloc (.cells #[.int .i64 0, .int .i64 0, .slice none 0 0, .slice none 0 0] 60)).setRow w1.heap.size #[.int .i64 0, .int .i64 0, .slice none 0 0, .slice none 0 0]) = w2 at *
  go_wp2
  go_ret
  exact ⟨rfl, HM2.out⟩
theorem verdictStarves_walk (a0_0 a0_1 a0_2 a0_3 a0_4 : Int) (a1 : Int) (a2 : Int) (a3 : Int) (w : World) (b0_0 : InI64 a0_0) (b0_1 : InI64 a0_1) (b0_2 : InI64 a0_2) (b0_3 : InI64 a0_3) (b0_4 : InI64 a0_4) (b1 : InI64 a1) (b2 : InI64 a2) (b3 : InI64 a3) :
    Calls Try.prog 10 #[.agg #[.int .i64 a0_0, .int .i64 a0_1, .int .i64 a0_2, .int .i64 a0_3, .int .i64 a0_4], .int .i64 a1, .int .i64 a2, .int .i64 a3] w fun e w' => e = .returned (.bool true) ∧ Below w.heap.size w w' := by
  by_cases h : VdOk a0_0 a0_1 a0_2 a0_3 a0_4 a1 a2
  · obtain ⟨⟨k0, k1, hn⟩, ⟨hw0, hw1⟩, hr⟩ := h
    have hnn := hn
    obtain ⟨n1, n2, n3, n4, n5, n6⟩ := hnn
    obtain ⟨rate, rfl⟩ : ∃ n : Nat, a0_2 = n := ⟨a0_2.toNat, by omega⟩
    obtain ⟨buf, rfl⟩ : ∃ n : Nat, a0_3 = n := ⟨a0_3.toNat, by omega⟩
    obtain ⟨J, rfl⟩ : ∃ n : Nat, a0_4 = n := ⟨a0_4.toNat, by omega⟩
    obtain ⟨who, rfl⟩ : ∃ n : Nat, a1 = n := ⟨a1.toNat, by omega⟩
    exact verdictStarves_ok a0_0 a0_1 rate buf J who a2 a3 w (Lib.hid ⟨k0, k1, hn⟩) (Lib.hid (by omega)) (Lib.hid hr)
  · exact verdictStarves_bad a0_0 a0_1 a0_2 a0_3 a0_4 a1 a2 a3 w (Lib.hid h)
end Go.Proofs.Ytehlgomjgmabeaa
