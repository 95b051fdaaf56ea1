/- DuelParts: rules that are right. Conditions: none. -/
import Derived.Test.YtehlgomjgmabeaaDpPre
set_option linter.unusedVariables false
set_option linter.unusedSimpArgs false
namespace Go.Proofs.Ytehlgomjgmabeaa
open Go.RowKit Go.Shelf Go.Tide
set_option linter.unusedVariables false
set_option linter.unusedSimpArgs false
set_option maxRecDepth 20000 in
set_option maxHeartbeats 16000000 in
theorem duelParts_ok (a0_0 a0_1 a0_4 : Int) (rate buf : Nat) (a1 : Option Addr) (len1 cap1 : Nat) (f : Nat → Nat → Int) (a2 : Option Addr) (len2 cap2 : Nat) (g : Nat → Nat → Int) (w : World) (HR : Hid (DRules.ok ⟨a0_0, a0_1, rate, buf, a0_4⟩)) (h1 : RowC w 2 a1 len1 f) (h2 : RowC w 2 a2 len2 g) (s12 : len1 + len2 ≤ 1048576) :
    Calls Try.prog 3 #[.agg #[.int .i64 a0_0, .int .i64 a0_1, .int .i64 rate, .int .i64 buf, .int .i64 a0_4], .slice a1 len1 cap1, .slice a2 len2 cap2] w fun e w' => e = .returned (.bool true) ∧ Below w.heap.size w w' := by
  go_enter Try.func3, Try.ntmps3
  go_wp2_with (go_at_call 11; refine (duel_alive _).mono ?_; rintro e w' ⟨rfl, os0, d0, rfl⟩)
  go_wp2_with fail
  have HM0 : Hid (Below w.heap.size w ((w.alloc (.cells #[.int .i64 a0_0, .int .i64 a0_1, .int .i64 rate, .int .i64 buf, .int .i64 a0_4] 24)).more os0 d0)) := More.below (by repeat (first | (with_reducible assumption) | (with_reducible exact More.refl _) | (with_reducible refine More.alloc ?_ _) | (with_reducible refine More.more ?_ _ _) | (with_reducible refine More.drewN ?_ _) | (with_reducible refine More.drew ?_)))
  have hB : Blk ((w.alloc (.cells #[.int .i64 a0_0, .int .i64 a0_1, .int .i64 rate, .int .i64 buf, .int .i64 a0_4] 24)).more os0 d0) w.heap.size 24 #[.int .i64 a0_0, .int .i64 a0_1, .int .i64 rate, .int .i64 buf, .int .i64 a0_4] := (by repeat (first | (with_reducible assumption) | ((with_reducible refine Blk.new' ?_); (simp [Nat.add_assoc]; done)) | (with_reducible refine Blk.alloc ?_ _) | (with_reducible refine Blk.more ?_ _ _) | (with_reducible refine Blk.drew ?_) | (with_reducible refine Blk.drewN ?_ _)))
  have hz1 : RowC ((w.alloc (.cells #[.int .i64 a0_0, .int .i64 a0_1, .int .i64 rate, .int .i64 buf, .int .i64 a0_4] 24)).more os0 d0) 2 a1 len1 f := (by repeat (first | (with_reducible assumption) | (with_reducible exact RowC.nil) | (with_reducible apply RowC.drewN) | (with_reducible apply RowC.drew) | (with_reducible apply RowC.more) | (with_reducible apply RowC.alloc)))
  have hz2 : RowC ((w.alloc (.cells #[.int .i64 a0_0, .int .i64 a0_1, .int .i64 rate, .int .i64 buf, .int .i64 a0_4] 24)).more os0 d0) 2 a2 len2 g := (by repeat (first | (with_reducible assumption) | (with_reducible exact RowC.nil) | (with_reducible apply RowC.drewN) | (with_reducible apply RowC.drew) | (with_reducible apply RowC.more) | (with_reducible apply RowC.alloc)))
  have hlw : w.heap.size < ((w.alloc (.cells #[.int .i64 a0_0, .int .i64 a0_1, .int .i64 rate, .int .i64 buf, .int .i64 a0_4] 24)).more os0 d0).heap.size := hB.lt
  generalize ((w.alloc (.cells #[.int .i64 a0_0, .int .i64 a0_1, .int .i64 rate, .int .i64 buf, .int .i64 a0_4] 24)).more os0 d0) = w0 at *
  have hz20 : Hid (RowC w0 2 a2 len2 g) := hz2
  have hB00 : Hid (Blk w0 w.heap.size 24 #[.int .i64 a0_0, .int .i64 a0_1, .int .i64 rate, .int .i64 buf, .int .i64 a0_4]) := hB
  refine (play_all ⟨a0_0, a0_1, rate, buf, a0_4⟩ a1 len1 cap1 f _ hz1 (by omega) HR.out).mono ?_
  rintro e w1 ⟨ao, no, co, s, er, rfl, HP, hb1⟩
  have HM1 : Hid (Below w.heap.size w w1) := HM0.out.trans (hb1.mono HM0.out.size)
  have hs01 := hb1.size
  have HB01 : Hid (Below w0.heap.size w0 w1) := hb1
  replace hB := hB.below hb1 hB.lt
  replace hz1 := hz1.below hb1 (Nat.le_refl _)
  replace hz2 := hz2.below hb1 (Nat.le_refl _)
  clear hb1 h1 h2
  go_upto_region 4 with (refine wpList_store_row rfl _ _ _ rfl w1.heap.size (stL s).toArray rfl rfl 32 #[.int .i64 0, .int .i64 0, .int .i64 0, .int .i64 0, .int .i64 0, .int .i64 0, .int .i64 0, .int .i64 0, .int .i64 0, .int .i64 0, .int .i64 0, .int .i64 0, .int .i64 0, .int .i64 0] (Blk.new w1 _ _) (stL_info s) rfl (stL_one s) ?_)
  have hS : Blk ((w1.alloc (.cells #[.int .i64 0, .int .i64 0, .int .i64 0, .int .i64 0, .int .i64 0, .int .i64 0, .int .i64 0, .int .i64 0, .int .i64 0, .int .i64 0, .int .i64 0, .int .i64 0, .int .i64 0, .int .i64 0] 32)).setRow w1.heap.size (stL s).toArray) w1.heap.size 32 (stL s).toArray := newRow
  have hnb : Below w1.heap.size w1 ((w1.alloc (.cells #[.int .i64 0, .int .i64 0, .int .i64 0, .int .i64 0, .int .i64 0, .int .i64 0, .int .i64 0, .int .i64 0, .int .i64 0, .int .i64 0, .int .i64 0, .int .i64 0, .int .i64 0, .int .i64 0] 32)).setRow w1.heap.size (stL s).toArray) := newRow_below
  generalize ((w1.alloc (.cells #[.int .i64 0, .int .i64 0, .int .i64 0, .int .i64 0, .int .i64 0, .int .i64 0, .int .i64 0, .int .i64 0, .int .i64 0, .int .i64 0, .int .i64 0, .int .i64 0, .int .i64 0, .int .i64 0] 32)).setRow w1.heap.size (stL s).toArray) = w2 at *
  have HM2 : Hid (Below w.heap.size w w2) := HM1.out.trans (hnb.mono HM1.out.size)
  have HB12 : Hid (Below w1.heap.size w1 w2) := hnb
  replace hB := hB.below hnb hB.lt
  replace hz1 := hz1.below hnb (Nat.le_refl _)
  replace hz2 := hz2.below hnb (Nat.le_refl _)
  clear hnb
  obtain ⟨SB, hSB⟩ : ∃ SB, Hid (w1.heap.size = SB) := ⟨_, rfl⟩
  rw [hSB.out] at hS ⊢
  have lS := hS.lt
  have lR := hB.lt
  have hrR : w2.rangeAt w.heap.size 0 [.int .i64 a0_0, .int .i64 a0_1, .int .i64 rate, .int .i64 buf, .int .i64 a0_4] := blk_range (cs := [.int .i64 a0_0, .int .i64 a0_1, .int .i64 rate, .int .i64 buf, .int .i64 a0_4]) hB
  refine wp_region_held_drew (S := fun w' => Below w2.heap.size w2 w') (by kernel_rfl) ?_ (fun hHeld => ?_)
  · exact (Below.refl _ _).drew
  generalize w2.drew = q0 at *
  refine wpAnyH_take (i := 0) (v := .agg #[.int .i64 a0_0, .int .i64 a0_1, .int .i64 rate, .int .i64 buf, .int .i64 a0_4]) rfl (by kernel_rfl) (by kernel_rfl) (by kernel_rfl) (fun _ _ _ h => h) (yieldsIf_load_mid (by rfl) _ _ rfl w.heap.size 0 rfl [.int .i64 a0_0, .int .i64 a0_1, .int .i64 rate, .int .i64 buf, .int .i64 a0_4] _ (fun w' hw => range_below hrR hw lR) Try.underlying24 rfl (by kernel_rfl)) (by assumption) ?_
  try simp only [lay]
  refine tk0 1 rfl ?_; try simp only [lay]
  refine tk0 2 rfl ?_; try simp only [lay]
  refine wpAnyH_ready (rs := [3, 10]) (by kernel_rfl) (by simp) ?_
  refine AllReadyH.cons rfl (fun K hK => ?_) (AllReadyH.cons rfl (fun K hK => ?_) AllReadyH.nil)
  · go_simp
    have hL : Blk (q0.alloc (.cells #[.slice a1 len1 cap1, .slice a2 len2 cap2] 25)) q0.heap.size 25 #[.slice a1 len1 cap1, .slice a2 len2 cap2] := Blk.new _ _ _
    have hh : Below w2.heap.size w2 (q0.alloc (.cells #[.slice a1 len1 cap1, .slice a2 len2 cap2] 25)) := hHeld.alloc hHeld.size _
    clear hHeld
    refine hK.out _ _ ?_ (fun hHeld => ?_)
    · exact hh
    clear hK K hh
    try simp only [lay]
    generalize (q0.alloc (.cells #[.slice a1 len1 cap1, .slice a2 len2 cap2] 25)) = q1 at *
    generalize q0.heap.size = LB at *
    refine wpAnyH_ready (rs := [4, 10]) (by kernel_rfl) (by simp) ?_
    refine AllReadyH.cons rfl (fun K hK => ?_) (AllReadyH.cons rfl (fun K hK => ?_) AllReadyH.nil)
    · go_simp
      refine (concat2 LB a1 len1 cap1 f a2 len2 cap2 g _ (hL.cell 0) (hL.cell 1) hL.lt (hz1.below hHeld (Nat.le_refl _)) (hz2.below hHeld (Nat.le_refl _)) (by omega) (by omega)).mono ?_
      rintro e q2 ⟨v0, rfl, hown0, hbc⟩
      obtain ⟨av, ac, hv0, -⟩ := own_sliceC hown0
      subst hv0
      have hCF : RowC q2 2 av (len1 + len2) (catF len1 f g) := by
        rw [cat_cells] at hown0
        exact RowC.of_own (by omega) hown0
      have hh : Below w2.heap.size w2 q2 := hHeld.trans (hbc.mono hHeld.size)
      clear hHeld hown0 hbc hL
      refine hK.out _ _ ?_ (fun hHeld => ?_)
      · exact hh
      clear hK K hh
      try simp only [lay]
      refine wpAnyH_ready (rs := [5, 10]) (by kernel_rfl) (by simp) ?_
      refine AllReadyH.cons rfl (fun K hK => ?_) (AllReadyH.cons rfl (fun K hK => ?_) AllReadyH.nil)
      · go_simp
        refine (play_all ⟨a0_0, a0_1, rate, buf, a0_4⟩ av (len1 + len2) ac (catF len1 f g) _ hCF (by omega) HR.out).mono ?_
        rintro e q3 ⟨ax, nx, cx, t, er2, rfl, HQ0, hbp⟩
        have HQ : Hid ((dAll ⟨a0_0, a0_1, rate, buf, a0_4⟩ (catF len1 f g) (len1 + len2) ∧ er2 = 0 ∧ nx = len1 + len2 ∧ t = dRun ⟨a0_0, a0_1, rate, buf, a0_4⟩ (catF len1 f g) (len1 + len2) ∧ RowC q3 6 ax (len1 + len2) (dRows ⟨a0_0, a0_1, rate, buf, a0_4⟩ (catF len1 f g)) ∧ (∀ p : Addr, ax = some p → w2.heap.size ≤ p.block ∧ p.block < q3.heap.size)) ∨ (¬ dAll ⟨a0_0, a0_1, rate, buf, a0_4⟩ (catF len1 f g) (len1 + len2) ∧ er2 = 2)) := by
          have hhs := hHeld.size
          rcases HQ0.out with ⟨x1, x2, x3, x4, x5⟩ | h
          · refine .inl ⟨x1, x2, x3, x4, RowC.of_own (by omega) x5, fun p hp => ?_⟩
            subst hp
            have h := own_lt x5 rfl
            exact ⟨by omega, h.2⟩
          · exact .inr h
        have hh : Below w2.heap.size w2 q3 := hHeld.trans (hbp.mono hHeld.size)
        clear hHeld hbp hCF HQ0
        refine hK.out _ _ ?_ (fun hHeld => ?_)
        · exact hh
        clear hK K hh
        try simp only [lay]
        refine tk0 6 rfl ?_; try simp only [lay]
        refine tk0 7 rfl ?_; try simp only [lay]
        refine tk0 8 rfl ?_; try simp only [lay]
        refine tk0 9 rfl ?_; try simp only [lay]
        refine wpAnyH_ready (rs := [10]) (by kernel_rfl) (by simp) ?_
        refine AllReadyH.cons rfl (fun K hK => ?_) AllReadyH.nil
        go_simp
        have hT : Blk (q3.alloc (.cells #[.int .i64 0, .int .i64 0, .int .i64 0, .int .i64 0, .int .i64 0, .int .i64 0, .int .i64 0, .int .i64 0, .int .i64 0, .int .i64 0, .int .i64 0, .int .i64 0, .int .i64 0, .int .i64 0] 32)) q3.heap.size 32 #[.int .i64 0, .int .i64 0, .int .i64 0, .int .i64 0, .int .i64 0, .int .i64 0, .int .i64 0, .int .i64 0, .int .i64 0, .int .i64 0, .int .i64 0, .int .i64 0, .int .i64 0, .int .i64 0] := Blk.new _ _ _
        have hh : Below w2.heap.size w2 (q3.alloc (.cells #[.int .i64 0, .int .i64 0, .int .i64 0, .int .i64 0, .int .i64 0, .int .i64 0, .int .i64 0, .int .i64 0, .int .i64 0, .int .i64 0, .int .i64 0, .int .i64 0, .int .i64 0, .int .i64 0] 32)) := hHeld.alloc hHeld.size _
        have hTB := hHeld.size
        have HQ2 : Hid ((dAll ⟨a0_0, a0_1, rate, buf, a0_4⟩ (catF len1 f g) (len1 + len2) ∧ er2 = 0 ∧ nx = len1 + len2 ∧ t = dRun ⟨a0_0, a0_1, rate, buf, a0_4⟩ (catF len1 f g) (len1 + len2) ∧ RowC (q3.alloc (.cells #[.int .i64 0, .int .i64 0, .int .i64 0, .int .i64 0, .int .i64 0, .int .i64 0, .int .i64 0, .int .i64 0, .int .i64 0, .int .i64 0, .int .i64 0, .int .i64 0, .int .i64 0, .int .i64 0] 32)) 6 ax (len1 + len2) (dRows ⟨a0_0, a0_1, rate, buf, a0_4⟩ (catF len1 f g)) ∧ (∀ p : Addr, ax = some p → w2.heap.size ≤ p.block ∧ p.block < (q3.alloc (.cells #[.int .i64 0, .int .i64 0, .int .i64 0, .int .i64 0, .int .i64 0, .int .i64 0, .int .i64 0, .int .i64 0, .int .i64 0, .int .i64 0, .int .i64 0, .int .i64 0, .int .i64 0, .int .i64 0] 32)).heap.size ∧ p.block ≠ q3.heap.size)) ∨ (¬ dAll ⟨a0_0, a0_1, rate, buf, a0_4⟩ (catF len1 f g) (len1 + len2) ∧ er2 = 2)) := by
          rcases HQ.out with ⟨x1, x2, x3, x4, x5, x6⟩ | h
          · exact .inl ⟨x1, x2, x3, x4, x5.alloc _, fun p hp => by have h := x6 p hp; exact ⟨h.1, by simp; omega, by omega⟩⟩
          · exact .inr h
        clear HQ
        clear hHeld
        refine hK.out _ _ ?_ (fun hHeld => ?_)
        · exact hh
        clear hK K hh
        try simp only [lay]
        generalize (q3.alloc (.cells #[.int .i64 0, .int .i64 0, .int .i64 0, .int .i64 0, .int .i64 0, .int .i64 0, .int .i64 0, .int .i64 0, .int .i64 0, .int .i64 0, .int .i64 0, .int .i64 0, .int .i64 0, .int .i64 0] 32)) = q4 at *
        generalize q3.heap.size = TB at *
        have HQ := HQ2
        clear HQ2
        refine tk0 11 rfl ?_; try simp only [lay]
        refine wpAnyH_ready (rs := [12]) (by kernel_rfl) (by simp) ?_
        refine AllReadyH.cons rfl (fun K hK => ?_) AllReadyH.nil
        rw [if_pos (by rfl)]
        refine wp_store_row _ _ _ rfl TB (stL t).toArray rfl rfl 32 #[.int .i64 0, .int .i64 0, .int .i64 0, .int .i64 0, .int .i64 0, .int .i64 0, .int .i64 0, .int .i64 0, .int .i64 0, .int .i64 0, .int .i64 0, .int .i64 0, .int .i64 0, .int .i64 0] hT (stL_info t) rfl (stL_one t) ?_
        refine hK.out _ _ ?_ (fun hHeld3 => ?_)
        · exact below_setRow hHeld hTB _
        clear hK K
        try simp only [lay, Act.put]
        refine tk0 13 rfl ?_; try simp only [lay]
        refine wpAnyH_done (by kernel_rfl) ?_ _
        have hTf : Blk (q4.setRow TB (stL t).toArray) TB 32 (stL t).toArray := setRow_heap _ _ _ _ _ _ hT
        have HQf : Hid ((dAll ⟨a0_0, a0_1, rate, buf, a0_4⟩ (catF len1 f g) (len1 + len2) ∧ er2 = 0 ∧ nx = len1 + len2 ∧ t = dRun ⟨a0_0, a0_1, rate, buf, a0_4⟩ (catF len1 f g) (len1 + len2) ∧ RowC (q4.setRow TB (stL t).toArray) 6 ax (len1 + len2) (dRows ⟨a0_0, a0_1, rate, buf, a0_4⟩ (catF len1 f g)) ∧ (∀ p : Addr, ax = some p → w2.heap.size ≤ p.block ∧ p.block < (q4.setRow TB (stL t).toArray).heap.size ∧ p.block ≠ TB)) ∨ (¬ dAll ⟨a0_0, a0_1, rate, buf, a0_4⟩ (catF len1 f g) (len1 + len2) ∧ er2 = 2)) := by
          rcases HQ.out with ⟨x1, x2, x3, x4, x5, x6⟩ | h
          · exact .inl ⟨x1, x2, x3, x4, rowC_setRow x5 _ (fun p hp => Ne.symm (x6 p hp).2.2), fun p hp => by simpa [World.setRow] using x6 p hp⟩
          · exact .inr h
        clear hHeld HQ hT
        generalize (q4.setRow TB (stL t).toArray) = qf at *
        have hBf := hB.below hHeld3 lR
        have hSf := hS.below hHeld3 lS
        have HMf : Hid (Below w.heap.size w qf) := HM2.out.trans (hHeld3.mono HM2.out.size)
        rcases HP.out with ⟨ha, he0, hno, hs, hown⟩ | ⟨ha, he0⟩
        case inr =>
          subst he0
          have he2 : er2 = 2 := by
            rcases HQf.out with ⟨h, _⟩ | ⟨_, h⟩
            · exact absurd (cat_all h).1 ha
            · exact h
          subst he2
          clear ha hBf hSf hTf
          go_wp2
          go_ret
          exact ⟨rfl, HMf.out⟩
        subst he0
        subst hno
        have HA := Lib.hid ha
        have hx : qf.ownsRow w0.heap.size 38 6 (.slice ao no co) no (cellsC 6 no (dRows ⟨a0_0, a0_1, rate, buf, a0_4⟩ (catF no f g))) := by
          rw [← rows_cat]
          exact own_below (own_below hown HB12.out) hHeld3
        have hxS : Hid (∀ gg, (Value.slice ao no co).ownBlock = some gg → gg < SB) := fun gg e => by
          have h := (own_lt hown e).2
          have := hSB.out
          omega
        have hSR : Blk qf SB 32 (stL (dRun ⟨a0_0, a0_1, rate, buf, a0_4⟩ (catF no f g) no)).toArray := by
          rw [run_cat, ← hs]
          exact hSf
        have HBq : Hid (Below w0.heap.size w0 qf) := (HB01.out.trans (HB12.out.mono hs01)).trans (hHeld3.mono (Nat.le_trans hs01 HB12.out.size))
        have lSf := hSR.lt
        clear hown hs ha hB hS hz1 hz2 hrR hSf hBf hHeld3
        go_wp2_with fail
        go_loopw [7, 44] (fun v c wr => ∃ k : Nat, c = .int .i64 k ∧ k ≤ len2 ∧ Hid (∀ q, q < k → dLate ⟨a0_0, a0_1, rate, buf, a0_4⟩ (g q 0) (g q 1)) ∧ wr.ownsRow w0.heap.size 38 6 v (no + k) (cellsC 6 (no + k) (dRows ⟨a0_0, a0_1, rate, buf, a0_4⟩ (catF no f g))) ∧ Blk wr SB 32 (stL (dRun ⟨a0_0, a0_1, rate, buf, a0_4⟩ (catF no f g) (no + k))).toArray ∧ Below w0.heap.size w0 wr ∧ Off (fun gg => gg = SB ∨ (Value.slice ao no co).ownBlock = some gg) qf wr ∧ Hid (∀ gg, v.ownBlock = some gg → gg ≠ SB ∧ ((Value.slice ao no co).ownBlock = some gg ∨ qf.heap.size ≤ gg))) (fun _ c _ => len2 - (intOf c).toNat)
        case atStart => exact ⟨0, rfl, Nat.zero_le _, fun q h => by omega, hx, hSR, HBq.out, Off.refl _ _, fun gg e => ⟨by have := hxS.out gg e; omega, .inl e⟩⟩
        case round =>
          obtain ⟨k, rfl, hk, hlate, hown, hSk, hbw, hoff, hvb⟩ := hrel
          have hsz := hbw.size
          by_cases hlt : k < len2
          · have hB9 : Blk wr w.heap.size 24 #[.int .i64 a0_0, .int .i64 a0_1, .int .i64 rate, .int .i64 buf, .int .i64 a0_4] := hB00.out.below hbw hlw
            obtain ⟨b, off, x, y, rfl, hb, hcx, hcy, hx, hy⟩ := (hz20.out.below hbw (Nat.le_refl _)).at2 hlt
            have t1 : (k : Int) < (len2 : Int) := by omega
            have HAk : Hid (dAll ⟨a0_0, a0_1, rate, buf, a0_4⟩ (catF no f g) (no + k)) := cat_of HA.out fun q hq => hlate.out q hq
            have HOK := Lib.hid (run_ok HR.out _ HAk.out : (dRun ⟨a0_0, a0_1, rate, buf, a0_4⟩ (catF no f g) (no + k)).ok ⟨a0_0, a0_1, rate, buf, a0_4⟩)
            obtain ⟨sk, hsk⟩ : ∃ sk, Hid (dRun ⟨a0_0, a0_1, rate, buf, a0_4⟩ (catF no f g) (no + k) = sk) := ⟨_, rfl⟩
            rw [hsk.out] at hSk HOK
            have hlsz := hSk.lt
            obtain ⟨vx, vc, hvx, -⟩ := own_sliceC hown
            subst hvx
            go_upto_region 10 with fail
            have hL9 : Blk (wr.alloc (.cells #[.int .i64 x, .int .i64 y] 22)) wr.heap.size 22 #[.int .i64 x, .int .i64 y] := Blk.new _ _ _
            replace hB9 := hB9.alloc (.cells #[.int .i64 x, .int .i64 y] 22)
            replace hSk := hSk.alloc (.cells #[.int .i64 x, .int .i64 y] 22)
            replace hown := hown.alloc (.cells #[.int .i64 x, .int .i64 y] 22)
            replace hbw := hbw.alloc hsz (.cells #[.int .i64 x, .int .i64 y] 22)
            replace hoff := hoff.alloc (.cells #[.int .i64 x, .int .i64 y] 22)
            clear hcx hcy hb hsz hlsz
            generalize wr.alloc (.cells #[.int .i64 x, .int .i64 y] 22) = wl at *
            generalize wr.heap.size = LK at *
            go_wp2_with (first | (refine wpList_load_row rfl _ _ rfl w.heap.size rfl _ _ _ _ hB9 Try.underlying24 rfl (by kernel_rfl) ?_) | (refine wpList_load_row rfl _ _ rfl SB rfl _ _ _ _ hSk Try.underlying32 rfl (stL_info sk) ?_) | (refine wpList_load_row rfl _ _ rfl LK rfl _ _ _ _ hL9 Try.underlying22 rfl (by kernel_rfl) ?_))
            by_cases hL : dLate ⟨a0_0, a0_1, rate, buf, a0_4⟩ x y
            · have HL := Lib.hid hL
              clear hL
              obtain ⟨s', hs'⟩ : ∃ s', Hid (dGo ⟨a0_0, a0_1, rate, buf, a0_4⟩ sk x y = s') := ⟨_, rfl⟩
              obtain ⟨q, hq⟩ : ∃ q, Hid (dRow ⟨a0_0, a0_1, rate, buf, a0_4⟩ sk = q) := ⟨_, rfl⟩
              refine (step_goL ⟨a0_0, a0_1, rate, buf, a0_4⟩ sk x y _ HR.out HOK.out HL.out s' hs' q hq).mono ?_
              rintro e w' ⟨rfl, os2, d2, rfl⟩
              replace hSk := hSk.more os2 d2
              replace hown := own_more hown os2 d2
              replace hoff := hoff.more os2 d2
              have hlw9 := hbw.size
              replace hbw := hbw.trans (below_more wl os2 d2 w0.heap.size hlw9)
              clear hB9 hL9 hlw9
              generalize wl.more os2 d2 = wy at *
              have hly := hSk.lt
              have hwy := hbw.size
              have hZr : Blk (((wy.alloc (.cells #[.int .i64 0, .int .i64 0, .int .i64 0, .int .i64 0, .int .i64 0, .int .i64 0, .int .i64 0, .int .i64 0, .int .i64 0, .int .i64 0, .int .i64 0, .int .i64 0, .int .i64 0, .int .i64 0] 32)).alloc (.cells #[.int .i64 0, .int .i64 0, .int .i64 0, .int .i64 0, .int .i64 0, .int .i64 0] 38)).setRow wy.heap.size (stL s').toArray) (wy.heap.size + 1) 38 #[.int .i64 0, .int .i64 0, .int .i64 0, .int .i64 0, .int .i64 0, .int .i64 0] := blk_setRow (Blk.new' (by simp)) (by omega)
              go_upto_region 11 with (first | (refine wpList_store_row rfl _ _ _ rfl wy.heap.size (stL s').toArray rfl rfl 32 #[.int .i64 0, .int .i64 0, .int .i64 0, .int .i64 0, .int .i64 0, .int .i64 0, .int .i64 0, .int .i64 0, .int .i64 0, .int .i64 0, .int .i64 0, .int .i64 0, .int .i64 0, .int .i64 0] ((Blk.new wy _ _).alloc _) (stL_info s') rfl (stL_one s') ?_) | (refine wpList_store_row rfl _ _ _ rfl (wy.heap.size + 1) (rdL q).toArray rfl rfl 38 #[.int .i64 0, .int .i64 0, .int .i64 0, .int .i64 0, .int .i64 0, .int .i64 0] hZr (rdL_info q) rfl (rdL_one q) ?_))
              have hA15 : Blk ((((wy.alloc (.cells #[.int .i64 0, .int .i64 0, .int .i64 0, .int .i64 0, .int .i64 0, .int .i64 0, .int .i64 0, .int .i64 0, .int .i64 0, .int .i64 0, .int .i64 0, .int .i64 0, .int .i64 0, .int .i64 0] 32)).alloc (.cells #[.int .i64 0, .int .i64 0, .int .i64 0, .int .i64 0, .int .i64 0, .int .i64 0] 38)).setRow wy.heap.size (stL s').toArray).setRow (wy.heap.size + 1) (rdL q).toArray) wy.heap.size 32 (stL s').toArray := blk_setRow (setRow_heap _ _ _ _ _ _ ((Blk.new wy _ _).alloc _)) (by omega)
              have hA16 : Blk ((((wy.alloc (.cells #[.int .i64 0, .int .i64 0, .int .i64 0, .int .i64 0, .int .i64 0, .int .i64 0, .int .i64 0, .int .i64 0, .int .i64 0, .int .i64 0, .int .i64 0, .int .i64 0, .int .i64 0, .int .i64 0] 32)).alloc (.cells #[.int .i64 0, .int .i64 0, .int .i64 0, .int .i64 0, .int .i64 0, .int .i64 0] 38)).setRow wy.heap.size (stL s').toArray).setRow (wy.heap.size + 1) (rdL q).toArray) (wy.heap.size + 1) 38 (rdL q).toArray := setRow_heap _ _ _ _ _ _ hZr
              replace hSk : Blk ((((wy.alloc (.cells #[.int .i64 0, .int .i64 0, .int .i64 0, .int .i64 0, .int .i64 0, .int .i64 0, .int .i64 0, .int .i64 0, .int .i64 0, .int .i64 0, .int .i64 0, .int .i64 0, .int .i64 0, .int .i64 0] 32)).alloc (.cells #[.int .i64 0, .int .i64 0, .int .i64 0, .int .i64 0, .int .i64 0, .int .i64 0] 38)).setRow wy.heap.size (stL s').toArray).setRow (wy.heap.size + 1) (rdL q).toArray) SB 32 (stL sk).toArray := blk_setRow (blk_setRow ((hSk.alloc _).alloc _) (by omega)) (by omega)
              have hn1 : ∀ gg, gg = wy.heap.size ∨ gg = wy.heap.size + 1 → (Value.slice vx (no + k) vc).ownBlock ≠ some gg := fun gg h e => by
                have h2 := own_lt hown e
                omega
              replace hown : (((((wy.alloc (.cells #[.int .i64 0, .int .i64 0, .int .i64 0, .int .i64 0, .int .i64 0, .int .i64 0, .int .i64 0, .int .i64 0, .int .i64 0, .int .i64 0, .int .i64 0, .int .i64 0, .int .i64 0, .int .i64 0] 32)).alloc (.cells #[.int .i64 0, .int .i64 0, .int .i64 0, .int .i64 0, .int .i64 0, .int .i64 0] 38)).setRow wy.heap.size (stL s').toArray).setRow (wy.heap.size + 1) (rdL q).toArray)).ownsRow w0.heap.size 38 6 (.slice vx (no + k) vc) (no + k) (cellsC 6 (no + k) (dRows ⟨a0_0, a0_1, rate, buf, a0_4⟩ (catF no f g))) := ((((hown.alloc _).alloc _).kept (grown_setRow _ _ _) (.inr (hn1 _ (.inl rfl)))).kept (grown_setRow _ _ _) (.inr (hn1 _ (.inr rfl))))
              replace hbw : Below w0.heap.size w0 ((((wy.alloc (.cells #[.int .i64 0, .int .i64 0, .int .i64 0, .int .i64 0, .int .i64 0, .int .i64 0, .int .i64 0, .int .i64 0, .int .i64 0, .int .i64 0, .int .i64 0, .int .i64 0, .int .i64 0, .int .i64 0] 32)).alloc (.cells #[.int .i64 0, .int .i64 0, .int .i64 0, .int .i64 0, .int .i64 0, .int .i64 0] 38)).setRow wy.heap.size (stL s').toArray).setRow (wy.heap.size + 1) (rdL q).toArray) := below_setRow (below_setRow ((hbw.alloc hwy _).alloc (by simp; omega) _) hwy _) (by omega) _
              replace hoff : Off (fun gg => gg = SB ∨ (Value.slice ao no co).ownBlock = some gg) qf ((((wy.alloc (.cells #[.int .i64 0, .int .i64 0, .int .i64 0, .int .i64 0, .int .i64 0, .int .i64 0, .int .i64 0, .int .i64 0, .int .i64 0, .int .i64 0, .int .i64 0, .int .i64 0, .int .i64 0, .int .i64 0] 32)).alloc (.cells #[.int .i64 0, .int .i64 0, .int .i64 0, .int .i64 0, .int .i64 0, .int .i64 0] 38)).setRow wy.heap.size (stL s').toArray).setRow (wy.heap.size + 1) (rdL q).toArray) := off_setRow (off_setRow ((hoff.alloc _).alloc _) (fun h => absurd h (by have := hoff.size; omega)) _) (fun h => absurd h (by have := hoff.size; omega)) _
              have hx15 : Hid (¬ (wy.heap.size = SB ∨ (Value.slice vx (no + k) vc).ownBlock = some wy.heap.size)) := fun h => h.elim (fun e => by omega) (hn1 _ (.inl rfl))
              have hx16 : Hid (¬ (wy.heap.size + 1 = SB ∨ (Value.slice vx (no + k) vc).ownBlock = some (wy.heap.size + 1))) := fun h => h.elim (fun e => by omega) (hn1 _ (.inr rfl))
              clear hZr hn1 hwy hly
              generalize ((((wy.alloc (.cells #[.int .i64 0, .int .i64 0, .int .i64 0, .int .i64 0, .int .i64 0, .int .i64 0, .int .i64 0, .int .i64 0, .int .i64 0, .int .i64 0, .int .i64 0, .int .i64 0, .int .i64 0, .int .i64 0] 32)).alloc (.cells #[.int .i64 0, .int .i64 0, .int .i64 0, .int .i64 0, .int .i64 0, .int .i64 0] 38)).setRow wy.heap.size (stL s').toArray).setRow (wy.heap.size + 1) (rdL q).toArray) = wz at *
              generalize wy.heap.size + 1 = A16 at *
              generalize wy.heap.size = A15 at *
              have l15 := hA15.lt
              have l16 := hA16.lt
              obtain ⟨i0_, hi, hz0, hz1, hz2⟩ := info_parts roundInfo
              go_upto_region 13 with fail
              refine wp_region_held_drew (S := fun w' => Off (fun gg => gg = SB ∨ (Value.slice vx (no + k) vc).ownBlock = some gg) wz w') (by kernel_rfl) ?_ (fun hHeld => ?_)
              · exact (Off.refl _ _).drew
              have hownp : wz.drew.ownsRow w0.heap.size 38 6 (.slice vx (no + k) vc) (no + k) (cellsC 6 (no + k) (dRows ⟨a0_0, a0_1, rate, buf, a0_4⟩ (catF no f g))) := hown
              have hSp : Blk wz.drew SB 32 (stL sk).toArray := hSk
              clear hown hSk
              generalize wz.drew = p0 at *
              refine wpAnyH_take (i := 0) (v := .agg (stL s').toArray) rfl (by kernel_rfl) (by kernel_rfl) (by kernel_rfl) (fun _ _ _ h => h) (yieldsIf_load_mid (by rfl) _ _ rfl A15 0 rfl (stL s') _ (fun w' hw => blk_range (hA15.off hw hx15.out)) Try.underlying32 rfl (stL_info s')) (by assumption) ?_
              try simp only [lay]
              refine tk0 1 rfl ?_; try simp only [lay]
              refine wpAnyH_take (i := 2) (v := .agg (rdL q).toArray) rfl (by kernel_rfl) (by kernel_rfl) (by kernel_rfl) (fun _ _ _ h => h) (yieldsIf_load_mid (by rfl) _ _ rfl A16 0 rfl (rdL q) _ (fun w' hw => blk_range (hA16.off hw hx16.out)) Try.underlying38 rfl (rdL_info q)) (by assumption) ?_
              try simp only [lay]
              refine wpAnyH_ready (rs := [3]) (by kernel_rfl) (by simp) ?_
              refine AllReadyH.cons rfl (fun K hK => ?_) AllReadyH.nil
              go_simp
              simp only [rdL]
              go_simp
              have hNw : Blk (p0.alloc (.cells #[.int .i64 (q 0), .int .i64 (q 1), .int .i64 (q 2), .int .i64 (q 3), .int .i64 (q 4), .int .i64 (q 5)] 38)) p0.heap.size 38 #[.int .i64 (q 0), .int .i64 (q 1), .int .i64 (q 2), .int .i64 (q 3), .int .i64 (q 4), .int .i64 (q 5)] := Blk.new _ _ _
              have hh : Off (fun gg => gg = SB ∨ (Value.slice vx (no + k) vc).ownBlock = some gg) wz (p0.alloc (.cells #[.int .i64 (q 0), .int .i64 (q 1), .int .i64 (q 2), .int .i64 (q 3), .int .i64 (q 4), .int .i64 (q 5)] 38)) := hHeld.alloc _
              have hown1 := hownp.alloc (.cells #[.int .i64 (q 0), .int .i64 (q 1), .int .i64 (q 2), .int .i64 (q 3), .int .i64 (q 4), .int .i64 (q 5)] 38)
              have hSp1 := hSp.alloc (.cells #[.int .i64 (q 0), .int .i64 (q 1), .int .i64 (q 2), .int .i64 (q 3), .int .i64 (q 4), .int .i64 (q 5)] 38)
              have hp0s := hHeld.size
              have hob : Hid (∀ gg, (Value.slice vx (no + k) vc).ownBlock = some gg → w0.heap.size ≤ gg) := fun gg e => (own_lt hownp e).1
              clear hHeld hownp hSp
              refine hK.out _ _ ?_ (fun hHeld => ?_)
              · exact hh
              clear hK K hh
              try simp only [lay]
              have hp1s : p0.heap.size < ((p0.alloc (.cells #[.int .i64 (q 0), .int .i64 (q 1), .int .i64 (q 2), .int .i64 (q 3), .int .i64 (q 4), .int .i64 (q 5)] 38))).heap.size := hNw.lt
              generalize (p0.alloc (.cells #[.int .i64 (q 0), .int .i64 (q 1), .int .i64 (q 2), .int .i64 (q 3), .int .i64 (q 4), .int .i64 (q 5)] 38)) = p1 at *
              generalize p0.heap.size = LN at *
              have hwzs := hbw.size
              have hqfs := hoff.size
              refine wpAnyH_ready (rs := [4]) (by kernel_rfl) (by simp) ?_
              refine AllReadyH.cons rfl (fun K hK => ?_) AllReadyH.nil
              rw [if_pos (by rfl)]
              refine wp_append_lies _ (.tmp 62) (.tmp 64) 27 rfl w0.heap.size 38 i0_ (.agg #[.int .i64 0, .int .i64 0, .int .i64 0, .int .i64 0, .int .i64 0, .int .i64 0]) 6 48 Try.underlying27 hi hz0 hz1 hz2 rfl (by omega) (.slice vx (no + k) vc) (no + k) (cellsC 6 (no + k) (dRows ⟨a0_0, a0_1, rate, buf, a0_4⟩ (catF no f g))) rfl hown1 ⟨LN, 0, none⟩ 1 1 (rdL q) rfl rfl hNw.news (by simp [rdL, Value.oneCell']) (by omega) (by simp only [maxLen]; omega) (by omega) (by omega) _ rfl ?_
              intro gA cA p2 hown2 hgrow2 hat2 hlt2
              have hS2 : Blk p2 SB 32 (stL sk).toArray := hSp1.grown hgrow2 (fun e => (hvb.out SB e.symm).1 rfl)
              have hgA : gA ≠ SB ∧ ((Value.slice ao no co).ownBlock = some gA ∨ qf.heap.size ≤ gA) := by
                rcases hat2 with h | h
                · exact hvb.out gA h
                · have h2 := hSp1.lt
                  exact ⟨by omega, .inr (by omega)⟩
              have hh : Off (fun gg => gg = SB ∨ (Value.slice vx (no + k) vc).ownBlock = some gg) wz p2 := hHeld.trans (Off.of_grown hgrow2 (fun gg e _ => .inr e))
              clear hHeld hown1 hSp1 hgrow2 hat2 hNw
              refine hK.out _ _ ?_ (fun hHeld => ?_)
              · exact hh
              clear hK K hh
              try simp only [lay]
              refine wpAnyH_ready (rs := [5]) (by kernel_rfl) (by simp) ?_
              refine AllReadyH.cons rfl (fun K hK => ?_) AllReadyH.nil
              rw [if_pos (by rfl)]
              refine wp_store_row _ _ _ rfl SB (stL s').toArray rfl rfl 32 (stL sk).toArray hS2 (stL_info s') rfl (stL_one s') ?_
              refine hK.out _ _ ?_ (fun hHeld3 => ?_)
              · exact off_setRow hHeld (fun _ => .inl rfl) _
              clear hK K hHeld
              try simp only [lay, Act.put]
              refine tk0 6 rfl ?_; try simp only [lay]
              refine wpAnyH_done (by kernel_rfl) ?_ _
              have hSf : Hid (Blk (p2.setRow SB (stL s').toArray) SB 32 (stL (dRun ⟨a0_0, a0_1, rate, buf, a0_4⟩ (catF no f g) (no + (k + 1)))).toArray) := by
                have h : dRun ⟨a0_0, a0_1, rate, buf, a0_4⟩ (catF no f g) (no + (k + 1)) = s' := by
                  show dGo ⟨a0_0, a0_1, rate, buf, a0_4⟩ (dRun ⟨a0_0, a0_1, rate, buf, a0_4⟩ (catF no f g) (no + k)) (catF no f g (no + k) 0) (catF no f g (no + k) 1) = s'
                  rw [hsk.out, cat_r, cat_r, ← hx.out, ← hy.out]
                  exact hs'.out
                rw [h]
                exact setRow_heap _ _ _ _ _ _ hS2
              have hOf : Hid ((p2.setRow SB (stL s').toArray).ownsRow w0.heap.size 38 6 (.slice (some ⟨gA, 0, none⟩) (no + k + 1) cA) (no + (k + 1)) (cellsC 6 (no + (k + 1)) (dRows ⟨a0_0, a0_1, rate, buf, a0_4⟩ (catF no f g)))) := by
                have e : ∀ j, dRows ⟨a0_0, a0_1, rate, buf, a0_4⟩ (catF no f g) (no + k) j = q j := fun j => by
                  show dRow ⟨a0_0, a0_1, rate, buf, a0_4⟩ (dRun ⟨a0_0, a0_1, rate, buf, a0_4⟩ (catF no f g) (no + k)) j = q j
                  rw [hsk.out, hq.out]
                have h : cellsC 6 (no + k + 1) (dRows ⟨a0_0, a0_1, rate, buf, a0_4⟩ (catF no f g)) = cellsC 6 (no + k) (dRows ⟨a0_0, a0_1, rate, buf, a0_4⟩ (catF no f g)) ++ rdL q := by
                  rw [cellsC_succ]
                  congr 1
                  show [Value.int .i64 (dRows ⟨a0_0, a0_1, rate, buf, a0_4⟩ (catF no f g) (no + k) 0), .int .i64 (dRows ⟨a0_0, a0_1, rate, buf, a0_4⟩ (catF no f g) (no + k) 1), .int .i64 (dRows ⟨a0_0, a0_1, rate, buf, a0_4⟩ (catF no f g) (no + k) 2), .int .i64 (dRows ⟨a0_0, a0_1, rate, buf, a0_4⟩ (catF no f g) (no + k) 3), .int .i64 (dRows ⟨a0_0, a0_1, rate, buf, a0_4⟩ (catF no f g) (no + k) 4), .int .i64 (dRows ⟨a0_0, a0_1, rate, buf, a0_4⟩ (catF no f g) (no + k) 5)] = _
                  rw [e, e, e, e, e, e]
                  rfl
                show (p2.setRow SB (stL s').toArray).ownsRow w0.heap.size 38 6 (.slice (some ⟨gA, 0, none⟩) (no + k + 1) cA) (no + k + 1) (cellsC 6 (no + k + 1) (dRows ⟨a0_0, a0_1, rate, buf, a0_4⟩ (catF no f g)))
                rw [h]
                refine hown2.kept (grown_setRow _ _ _) (.inr (fun e => hgA.1 ?_))
                simpa [Value.ownBlock] using e
              have hVf : Hid (∀ gg, (Value.slice (some ⟨gA, 0, none⟩) (no + k + 1) cA).ownBlock = some gg → gg ≠ SB ∧ ((Value.slice ao no co).ownBlock = some gg ∨ qf.heap.size ≤ gg)) := fun gg e => by
                obtain rfl : gA = gg := by simpa [Value.ownBlock] using e
                exact hgA
              have hBf9 : Hid (Below w0.heap.size w0 (p2.setRow SB (stL s').toArray)) := hbw.trans (hHeld3.below (B := w0.heap.size) (fun gg h => h.elim (fun e => by have := hSB.out; omega) (fun e => hob.out gg e)) hwzs)
              have hFf : Hid (Off (fun gg => gg = SB ∨ (Value.slice ao no co).ownBlock = some gg) qf (p2.setRow SB (stL s').toArray)) := off_then hoff hHeld3 (fun gg hg h => h.elim .inl (fun e => (hvb.out gg e).2.elim .inr (fun h2 => absurd hg (by omega))))
              have hlate2 : Hid (∀ q, q < k + 1 → dLate ⟨a0_0, a0_1, rate, buf, a0_4⟩ (g q 0) (g q 1)) := fun q hq => by
                rcases Nat.lt_succ_iff_lt_or_eq.1 hq with h | rfl
                · exact hlate.out q h
                · rw [← hx.out, ← hy.out]; exact HL.out
              clear hHeld3 hown2 hS2 hoff hbw hA15 hA16
              generalize p2.setRow SB (stL s').toArray = wf at *
              go_wp2
              go_roundw
              case rel => exact ⟨k + 1, by go_num, by omega, hlate2, hOf.out, hSf.out, hBf9.out, hFf.out, hVf⟩
              case measure => simp [intOf]; omega
            · have he2 : er2 = 2 := by
                rcases HQf.out with ⟨h, _⟩ | ⟨_, h⟩
                · exact absurd (by have h3 := (cat_all h).2 k hlt; rwa [← hx.out, ← hy.out] at h3) hL
                · exact h
              subst he2
              refine (step_lateL ⟨a0_0, a0_1, rate, buf, a0_4⟩ sk x y _ HR.out HOK.out hL).mono ?_
              rintro e w' ⟨s', q, rfl, os2, d2, rfl⟩
              have hlw9 := hbw.size
              replace hbw := hbw.trans (below_more wl os2 d2 w0.heap.size hlw9)
              clear hB9 hL9 hlw9 hSk hown hoff hL
              generalize wl.more os2 d2 = wy at *
              have hwy := hbw.size
              have hZr : Blk (((wy.alloc (.cells #[.int .i64 0, .int .i64 0, .int .i64 0, .int .i64 0, .int .i64 0, .int .i64 0, .int .i64 0, .int .i64 0, .int .i64 0, .int .i64 0, .int .i64 0, .int .i64 0, .int .i64 0, .int .i64 0] 32)).alloc (.cells #[.int .i64 0, .int .i64 0, .int .i64 0, .int .i64 0, .int .i64 0, .int .i64 0] 38)).setRow wy.heap.size (stL s').toArray) (wy.heap.size + 1) 38 #[.int .i64 0, .int .i64 0, .int .i64 0, .int .i64 0, .int .i64 0, .int .i64 0] := blk_setRow (Blk.new' (by simp)) (by omega)
              go_upto_region 11 with (first | (refine wpList_store_row rfl _ _ _ rfl wy.heap.size (stL s').toArray rfl rfl 32 #[.int .i64 0, .int .i64 0, .int .i64 0, .int .i64 0, .int .i64 0, .int .i64 0, .int .i64 0, .int .i64 0, .int .i64 0, .int .i64 0, .int .i64 0, .int .i64 0, .int .i64 0, .int .i64 0] ((Blk.new wy _ _).alloc _) (stL_info s') rfl (stL_one s') ?_) | (refine wpList_store_row rfl _ _ _ rfl (wy.heap.size + 1) (rdL q).toArray rfl rfl 38 #[.int .i64 0, .int .i64 0, .int .i64 0, .int .i64 0, .int .i64 0, .int .i64 0] hZr (rdL_info q) rfl (rdL_one q) ?_))
              replace hbw : Below w0.heap.size w0 ((((wy.alloc (.cells #[.int .i64 0, .int .i64 0, .int .i64 0, .int .i64 0, .int .i64 0, .int .i64 0, .int .i64 0, .int .i64 0, .int .i64 0, .int .i64 0, .int .i64 0, .int .i64 0, .int .i64 0, .int .i64 0] 32)).alloc (.cells #[.int .i64 0, .int .i64 0, .int .i64 0, .int .i64 0, .int .i64 0, .int .i64 0] 38)).setRow wy.heap.size (stL s').toArray).setRow (wy.heap.size + 1) (rdL q).toArray) := below_setRow (below_setRow ((hbw.alloc hwy _).alloc (by simp; omega) _) hwy _) (by omega) _
              clear hZr hwy
              generalize ((((wy.alloc (.cells #[.int .i64 0, .int .i64 0, .int .i64 0, .int .i64 0, .int .i64 0, .int .i64 0, .int .i64 0, .int .i64 0, .int .i64 0, .int .i64 0, .int .i64 0, .int .i64 0, .int .i64 0, .int .i64 0] 32)).alloc (.cells #[.int .i64 0, .int .i64 0, .int .i64 0, .int .i64 0, .int .i64 0, .int .i64 0] 38)).setRow wy.heap.size (stL s').toArray).setRow (wy.heap.size + 1) (rdL q).toArray) = wz at *
              have HBz := Lib.hid hbw
              clear hbw
              go_wp2
              go_ret
              exact ⟨rfl, HM0.out.trans (HBz.out.mono HM0.out.size)⟩
          · obtain rfl : k = len2 := by omega
            have hall : dAll ⟨a0_0, a0_1, rate, buf, a0_4⟩ (catF no f g) (no + k) := cat_of HA.out fun q hq => hlate.out q hq
            rcases HQf.out with ⟨_, he2, hnx, ht, hrx, hfx⟩ | ⟨hno2, _⟩
            case inr => exact absurd hall hno2
            subst he2
            subst hnx
            have hTw : Blk wr TB 32 (stL t).toArray := hTf.off hoff (by
              rintro (h | h)
              · omega
              · have := hxS.out _ h
                omega)
            have hrw : RowC wr 6 ax (no + k) (dRows ⟨a0_0, a0_1, rate, buf, a0_4⟩ (catF no f g)) := rowC_off hrx hoff (fun p hp h => by
              have h1 := hfx p hp
              rcases h with h | h
              · omega
              · have := hxS.out _ h
                omega)
            obtain ⟨vx, vc, hvx, -⟩ := own_sliceC hown
            subst hvx
            have hrv : RowC wr 6 vx (no + k) (dRows ⟨a0_0, a0_1, rate, buf, a0_4⟩ (catF no f g)) := RowC.of_own (by omega) hown
            have hok : (dRun ⟨a0_0, a0_1, rate, buf, a0_4⟩ (catF no f g) (no + k)).ok ⟨a0_0, a0_1, rate, buf, a0_4⟩ := run_ok HR.out _ (fun q hq => hall q hq)
            have hI : (dRun ⟨a0_0, a0_1, rate, buf, a0_4⟩ (catF no f g) (no + k)).inI := DSt.inI_of HR.out hok
            have HQB : Hid (∀ q, q < no + k → ∀ j, InI64 (dRows ⟨a0_0, a0_1, rate, buf, a0_4⟩ (catF no f g) q j)) := fun q hq j => by
              have h := row_pos HR.out (run_ok HR.out _ (fun z hz => hall z (by omega)) : (dRun ⟨a0_0, a0_1, rate, buf, a0_4⟩ (catF no f g) q).ok ⟨a0_0, a0_1, rate, buf, a0_4⟩) j
              show InI64 (dRow ⟨a0_0, a0_1, rate, buf, a0_4⟩ (dRun ⟨a0_0, a0_1, rate, buf, a0_4⟩ (catF no f g) q) j)
              unfold InI64
              omega
            rw [ht] at hTw
            obtain ⟨sk, hsk⟩ : ∃ sk, Hid (dRun ⟨a0_0, a0_1, rate, buf, a0_4⟩ (catF no f g) (no + k) = sk) := ⟨_, rfl⟩
            rw [hsk.out] at hTw hSk hI
            have hEQ : (Op.equal 32 (.agg (stL sk).toArray) (.agg (stL sk).toArray)).run Try.prog wr = .ok true wr := by
              have h := eq_st sk sk hI hI wr
              rwa [decide_eq_true rfl] at h
            have HEQ := Lib.hid hEQ
            have HBw := Lib.hid hbw
            have lS2 := hSk.lt
            have lT2 := hTw.lt
            clear hEQ hbw hown hoff hvb hTf hlate hall hrx hfx hok hI ht
            go_wp2_with (first | (refine BigFrame.wpList_want (by rfl) (fun K hK => wp_load_row _ _ rfl SB rfl _ _ _ _ hSk Try.underlying32 rfl (stL_info sk) (hK _ _ ?_))) | (refine BigFrame.wpList_want (by rfl) (fun K hK => wp_load_row _ _ rfl TB rfl _ _ _ _ hTw Try.underlying32 rfl (stL_info sk) (hK _ _ ?_))) | (refine BigFrame.wpList_want (by rfl) (fun K hK => wp_eql _ _ _ _ rfl (stL sk).toArray (stL sk).toArray rfl rfl guard_st true HEQ.out (hK _ _ ?_))) | (rw [if_pos (by rfl)]; refine wp_load_row _ _ rfl SB rfl _ _ _ _ hSk Try.underlying32 rfl (stL_info sk) ?_) | (rw [if_pos (by rfl)]; refine wp_load_row _ _ rfl TB rfl _ _ _ _ hTw Try.underlying32 rfl (stL_info sk) ?_) | (rw [if_pos (by rfl)]; refine wp_eql _ _ _ _ rfl (stL sk).toArray (stL sk).toArray rfl rfl guard_st true HEQ.out ?_) | (go_at_call 15; refine (requal_any vx vc ax cx (no + k) (dRows ⟨a0_0, a0_1, rate, buf, a0_4⟩ (catF no f g)) _ hrv hrw (by omega) HQB).mono ?_; rintro e w' ⟨rfl, os9, d9, rfl⟩))
            go_wp2
            go_ret
            exact ⟨rfl, below_then (HM0.out.trans (HBw.out.mono HM0.out.size)) (Nat.le_trans HM0.out.size HBw.out.size) (by repeat (first | (with_reducible assumption) | (with_reducible exact More.refl _) | (with_reducible refine More.alloc ?_ _) | (with_reducible refine More.more ?_ _ _) | (with_reducible refine More.drewN ?_ _) | (with_reducible refine More.drew ?_)))⟩
      · go_simp
        have hT : Blk (q2.alloc (.cells #[.int .i64 0, .int .i64 0, .int .i64 0, .int .i64 0, .int .i64 0, .int .i64 0, .int .i64 0, .int .i64 0, .int .i64 0, .int .i64 0, .int .i64 0, .int .i64 0, .int .i64 0, .int .i64 0] 32)) q2.heap.size 32 #[.int .i64 0, .int .i64 0, .int .i64 0, .int .i64 0, .int .i64 0, .int .i64 0, .int .i64 0, .int .i64 0, .int .i64 0, .int .i64 0, .int .i64 0, .int .i64 0, .int .i64 0, .int .i64 0] := Blk.new _ _ _
        have hh : Below w2.heap.size w2 (q2.alloc (.cells #[.int .i64 0, .int .i64 0, .int .i64 0, .int .i64 0, .int .i64 0, .int .i64 0, .int .i64 0, .int .i64 0, .int .i64 0, .int .i64 0, .int .i64 0, .int .i64 0, .int .i64 0, .int .i64 0] 32)) := hHeld.alloc hHeld.size _
        have hTB := hHeld.size
        replace hCF := hCF.alloc (.cells #[.int .i64 0, .int .i64 0, .int .i64 0, .int .i64 0, .int .i64 0, .int .i64 0, .int .i64 0, .int .i64 0, .int .i64 0, .int .i64 0, .int .i64 0, .int .i64 0, .int .i64 0, .int .i64 0] 32)
        clear hHeld
        refine hK.out _ _ ?_ (fun hHeld => ?_)
        · exact hh
        clear hK K hh
        try simp only [lay]
        generalize (q2.alloc (.cells #[.int .i64 0, .int .i64 0, .int .i64 0, .int .i64 0, .int .i64 0, .int .i64 0, .int .i64 0, .int .i64 0, .int .i64 0, .int .i64 0, .int .i64 0, .int .i64 0, .int .i64 0, .int .i64 0] 32)) = q3 at *
        generalize q2.heap.size = TB at *
        refine wpAnyH_ready (rs := [5]) (by kernel_rfl) (by simp) ?_
        refine AllReadyH.cons rfl (fun K hK => ?_) AllReadyH.nil
        go_simp
        refine (play_all ⟨a0_0, a0_1, rate, buf, a0_4⟩ av (len1 + len2) ac (catF len1 f g) _ hCF (by omega) HR.out).mono ?_
        rintro e q4 ⟨ax, nx, cx, t, er2, rfl, HQ0, hbp⟩
        have hTl := hT.lt
        have HQ : Hid ((dAll ⟨a0_0, a0_1, rate, buf, a0_4⟩ (catF len1 f g) (len1 + len2) ∧ er2 = 0 ∧ nx = len1 + len2 ∧ t = dRun ⟨a0_0, a0_1, rate, buf, a0_4⟩ (catF len1 f g) (len1 + len2) ∧ RowC q4 6 ax (len1 + len2) (dRows ⟨a0_0, a0_1, rate, buf, a0_4⟩ (catF len1 f g)) ∧ (∀ p : Addr, ax = some p → w2.heap.size ≤ p.block ∧ p.block < q4.heap.size ∧ p.block ≠ TB)) ∨ (¬ dAll ⟨a0_0, a0_1, rate, buf, a0_4⟩ (catF len1 f g) (len1 + len2) ∧ er2 = 2)) := by
          have hhs := hHeld.size
          rcases HQ0.out with ⟨x1, x2, x3, x4, x5⟩ | h
          · refine .inl ⟨x1, x2, x3, x4, RowC.of_own (by omega) x5, fun p hp => ?_⟩
            subst hp
            have h := own_lt x5 rfl
            exact ⟨by omega, h.2, by omega⟩
          · exact .inr h
        replace hT := hT.below hbp hT.lt
        clear hTl
        have hh : Below w2.heap.size w2 q4 := hHeld.trans (hbp.mono hHeld.size)
        clear hHeld hbp hCF HQ0
        refine hK.out _ _ ?_ (fun hHeld => ?_)
        · exact hh
        clear hK K hh
        try simp only [lay]
        refine tk0 6 rfl ?_; try simp only [lay]
        refine tk0 7 rfl ?_; try simp only [lay]
        refine tk0 8 rfl ?_; try simp only [lay]
        refine tk0 9 rfl ?_; try simp only [lay]
        refine tk0 11 rfl ?_; try simp only [lay]
        refine wpAnyH_ready (rs := [12]) (by kernel_rfl) (by simp) ?_
        refine AllReadyH.cons rfl (fun K hK => ?_) AllReadyH.nil
        rw [if_pos (by rfl)]
        refine wp_store_row _ _ _ rfl TB (stL t).toArray rfl rfl 32 #[.int .i64 0, .int .i64 0, .int .i64 0, .int .i64 0, .int .i64 0, .int .i64 0, .int .i64 0, .int .i64 0, .int .i64 0, .int .i64 0, .int .i64 0, .int .i64 0, .int .i64 0, .int .i64 0] hT (stL_info t) rfl (stL_one t) ?_
        refine hK.out _ _ ?_ (fun hHeld3 => ?_)
        · exact below_setRow hHeld hTB _
        clear hK K
        try simp only [lay, Act.put]
        refine tk0 13 rfl ?_; try simp only [lay]
        refine wpAnyH_done (by kernel_rfl) ?_ _
        have hTf : Blk (q4.setRow TB (stL t).toArray) TB 32 (stL t).toArray := setRow_heap _ _ _ _ _ _ hT
        have HQf : Hid ((dAll ⟨a0_0, a0_1, rate, buf, a0_4⟩ (catF len1 f g) (len1 + len2) ∧ er2 = 0 ∧ nx = len1 + len2 ∧ t = dRun ⟨a0_0, a0_1, rate, buf, a0_4⟩ (catF len1 f g) (len1 + len2) ∧ RowC (q4.setRow TB (stL t).toArray) 6 ax (len1 + len2) (dRows ⟨a0_0, a0_1, rate, buf, a0_4⟩ (catF len1 f g)) ∧ (∀ p : Addr, ax = some p → w2.heap.size ≤ p.block ∧ p.block < (q4.setRow TB (stL t).toArray).heap.size ∧ p.block ≠ TB)) ∨ (¬ dAll ⟨a0_0, a0_1, rate, buf, a0_4⟩ (catF len1 f g) (len1 + len2) ∧ er2 = 2)) := by
          rcases HQ.out with ⟨x1, x2, x3, x4, x5, x6⟩ | h
          · exact .inl ⟨x1, x2, x3, x4, rowC_setRow x5 _ (fun p hp => Ne.symm (x6 p hp).2.2), fun p hp => by simpa [World.setRow] using x6 p hp⟩
          · exact .inr h
        clear hHeld HQ hT
        generalize (q4.setRow TB (stL t).toArray) = qf at *
        have hBf := hB.below hHeld3 lR
        have hSf := hS.below hHeld3 lS
        have HMf : Hid (Below w.heap.size w qf) := HM2.out.trans (hHeld3.mono HM2.out.size)
        rcases HP.out with ⟨ha, he0, hno, hs, hown⟩ | ⟨ha, he0⟩
        case inr =>
          subst he0
          have he2 : er2 = 2 := by
            rcases HQf.out with ⟨h, _⟩ | ⟨_, h⟩
            · exact absurd (cat_all h).1 ha
            · exact h
          subst he2
          clear ha hBf hSf hTf
          go_wp2
          go_ret
          exact ⟨rfl, HMf.out⟩
        subst he0
        subst hno
        have HA := Lib.hid ha
        have hx : qf.ownsRow w0.heap.size 38 6 (.slice ao no co) no (cellsC 6 no (dRows ⟨a0_0, a0_1, rate, buf, a0_4⟩ (catF no f g))) := by
          rw [← rows_cat]
          exact own_below (own_below hown HB12.out) hHeld3
        have hxS : Hid (∀ gg, (Value.slice ao no co).ownBlock = some gg → gg < SB) := fun gg e => by
          have h := (own_lt hown e).2
          have := hSB.out
          omega
        have hSR : Blk qf SB 32 (stL (dRun ⟨a0_0, a0_1, rate, buf, a0_4⟩ (catF no f g) no)).toArray := by
          rw [run_cat, ← hs]
          exact hSf
        have HBq : Hid (Below w0.heap.size w0 qf) := (HB01.out.trans (HB12.out.mono hs01)).trans (hHeld3.mono (Nat.le_trans hs01 HB12.out.size))
        have lSf := hSR.lt
        clear hown hs ha hB hS hz1 hz2 hrR hSf hBf hHeld3
        go_wp2_with fail
        go_loopw [7, 44] (fun v c wr => ∃ k : Nat, c = .int .i64 k ∧ k ≤ len2 ∧ Hid (∀ q, q < k → dLate ⟨a0_0, a0_1, rate, buf, a0_4⟩ (g q 0) (g q 1)) ∧ wr.ownsRow w0.heap.size 38 6 v (no + k) (cellsC 6 (no + k) (dRows ⟨a0_0, a0_1, rate, buf, a0_4⟩ (catF no f g))) ∧ Blk wr SB 32 (stL (dRun ⟨a0_0, a0_1, rate, buf, a0_4⟩ (catF no f g) (no + k))).toArray ∧ Below w0.heap.size w0 wr ∧ Off (fun gg => gg = SB ∨ (Value.slice ao no co).ownBlock = some gg) qf wr ∧ Hid (∀ gg, v.ownBlock = some gg → gg ≠ SB ∧ ((Value.slice ao no co).ownBlock = some gg ∨ qf.heap.size ≤ gg))) (fun _ c _ => len2 - (intOf c).toNat)
        case atStart => exact ⟨0, rfl, Nat.zero_le _, fun q h => by omega, hx, hSR, HBq.out, Off.refl _ _, fun gg e => ⟨by have := hxS.out gg e; omega, .inl e⟩⟩
        case round =>
          obtain ⟨k, rfl, hk, hlate, hown, hSk, hbw, hoff, hvb⟩ := hrel
          have hsz := hbw.size
          by_cases hlt : k < len2
          · have hB9 : Blk wr w.heap.size 24 #[.int .i64 a0_0, .int .i64 a0_1, .int .i64 rate, .int .i64 buf, .int .i64 a0_4] := hB00.out.below hbw hlw
            obtain ⟨b, off, x, y, rfl, hb, hcx, hcy, hx, hy⟩ := (hz20.out.below hbw (Nat.le_refl _)).at2 hlt
            have t1 : (k : Int) < (len2 : Int) := by omega
            have HAk : Hid (dAll ⟨a0_0, a0_1, rate, buf, a0_4⟩ (catF no f g) (no + k)) := cat_of HA.out fun q hq => hlate.out q hq
            have HOK := Lib.hid (run_ok HR.out _ HAk.out : (dRun ⟨a0_0, a0_1, rate, buf, a0_4⟩ (catF no f g) (no + k)).ok ⟨a0_0, a0_1, rate, buf, a0_4⟩)
            obtain ⟨sk, hsk⟩ : ∃ sk, Hid (dRun ⟨a0_0, a0_1, rate, buf, a0_4⟩ (catF no f g) (no + k) = sk) := ⟨_, rfl⟩
            rw [hsk.out] at hSk HOK
            have hlsz := hSk.lt
            obtain ⟨vx, vc, hvx, -⟩ := own_sliceC hown
            subst hvx
            go_upto_region 10 with fail
            have hL9 : Blk (wr.alloc (.cells #[.int .i64 x, .int .i64 y] 22)) wr.heap.size 22 #[.int .i64 x, .int .i64 y] := Blk.new _ _ _
            replace hB9 := hB9.alloc (.cells #[.int .i64 x, .int .i64 y] 22)
            replace hSk := hSk.alloc (.cells #[.int .i64 x, .int .i64 y] 22)
            replace hown := hown.alloc (.cells #[.int .i64 x, .int .i64 y] 22)
            replace hbw := hbw.alloc hsz (.cells #[.int .i64 x, .int .i64 y] 22)
            replace hoff := hoff.alloc (.cells #[.int .i64 x, .int .i64 y] 22)
            clear hcx hcy hb hsz hlsz
            generalize wr.alloc (.cells #[.int .i64 x, .int .i64 y] 22) = wl at *
            generalize wr.heap.size = LK at *
            go_wp2_with (first | (refine wpList_load_row rfl _ _ rfl w.heap.size rfl _ _ _ _ hB9 Try.underlying24 rfl (by kernel_rfl) ?_) | (refine wpList_load_row rfl _ _ rfl SB rfl _ _ _ _ hSk Try.underlying32 rfl (stL_info sk) ?_) | (refine wpList_load_row rfl _ _ rfl LK rfl _ _ _ _ hL9 Try.underlying22 rfl (by kernel_rfl) ?_))
            by_cases hL : dLate ⟨a0_0, a0_1, rate, buf, a0_4⟩ x y
            · have HL := Lib.hid hL
              clear hL
              obtain ⟨s', hs'⟩ : ∃ s', Hid (dGo ⟨a0_0, a0_1, rate, buf, a0_4⟩ sk x y = s') := ⟨_, rfl⟩
              obtain ⟨q, hq⟩ : ∃ q, Hid (dRow ⟨a0_0, a0_1, rate, buf, a0_4⟩ sk = q) := ⟨_, rfl⟩
              refine (step_goL ⟨a0_0, a0_1, rate, buf, a0_4⟩ sk x y _ HR.out HOK.out HL.out s' hs' q hq).mono ?_
              rintro e w' ⟨rfl, os2, d2, rfl⟩
              replace hSk := hSk.more os2 d2
              replace hown := own_more hown os2 d2
              replace hoff := hoff.more os2 d2
              have hlw9 := hbw.size
              replace hbw := hbw.trans (below_more wl os2 d2 w0.heap.size hlw9)
              clear hB9 hL9 hlw9
              generalize wl.more os2 d2 = wy at *
              have hly := hSk.lt
              have hwy := hbw.size
              have hZr : Blk (((wy.alloc (.cells #[.int .i64 0, .int .i64 0, .int .i64 0, .int .i64 0, .int .i64 0, .int .i64 0, .int .i64 0, .int .i64 0, .int .i64 0, .int .i64 0, .int .i64 0, .int .i64 0, .int .i64 0, .int .i64 0] 32)).alloc (.cells #[.int .i64 0, .int .i64 0, .int .i64 0, .int .i64 0, .int .i64 0, .int .i64 0] 38)).setRow wy.heap.size (stL s').toArray) (wy.heap.size + 1) 38 #[.int .i64 0, .int .i64 0, .int .i64 0, .int .i64 0, .int .i64 0, .int .i64 0] := blk_setRow (Blk.new' (by simp)) (by omega)
              go_upto_region 11 with (first | (refine wpList_store_row rfl _ _ _ rfl wy.heap.size (stL s').toArray rfl rfl 32 #[.int .i64 0, .int .i64 0, .int .i64 0, .int .i64 0, .int .i64 0, .int .i64 0, .int .i64 0, .int .i64 0, .int .i64 0, .int .i64 0, .int .i64 0, .int .i64 0, .int .i64 0, .int .i64 0] ((Blk.new wy _ _).alloc _) (stL_info s') rfl (stL_one s') ?_) | (refine wpList_store_row rfl _ _ _ rfl (wy.heap.size + 1) (rdL q).toArray rfl rfl 38 #[.int .i64 0, .int .i64 0, .int .i64 0, .int .i64 0, .int .i64 0, .int .i64 0] hZr (rdL_info q) rfl (rdL_one q) ?_))
              have hA15 : Blk ((((wy.alloc (.cells #[.int .i64 0, .int .i64 0, .int .i64 0, .int .i64 0, .int .i64 0, .int .i64 0, .int .i64 0, .int .i64 0, .int .i64 0, .int .i64 0, .int .i64 0, .int .i64 0, .int .i64 0, .int .i64 0] 32)).alloc (.cells #[.int .i64 0, .int .i64 0, .int .i64 0, .int .i64 0, .int .i64 0, .int .i64 0] 38)).setRow wy.heap.size (stL s').toArray).setRow (wy.heap.size + 1) (rdL q).toArray) wy.heap.size 32 (stL s').toArray := blk_setRow (setRow_heap _ _ _ _ _ _ ((Blk.new wy _ _).alloc _)) (by omega)
              have hA16 : Blk ((((wy.alloc (.cells #[.int .i64 0, .int .i64 0, .int .i64 0, .int .i64 0, .int .i64 0, .int .i64 0, .int .i64 0, .int .i64 0, .int .i64 0, .int .i64 0, .int .i64 0, .int .i64 0, .int .i64 0, .int .i64 0] 32)).alloc (.cells #[.int .i64 0, .int .i64 0, .int .i64 0, .int .i64 0, .int .i64 0, .int .i64 0] 38)).setRow wy.heap.size (stL s').toArray).setRow (wy.heap.size + 1) (rdL q).toArray) (wy.heap.size + 1) 38 (rdL q).toArray := setRow_heap _ _ _ _ _ _ hZr
              replace hSk : Blk ((((wy.alloc (.cells #[.int .i64 0, .int .i64 0, .int .i64 0, .int .i64 0, .int .i64 0, .int .i64 0, .int .i64 0, .int .i64 0, .int .i64 0, .int .i64 0, .int .i64 0, .int .i64 0, .int .i64 0, .int .i64 0] 32)).alloc (.cells #[.int .i64 0, .int .i64 0, .int .i64 0, .int .i64 0, .int .i64 0, .int .i64 0] 38)).setRow wy.heap.size (stL s').toArray).setRow (wy.heap.size + 1) (rdL q).toArray) SB 32 (stL sk).toArray := blk_setRow (blk_setRow ((hSk.alloc _).alloc _) (by omega)) (by omega)
              have hn1 : ∀ gg, gg = wy.heap.size ∨ gg = wy.heap.size + 1 → (Value.slice vx (no + k) vc).ownBlock ≠ some gg := fun gg h e => by
                have h2 := own_lt hown e
                omega
              replace hown : (((((wy.alloc (.cells #[.int .i64 0, .int .i64 0, .int .i64 0, .int .i64 0, .int .i64 0, .int .i64 0, .int .i64 0, .int .i64 0, .int .i64 0, .int .i64 0, .int .i64 0, .int .i64 0, .int .i64 0, .int .i64 0] 32)).alloc (.cells #[.int .i64 0, .int .i64 0, .int .i64 0, .int .i64 0, .int .i64 0, .int .i64 0] 38)).setRow wy.heap.size (stL s').toArray).setRow (wy.heap.size + 1) (rdL q).toArray)).ownsRow w0.heap.size 38 6 (.slice vx (no + k) vc) (no + k) (cellsC 6 (no + k) (dRows ⟨a0_0, a0_1, rate, buf, a0_4⟩ (catF no f g))) := ((((hown.alloc _).alloc _).kept (grown_setRow _ _ _) (.inr (hn1 _ (.inl rfl)))).kept (grown_setRow _ _ _) (.inr (hn1 _ (.inr rfl))))
              replace hbw : Below w0.heap.size w0 ((((wy.alloc (.cells #[.int .i64 0, .int .i64 0, .int .i64 0, .int .i64 0, .int .i64 0, .int .i64 0, .int .i64 0, .int .i64 0, .int .i64 0, .int .i64 0, .int .i64 0, .int .i64 0, .int .i64 0, .int .i64 0] 32)).alloc (.cells #[.int .i64 0, .int .i64 0, .int .i64 0, .int .i64 0, .int .i64 0, .int .i64 0] 38)).setRow wy.heap.size (stL s').toArray).setRow (wy.heap.size + 1) (rdL q).toArray) := below_setRow (below_setRow ((hbw.alloc hwy _).alloc (by simp; omega) _) hwy _) (by omega) _
              replace hoff : Off (fun gg => gg = SB ∨ (Value.slice ao no co).ownBlock = some gg) qf ((((wy.alloc (.cells #[.int .i64 0, .int .i64 0, .int .i64 0, .int .i64 0, .int .i64 0, .int .i64 0, .int .i64 0, .int .i64 0, .int .i64 0, .int .i64 0, .int .i64 0, .int .i64 0, .int .i64 0, .int .i64 0] 32)).alloc (.cells #[.int .i64 0, .int .i64 0, .int .i64 0, .int .i64 0, .int .i64 0, .int .i64 0] 38)).setRow wy.heap.size (stL s').toArray).setRow (wy.heap.size + 1) (rdL q).toArray) := off_setRow (off_setRow ((hoff.alloc _).alloc _) (fun h => absurd h (by have := hoff.size; omega)) _) (fun h => absurd h (by have := hoff.size; omega)) _
              have hx15 : Hid (¬ (wy.heap.size = SB ∨ (Value.slice vx (no + k) vc).ownBlock = some wy.heap.size)) := fun h => h.elim (fun e => by omega) (hn1 _ (.inl rfl))
              have hx16 : Hid (¬ (wy.heap.size + 1 = SB ∨ (Value.slice vx (no + k) vc).ownBlock = some (wy.heap.size + 1))) := fun h => h.elim (fun e => by omega) (hn1 _ (.inr rfl))
              clear hZr hn1 hwy hly
              generalize ((((wy.alloc (.cells #[.int .i64 0, .int .i64 0, .int .i64 0, .int .i64 0, .int .i64 0, .int .i64 0, .int .i64 0, .int .i64 0, .int .i64 0, .int .i64 0, .int .i64 0, .int .i64 0, .int .i64 0, .int .i64 0] 32)).alloc (.cells #[.int .i64 0, .int .i64 0, .int .i64 0, .int .i64 0, .int .i64 0, .int .i64 0] 38)).setRow wy.heap.size (stL s').toArray).setRow (wy.heap.size + 1) (rdL q).toArray) = wz at *
              generalize wy.heap.size + 1 = A16 at *
              generalize wy.heap.size = A15 at *
              have l15 := hA15.lt
              have l16 := hA16.lt
              obtain ⟨i0_, hi, hz0, hz1, hz2⟩ := info_parts roundInfo
              go_upto_region 13 with fail
              refine wp_region_held_drew (S := fun w' => Off (fun gg => gg = SB ∨ (Value.slice vx (no + k) vc).ownBlock = some gg) wz w') (by kernel_rfl) ?_ (fun hHeld => ?_)
              · exact (Off.refl _ _).drew
              have hownp : wz.drew.ownsRow w0.heap.size 38 6 (.slice vx (no + k) vc) (no + k) (cellsC 6 (no + k) (dRows ⟨a0_0, a0_1, rate, buf, a0_4⟩ (catF no f g))) := hown
              have hSp : Blk wz.drew SB 32 (stL sk).toArray := hSk
              clear hown hSk
              generalize wz.drew = p0 at *
              refine wpAnyH_take (i := 0) (v := .agg (stL s').toArray) rfl (by kernel_rfl) (by kernel_rfl) (by kernel_rfl) (fun _ _ _ h => h) (yieldsIf_load_mid (by rfl) _ _ rfl A15 0 rfl (stL s') _ (fun w' hw => blk_range (hA15.off hw hx15.out)) Try.underlying32 rfl (stL_info s')) (by assumption) ?_
              try simp only [lay]
              refine tk0 1 rfl ?_; try simp only [lay]
              refine wpAnyH_take (i := 2) (v := .agg (rdL q).toArray) rfl (by kernel_rfl) (by kernel_rfl) (by kernel_rfl) (fun _ _ _ h => h) (yieldsIf_load_mid (by rfl) _ _ rfl A16 0 rfl (rdL q) _ (fun w' hw => blk_range (hA16.off hw hx16.out)) Try.underlying38 rfl (rdL_info q)) (by assumption) ?_
              try simp only [lay]
              refine wpAnyH_ready (rs := [3]) (by kernel_rfl) (by simp) ?_
              refine AllReadyH.cons rfl (fun K hK => ?_) AllReadyH.nil
              go_simp
              simp only [rdL]
              go_simp
              have hNw : Blk (p0.alloc (.cells #[.int .i64 (q 0), .int .i64 (q 1), .int .i64 (q 2), .int .i64 (q 3), .int .i64 (q 4), .int .i64 (q 5)] 38)) p0.heap.size 38 #[.int .i64 (q 0), .int .i64 (q 1), .int .i64 (q 2), .int .i64 (q 3), .int .i64 (q 4), .int .i64 (q 5)] := Blk.new _ _ _
              have hh : Off (fun gg => gg = SB ∨ (Value.slice vx (no + k) vc).ownBlock = some gg) wz (p0.alloc (.cells #[.int .i64 (q 0), .int .i64 (q 1), .int .i64 (q 2), .int .i64 (q 3), .int .i64 (q 4), .int .i64 (q 5)] 38)) := hHeld.alloc _
              have hown1 := hownp.alloc (.cells #[.int .i64 (q 0), .int .i64 (q 1), .int .i64 (q 2), .int .i64 (q 3), .int .i64 (q 4), .int .i64 (q 5)] 38)
              have hSp1 := hSp.alloc (.cells #[.int .i64 (q 0), .int .i64 (q 1), .int .i64 (q 2), .int .i64 (q 3), .int .i64 (q 4), .int .i64 (q 5)] 38)
              have hp0s := hHeld.size
              have hob : Hid (∀ gg, (Value.slice vx (no + k) vc).ownBlock = some gg → w0.heap.size ≤ gg) := fun gg e => (own_lt hownp e).1
              clear hHeld hownp hSp
              refine hK.out _ _ ?_ (fun hHeld => ?_)
              · exact hh
              clear hK K hh
              try simp only [lay]
              have hp1s : p0.heap.size < ((p0.alloc (.cells #[.int .i64 (q 0), .int .i64 (q 1), .int .i64 (q 2), .int .i64 (q 3), .int .i64 (q 4), .int .i64 (q 5)] 38))).heap.size := hNw.lt
              generalize (p0.alloc (.cells #[.int .i64 (q 0), .int .i64 (q 1), .int .i64 (q 2), .int .i64 (q 3), .int .i64 (q 4), .int .i64 (q 5)] 38)) = p1 at *
              generalize p0.heap.size = LN at *
              have hwzs := hbw.size
              have hqfs := hoff.size
              refine wpAnyH_ready (rs := [4]) (by kernel_rfl) (by simp) ?_
              refine AllReadyH.cons rfl (fun K hK => ?_) AllReadyH.nil
              rw [if_pos (by rfl)]
              refine wp_append_lies _ (.tmp 62) (.tmp 64) 27 rfl w0.heap.size 38 i0_ (.agg #[.int .i64 0, .int .i64 0, .int .i64 0, .int .i64 0, .int .i64 0, .int .i64 0]) 6 48 Try.underlying27 hi hz0 hz1 hz2 rfl (by omega) (.slice vx (no + k) vc) (no + k) (cellsC 6 (no + k) (dRows ⟨a0_0, a0_1, rate, buf, a0_4⟩ (catF no f g))) rfl hown1 ⟨LN, 0, none⟩ 1 1 (rdL q) rfl rfl hNw.news (by simp [rdL, Value.oneCell']) (by omega) (by simp only [maxLen]; omega) (by omega) (by omega) _ rfl ?_
              intro gA cA p2 hown2 hgrow2 hat2 hlt2
              have hS2 : Blk p2 SB 32 (stL sk).toArray := hSp1.grown hgrow2 (fun e => (hvb.out SB e.symm).1 rfl)
              have hgA : gA ≠ SB ∧ ((Value.slice ao no co).ownBlock = some gA ∨ qf.heap.size ≤ gA) := by
                rcases hat2 with h | h
                · exact hvb.out gA h
                · have h2 := hSp1.lt
                  exact ⟨by omega, .inr (by omega)⟩
              have hh : Off (fun gg => gg = SB ∨ (Value.slice vx (no + k) vc).ownBlock = some gg) wz p2 := hHeld.trans (Off.of_grown hgrow2 (fun gg e _ => .inr e))
              clear hHeld hown1 hSp1 hgrow2 hat2 hNw
              refine hK.out _ _ ?_ (fun hHeld => ?_)
              · exact hh
              clear hK K hh
              try simp only [lay]
              refine wpAnyH_ready (rs := [5]) (by kernel_rfl) (by simp) ?_
              refine AllReadyH.cons rfl (fun K hK => ?_) AllReadyH.nil
              rw [if_pos (by rfl)]
              refine wp_store_row _ _ _ rfl SB (stL s').toArray rfl rfl 32 (stL sk).toArray hS2 (stL_info s') rfl (stL_one s') ?_
              refine hK.out _ _ ?_ (fun hHeld3 => ?_)
              · exact off_setRow hHeld (fun _ => .inl rfl) _
              clear hK K hHeld
              try simp only [lay, Act.put]
              refine tk0 6 rfl ?_; try simp only [lay]
              refine wpAnyH_done (by kernel_rfl) ?_ _
              have hSf : Hid (Blk (p2.setRow SB (stL s').toArray) SB 32 (stL (dRun ⟨a0_0, a0_1, rate, buf, a0_4⟩ (catF no f g) (no + (k + 1)))).toArray) := by
                have h : dRun ⟨a0_0, a0_1, rate, buf, a0_4⟩ (catF no f g) (no + (k + 1)) = s' := by
                  show dGo ⟨a0_0, a0_1, rate, buf, a0_4⟩ (dRun ⟨a0_0, a0_1, rate, buf, a0_4⟩ (catF no f g) (no + k)) (catF no f g (no + k) 0) (catF no f g (no + k) 1) = s'
                  rw [hsk.out, cat_r, cat_r, ← hx.out, ← hy.out]
                  exact hs'.out
                rw [h]
                exact setRow_heap _ _ _ _ _ _ hS2
              have hOf : Hid ((p2.setRow SB (stL s').toArray).ownsRow w0.heap.size 38 6 (.slice (some ⟨gA, 0, none⟩) (no + k + 1) cA) (no + (k + 1)) (cellsC 6 (no + (k + 1)) (dRows ⟨a0_0, a0_1, rate, buf, a0_4⟩ (catF no f g)))) := by
                have e : ∀ j, dRows ⟨a0_0, a0_1, rate, buf, a0_4⟩ (catF no f g) (no + k) j = q j := fun j => by
                  show dRow ⟨a0_0, a0_1, rate, buf, a0_4⟩ (dRun ⟨a0_0, a0_1, rate, buf, a0_4⟩ (catF no f g) (no + k)) j = q j
                  rw [hsk.out, hq.out]
                have h : cellsC 6 (no + k + 1) (dRows ⟨a0_0, a0_1, rate, buf, a0_4⟩ (catF no f g)) = cellsC 6 (no + k) (dRows ⟨a0_0, a0_1, rate, buf, a0_4⟩ (catF no f g)) ++ rdL q := by
                  rw [cellsC_succ]
                  congr 1
                  show [Value.int .i64 (dRows ⟨a0_0, a0_1, rate, buf, a0_4⟩ (catF no f g) (no + k) 0), .int .i64 (dRows ⟨a0_0, a0_1, rate, buf, a0_4⟩ (catF no f g) (no + k) 1), .int .i64 (dRows ⟨a0_0, a0_1, rate, buf, a0_4⟩ (catF no f g) (no + k) 2), .int .i64 (dRows ⟨a0_0, a0_1, rate, buf, a0_4⟩ (catF no f g) (no + k) 3), .int .i64 (dRows ⟨a0_0, a0_1, rate, buf, a0_4⟩ (catF no f g) (no + k) 4), .int .i64 (dRows ⟨a0_0, a0_1, rate, buf, a0_4⟩ (catF no f g) (no + k) 5)] = _
                  rw [e, e, e, e, e, e]
                  rfl
                show (p2.setRow SB (stL s').toArray).ownsRow w0.heap.size 38 6 (.slice (some ⟨gA, 0, none⟩) (no + k + 1) cA) (no + k + 1) (cellsC 6 (no + k + 1) (dRows ⟨a0_0, a0_1, rate, buf, a0_4⟩ (catF no f g)))
                rw [h]
                refine hown2.kept (grown_setRow _ _ _) (.inr (fun e => hgA.1 ?_))
                simpa [Value.ownBlock] using e
              have hVf : Hid (∀ gg, (Value.slice (some ⟨gA, 0, none⟩) (no + k + 1) cA).ownBlock = some gg → gg ≠ SB ∧ ((Value.slice ao no co).ownBlock = some gg ∨ qf.heap.size ≤ gg)) := fun gg e => by
                obtain rfl : gA = gg := by simpa [Value.ownBlock] using e
                exact hgA
              have hBf9 : Hid (Below w0.heap.size w0 (p2.setRow SB (stL s').toArray)) := hbw.trans (hHeld3.below (B := w0.heap.size) (fun gg h => h.elim (fun e => by have := hSB.out; omega) (fun e => hob.out gg e)) hwzs)
              have hFf : Hid (Off (fun gg => gg = SB ∨ (Value.slice ao no co).ownBlock = some gg) qf (p2.setRow SB (stL s').toArray)) := off_then hoff hHeld3 (fun gg hg h => h.elim .inl (fun e => (hvb.out gg e).2.elim .inr (fun h2 => absurd hg (by omega))))
              have hlate2 : Hid (∀ q, q < k + 1 → dLate ⟨a0_0, a0_1, rate, buf, a0_4⟩ (g q 0) (g q 1)) := fun q hq => by
                rcases Nat.lt_succ_iff_lt_or_eq.1 hq with h | rfl
                · exact hlate.out q h
                · rw [← hx.out, ← hy.out]; exact HL.out
              clear hHeld3 hown2 hS2 hoff hbw hA15 hA16
              generalize p2.setRow SB (stL s').toArray = wf at *
              go_wp2
              go_roundw
              case rel => exact ⟨k + 1, by go_num, by omega, hlate2, hOf.out, hSf.out, hBf9.out, hFf.out, hVf⟩
              case measure => simp [intOf]; omega
            · have he2 : er2 = 2 := by
                rcases HQf.out with ⟨h, _⟩ | ⟨_, h⟩
                · exact absurd (by have h3 := (cat_all h).2 k hlt; rwa [← hx.out, ← hy.out] at h3) hL
                · exact h
              subst he2
              refine (step_lateL ⟨a0_0, a0_1, rate, buf, a0_4⟩ sk x y _ HR.out HOK.out hL).mono ?_
              rintro e w' ⟨s', q, rfl, os2, d2, rfl⟩
              have hlw9 := hbw.size
              replace hbw := hbw.trans (below_more wl os2 d2 w0.heap.size hlw9)
              clear hB9 hL9 hlw9 hSk hown hoff hL
              generalize wl.more os2 d2 = wy at *
              have hwy := hbw.size
              have hZr : Blk (((wy.alloc (.cells #[.int .i64 0, .int .i64 0, .int .i64 0, .int .i64 0, .int .i64 0, .int .i64 0, .int .i64 0, .int .i64 0, .int .i64 0, .int .i64 0, .int .i64 0, .int .i64 0, .int .i64 0, .int .i64 0] 32)).alloc (.cells #[.int .i64 0, .int .i64 0, .int .i64 0, .int .i64 0, .int .i64 0, .int .i64 0] 38)).setRow wy.heap.size (stL s').toArray) (wy.heap.size + 1) 38 #[.int .i64 0, .int .i64 0, .int .i64 0, .int .i64 0, .int .i64 0, .int .i64 0] := blk_setRow (Blk.new' (by simp)) (by omega)
              go_upto_region 11 with (first | (refine wpList_store_row rfl _ _ _ rfl wy.heap.size (stL s').toArray rfl rfl 32 #[.int .i64 0, .int .i64 0, .int .i64 0, .int .i64 0, .int .i64 0, .int .i64 0, .int .i64 0, .int .i64 0, .int .i64 0, .int .i64 0, .int .i64 0, .int .i64 0, .int .i64 0, .int .i64 0] ((Blk.new wy _ _).alloc _) (stL_info s') rfl (stL_one s') ?_) | (refine wpList_store_row rfl _ _ _ rfl (wy.heap.size + 1) (rdL q).toArray rfl rfl 38 #[.int .i64 0, .int .i64 0, .int .i64 0, .int .i64 0, .int .i64 0, .int .i64 0] hZr (rdL_info q) rfl (rdL_one q) ?_))
              replace hbw : Below w0.heap.size w0 ((((wy.alloc (.cells #[.int .i64 0, .int .i64 0, .int .i64 0, .int .i64 0, .int .i64 0, .int .i64 0, .int .i64 0, .int .i64 0, .int .i64 0, .int .i64 0, .int .i64 0, .int .i64 0, .int .i64 0, .int .i64 0] 32)).alloc (.cells #[.int .i64 0, .int .i64 0, .int .i64 0, .int .i64 0, .int .i64 0, .int .i64 0] 38)).setRow wy.heap.size (stL s').toArray).setRow (wy.heap.size + 1) (rdL q).toArray) := below_setRow (below_setRow ((hbw.alloc hwy _).alloc (by simp; omega) _) hwy _) (by omega) _
              clear hZr hwy
              generalize ((((wy.alloc (.cells #[.int .i64 0, .int .i64 0, .int .i64 0, .int .i64 0, .int .i64 0, .int .i64 0, .int .i64 0, .int .i64 0, .int .i64 0, .int .i64 0, .int .i64 0, .int .i64 0, .int .i64 0, .int .i64 0] 32)).alloc (.cells #[.int .i64 0, .int .i64 0, .int .i64 0, .int .i64 0, .int .i64 0, .int .i64 0] 38)).setRow wy.heap.size (stL s').toArray).setRow (wy.heap.size + 1) (rdL q).toArray) = wz at *
              have HBz := Lib.hid hbw
              clear hbw
              go_wp2
              go_ret
              exact ⟨rfl, HM0.out.trans (HBz.out.mono HM0.out.size)⟩
          · obtain rfl : k = len2 := by omega
            have hall : dAll ⟨a0_0, a0_1, rate, buf, a0_4⟩ (catF no f g) (no + k) := cat_of HA.out fun q hq => hlate.out q hq
            rcases HQf.out with ⟨_, he2, hnx, ht, hrx, hfx⟩ | ⟨hno2, _⟩
            case inr => exact absurd hall hno2
            subst he2
            subst hnx
            have hTw : Blk wr TB 32 (stL t).toArray := hTf.off hoff (by
              rintro (h | h)
              · omega
              · have := hxS.out _ h
                omega)
            have hrw : RowC wr 6 ax (no + k) (dRows ⟨a0_0, a0_1, rate, buf, a0_4⟩ (catF no f g)) := rowC_off hrx hoff (fun p hp h => by
              have h1 := hfx p hp
              rcases h with h | h
              · omega
              · have := hxS.out _ h
                omega)
            obtain ⟨vx, vc, hvx, -⟩ := own_sliceC hown
            subst hvx
            have hrv : RowC wr 6 vx (no + k) (dRows ⟨a0_0, a0_1, rate, buf, a0_4⟩ (catF no f g)) := RowC.of_own (by omega) hown
            have hok : (dRun ⟨a0_0, a0_1, rate, buf, a0_4⟩ (catF no f g) (no + k)).ok ⟨a0_0, a0_1, rate, buf, a0_4⟩ := run_ok HR.out _ (fun q hq => hall q hq)
            have hI : (dRun ⟨a0_0, a0_1, rate, buf, a0_4⟩ (catF no f g) (no + k)).inI := DSt.inI_of HR.out hok
            have HQB : Hid (∀ q, q < no + k → ∀ j, InI64 (dRows ⟨a0_0, a0_1, rate, buf, a0_4⟩ (catF no f g) q j)) := fun q hq j => by
              have h := row_pos HR.out (run_ok HR.out _ (fun z hz => hall z (by omega)) : (dRun ⟨a0_0, a0_1, rate, buf, a0_4⟩ (catF no f g) q).ok ⟨a0_0, a0_1, rate, buf, a0_4⟩) j
              show InI64 (dRow ⟨a0_0, a0_1, rate, buf, a0_4⟩ (dRun ⟨a0_0, a0_1, rate, buf, a0_4⟩ (catF no f g) q) j)
              unfold InI64
              omega
            rw [ht] at hTw
            obtain ⟨sk, hsk⟩ : ∃ sk, Hid (dRun ⟨a0_0, a0_1, rate, buf, a0_4⟩ (catF no f g) (no + k) = sk) := ⟨_, rfl⟩
            rw [hsk.out] at hTw hSk hI
            have hEQ : (Op.equal 32 (.agg (stL sk).toArray) (.agg (stL sk).toArray)).run Try.prog wr = .ok true wr := by
              have h := eq_st sk sk hI hI wr
              rwa [decide_eq_true rfl] at h
            have HEQ := Lib.hid hEQ
            have HBw := Lib.hid hbw
            have lS2 := hSk.lt
            have lT2 := hTw.lt
            clear hEQ hbw hown hoff hvb hTf hlate hall hrx hfx hok hI ht
            go_wp2_with (first | (refine BigFrame.wpList_want (by rfl) (fun K hK => wp_load_row _ _ rfl SB rfl _ _ _ _ hSk Try.underlying32 rfl (stL_info sk) (hK _ _ ?_))) | (refine BigFrame.wpList_want (by rfl) (fun K hK => wp_load_row _ _ rfl TB rfl _ _ _ _ hTw Try.underlying32 rfl (stL_info sk) (hK _ _ ?_))) | (refine BigFrame.wpList_want (by rfl) (fun K hK => wp_eql _ _ _ _ rfl (stL sk).toArray (stL sk).toArray rfl rfl guard_st true HEQ.out (hK _ _ ?_))) | (rw [if_pos (by rfl)]; refine wp_load_row _ _ rfl SB rfl _ _ _ _ hSk Try.underlying32 rfl (stL_info sk) ?_) | (rw [if_pos (by rfl)]; refine wp_load_row _ _ rfl TB rfl _ _ _ _ hTw Try.underlying32 rfl (stL_info sk) ?_) | (rw [if_pos (by rfl)]; refine wp_eql _ _ _ _ rfl (stL sk).toArray (stL sk).toArray rfl rfl guard_st true HEQ.out ?_) | (go_at_call 15; refine (requal_any vx vc ax cx (no + k) (dRows ⟨a0_0, a0_1, rate, buf, a0_4⟩ (catF no f g)) _ hrv hrw (by omega) HQB).mono ?_; rintro e w' ⟨rfl, os9, d9, rfl⟩))
            go_wp2
            go_ret
            exact ⟨rfl, below_then (HM0.out.trans (HBw.out.mono HM0.out.size)) (Nat.le_trans HM0.out.size HBw.out.size) (by repeat (first | (with_reducible assumption) | (with_reducible exact More.refl _) | (with_reducible refine More.alloc ?_ _) | (with_reducible refine More.more ?_ _ _) | (with_reducible refine More.drewN ?_ _) | (with_reducible refine More.drew ?_)))⟩
    · go_simp
      have hT : Blk (q1.alloc (.cells #[.int .i64 0, .int .i64 0, .int .i64 0, .int .i64 0, .int .i64 0, .int .i64 0, .int .i64 0, .int .i64 0, .int .i64 0, .int .i64 0, .int .i64 0, .int .i64 0, .int .i64 0, .int .i64 0] 32)) q1.heap.size 32 #[.int .i64 0, .int .i64 0, .int .i64 0, .int .i64 0, .int .i64 0, .int .i64 0, .int .i64 0, .int .i64 0, .int .i64 0, .int .i64 0, .int .i64 0, .int .i64 0, .int .i64 0, .int .i64 0] := Blk.new _ _ _
      have hh : Below w2.heap.size w2 (q1.alloc (.cells #[.int .i64 0, .int .i64 0, .int .i64 0, .int .i64 0, .int .i64 0, .int .i64 0, .int .i64 0, .int .i64 0, .int .i64 0, .int .i64 0, .int .i64 0, .int .i64 0, .int .i64 0, .int .i64 0] 32)) := hHeld.alloc hHeld.size _
      have hTB := hHeld.size
      replace hL := hL.alloc (.cells #[.int .i64 0, .int .i64 0, .int .i64 0, .int .i64 0, .int .i64 0, .int .i64 0, .int .i64 0, .int .i64 0, .int .i64 0, .int .i64 0, .int .i64 0, .int .i64 0, .int .i64 0, .int .i64 0] 32)
      clear hHeld
      refine hK.out _ _ ?_ (fun hHeld => ?_)
      · exact hh
      clear hK K hh
      try simp only [lay]
      generalize (q1.alloc (.cells #[.int .i64 0, .int .i64 0, .int .i64 0, .int .i64 0, .int .i64 0, .int .i64 0, .int .i64 0, .int .i64 0, .int .i64 0, .int .i64 0, .int .i64 0, .int .i64 0, .int .i64 0, .int .i64 0] 32)) = q2 at *
      generalize q1.heap.size = TB at *
      refine wpAnyH_ready (rs := [4]) (by kernel_rfl) (by simp) ?_
      refine AllReadyH.cons rfl (fun K hK => ?_) AllReadyH.nil
      go_simp
      refine (concat2 LB a1 len1 cap1 f a2 len2 cap2 g _ (hL.cell 0) (hL.cell 1) hL.lt (hz1.below hHeld (Nat.le_refl _)) (hz2.below hHeld (Nat.le_refl _)) (by omega) (by omega)).mono ?_
      rintro e q3 ⟨v0, rfl, hown0, hbc⟩
      obtain ⟨av, ac, hv0, -⟩ := own_sliceC hown0
      subst hv0
      have hCF : RowC q3 2 av (len1 + len2) (catF len1 f g) := by
        rw [cat_cells] at hown0
        exact RowC.of_own (by omega) hown0
      have hh : Below w2.heap.size w2 q3 := hHeld.trans (hbc.mono hHeld.size)
      replace hT := hT.below hbc hT.lt
      clear hHeld hown0 hbc hL
      refine hK.out _ _ ?_ (fun hHeld => ?_)
      · exact hh
      clear hK K hh
      try simp only [lay]
      refine wpAnyH_ready (rs := [5]) (by kernel_rfl) (by simp) ?_
      refine AllReadyH.cons rfl (fun K hK => ?_) AllReadyH.nil
      go_simp
      refine (play_all ⟨a0_0, a0_1, rate, buf, a0_4⟩ av (len1 + len2) ac (catF len1 f g) _ hCF (by omega) HR.out).mono ?_
      rintro e q4 ⟨ax, nx, cx, t, er2, rfl, HQ0, hbp⟩
      have hTl := hT.lt
      have HQ : Hid ((dAll ⟨a0_0, a0_1, rate, buf, a0_4⟩ (catF len1 f g) (len1 + len2) ∧ er2 = 0 ∧ nx = len1 + len2 ∧ t = dRun ⟨a0_0, a0_1, rate, buf, a0_4⟩ (catF len1 f g) (len1 + len2) ∧ RowC q4 6 ax (len1 + len2) (dRows ⟨a0_0, a0_1, rate, buf, a0_4⟩ (catF len1 f g)) ∧ (∀ p : Addr, ax = some p → w2.heap.size ≤ p.block ∧ p.block < q4.heap.size ∧ p.block ≠ TB)) ∨ (¬ dAll ⟨a0_0, a0_1, rate, buf, a0_4⟩ (catF len1 f g) (len1 + len2) ∧ er2 = 2)) := by
        have hhs := hHeld.size
        rcases HQ0.out with ⟨x1, x2, x3, x4, x5⟩ | h
        · refine .inl ⟨x1, x2, x3, x4, RowC.of_own (by omega) x5, fun p hp => ?_⟩
          subst hp
          have h := own_lt x5 rfl
          exact ⟨by omega, h.2, by omega⟩
        · exact .inr h
      replace hT := hT.below hbp hT.lt
      clear hTl
      have hh : Below w2.heap.size w2 q4 := hHeld.trans (hbp.mono hHeld.size)
      clear hHeld hbp hCF HQ0
      refine hK.out _ _ ?_ (fun hHeld => ?_)
      · exact hh
      clear hK K hh
      try simp only [lay]
      refine tk0 6 rfl ?_; try simp only [lay]
      refine tk0 7 rfl ?_; try simp only [lay]
      refine tk0 8 rfl ?_; try simp only [lay]
      refine tk0 9 rfl ?_; try simp only [lay]
      refine tk0 11 rfl ?_; try simp only [lay]
      refine wpAnyH_ready (rs := [12]) (by kernel_rfl) (by simp) ?_
      refine AllReadyH.cons rfl (fun K hK => ?_) AllReadyH.nil
      rw [if_pos (by rfl)]
      refine wp_store_row _ _ _ rfl TB (stL t).toArray rfl rfl 32 #[.int .i64 0, .int .i64 0, .int .i64 0, .int .i64 0, .int .i64 0, .int .i64 0, .int .i64 0, .int .i64 0, .int .i64 0, .int .i64 0, .int .i64 0, .int .i64 0, .int .i64 0, .int .i64 0] hT (stL_info t) rfl (stL_one t) ?_
      refine hK.out _ _ ?_ (fun hHeld3 => ?_)
      · exact below_setRow hHeld hTB _
      clear hK K
      try simp only [lay, Act.put]
      refine tk0 13 rfl ?_; try simp only [lay]
      refine wpAnyH_done (by kernel_rfl) ?_ _
      have hTf : Blk (q4.setRow TB (stL t).toArray) TB 32 (stL t).toArray := setRow_heap _ _ _ _ _ _ hT
      have HQf : Hid ((dAll ⟨a0_0, a0_1, rate, buf, a0_4⟩ (catF len1 f g) (len1 + len2) ∧ er2 = 0 ∧ nx = len1 + len2 ∧ t = dRun ⟨a0_0, a0_1, rate, buf, a0_4⟩ (catF len1 f g) (len1 + len2) ∧ RowC (q4.setRow TB (stL t).toArray) 6 ax (len1 + len2) (dRows ⟨a0_0, a0_1, rate, buf, a0_4⟩ (catF len1 f g)) ∧ (∀ p : Addr, ax = some p → w2.heap.size ≤ p.block ∧ p.block < (q4.setRow TB (stL t).toArray).heap.size ∧ p.block ≠ TB)) ∨ (¬ dAll ⟨a0_0, a0_1, rate, buf, a0_4⟩ (catF len1 f g) (len1 + len2) ∧ er2 = 2)) := by
        rcases HQ.out with ⟨x1, x2, x3, x4, x5, x6⟩ | h
        · exact .inl ⟨x1, x2, x3, x4, rowC_setRow x5 _ (fun p hp => Ne.symm (x6 p hp).2.2), fun p hp => by simpa [World.setRow] using x6 p hp⟩
        · exact .inr h
      clear hHeld HQ hT
      generalize (q4.setRow TB (stL t).toArray) = qf at *
      have hBf := hB.below hHeld3 lR
      have hSf := hS.below hHeld3 lS
      have HMf : Hid (Below w.heap.size w qf) := HM2.out.trans (hHeld3.mono HM2.out.size)
      rcases HP.out with ⟨ha, he0, hno, hs, hown⟩ | ⟨ha, he0⟩
      case inr =>
        subst he0
        have he2 : er2 = 2 := by
          rcases HQf.out with ⟨h, _⟩ | ⟨_, h⟩
          · exact absurd (cat_all h).1 ha
          · exact h
        subst he2
        clear ha hBf hSf hTf
        go_wp2
        go_ret
        exact ⟨rfl, HMf.out⟩
      subst he0
      subst hno
      have HA := Lib.hid ha
      have hx : qf.ownsRow w0.heap.size 38 6 (.slice ao no co) no (cellsC 6 no (dRows ⟨a0_0, a0_1, rate, buf, a0_4⟩ (catF no f g))) := by
        rw [← rows_cat]
        exact own_below (own_below hown HB12.out) hHeld3
      have hxS : Hid (∀ gg, (Value.slice ao no co).ownBlock = some gg → gg < SB) := fun gg e => by
        have h := (own_lt hown e).2
        have := hSB.out
        omega
      have hSR : Blk qf SB 32 (stL (dRun ⟨a0_0, a0_1, rate, buf, a0_4⟩ (catF no f g) no)).toArray := by
        rw [run_cat, ← hs]
        exact hSf
      have HBq : Hid (Below w0.heap.size w0 qf) := (HB01.out.trans (HB12.out.mono hs01)).trans (hHeld3.mono (Nat.le_trans hs01 HB12.out.size))
      have lSf := hSR.lt
      clear hown hs ha hB hS hz1 hz2 hrR hSf hBf hHeld3
      go_wp2_with fail
      go_loopw [7, 44] (fun v c wr => ∃ k : Nat, c = .int .i64 k ∧ k ≤ len2 ∧ Hid (∀ q, q < k → dLate ⟨a0_0, a0_1, rate, buf, a0_4⟩ (g q 0) (g q 1)) ∧ wr.ownsRow w0.heap.size 38 6 v (no + k) (cellsC 6 (no + k) (dRows ⟨a0_0, a0_1, rate, buf, a0_4⟩ (catF no f g))) ∧ Blk wr SB 32 (stL (dRun ⟨a0_0, a0_1, rate, buf, a0_4⟩ (catF no f g) (no + k))).toArray ∧ Below w0.heap.size w0 wr ∧ Off (fun gg => gg = SB ∨ (Value.slice ao no co).ownBlock = some gg) qf wr ∧ Hid (∀ gg, v.ownBlock = some gg → gg ≠ SB ∧ ((Value.slice ao no co).ownBlock = some gg ∨ qf.heap.size ≤ gg))) (fun _ c _ => len2 - (intOf c).toNat)
      case atStart => exact ⟨0, rfl, Nat.zero_le _, fun q h => by omega, hx, hSR, HBq.out, Off.refl _ _, fun gg e => ⟨by have := hxS.out gg e; omega, .inl e⟩⟩
      case round =>
        obtain ⟨k, rfl, hk, hlate, hown, hSk, hbw, hoff, hvb⟩ := hrel
        have hsz := hbw.size
        by_cases hlt : k < len2
        · have hB9 : Blk wr w.heap.size 24 #[.int .i64 a0_0, .int .i64 a0_1, .int .i64 rate, .int .i64 buf, .int .i64 a0_4] := hB00.out.below hbw hlw
          obtain ⟨b, off, x, y, rfl, hb, hcx, hcy, hx, hy⟩ := (hz20.out.below hbw (Nat.le_refl _)).at2 hlt
          have t1 : (k : Int) < (len2 : Int) := by omega
          have HAk : Hid (dAll ⟨a0_0, a0_1, rate, buf, a0_4⟩ (catF no f g) (no + k)) := cat_of HA.out fun q hq => hlate.out q hq
          have HOK := Lib.hid (run_ok HR.out _ HAk.out : (dRun ⟨a0_0, a0_1, rate, buf, a0_4⟩ (catF no f g) (no + k)).ok ⟨a0_0, a0_1, rate, buf, a0_4⟩)
          obtain ⟨sk, hsk⟩ : ∃ sk, Hid (dRun ⟨a0_0, a0_1, rate, buf, a0_4⟩ (catF no f g) (no + k) = sk) := ⟨_, rfl⟩
          rw [hsk.out] at hSk HOK
          have hlsz := hSk.lt
          obtain ⟨vx, vc, hvx, -⟩ := own_sliceC hown
          subst hvx
          go_upto_region 10 with fail
          have hL9 : Blk (wr.alloc (.cells #[.int .i64 x, .int .i64 y] 22)) wr.heap.size 22 #[.int .i64 x, .int .i64 y] := Blk.new _ _ _
          replace hB9 := hB9.alloc (.cells #[.int .i64 x, .int .i64 y] 22)
          replace hSk := hSk.alloc (.cells #[.int .i64 x, .int .i64 y] 22)
          replace hown := hown.alloc (.cells #[.int .i64 x, .int .i64 y] 22)
          replace hbw := hbw.alloc hsz (.cells #[.int .i64 x, .int .i64 y] 22)
          replace hoff := hoff.alloc (.cells #[.int .i64 x, .int .i64 y] 22)
          clear hcx hcy hb hsz hlsz
          generalize wr.alloc (.cells #[.int .i64 x, .int .i64 y] 22) = wl at *
          generalize wr.heap.size = LK at *
          go_wp2_with (first | (refine wpList_load_row rfl _ _ rfl w.heap.size rfl _ _ _ _ hB9 Try.underlying24 rfl (by kernel_rfl) ?_) | (refine wpList_load_row rfl _ _ rfl SB rfl _ _ _ _ hSk Try.underlying32 rfl (stL_info sk) ?_) | (refine wpList_load_row rfl _ _ rfl LK rfl _ _ _ _ hL9 Try.underlying22 rfl (by kernel_rfl) ?_))
          by_cases hL : dLate ⟨a0_0, a0_1, rate, buf, a0_4⟩ x y
          · have HL := Lib.hid hL
            clear hL
            obtain ⟨s', hs'⟩ : ∃ s', Hid (dGo ⟨a0_0, a0_1, rate, buf, a0_4⟩ sk x y = s') := ⟨_, rfl⟩
            obtain ⟨q, hq⟩ : ∃ q, Hid (dRow ⟨a0_0, a0_1, rate, buf, a0_4⟩ sk = q) := ⟨_, rfl⟩
            refine (step_goL ⟨a0_0, a0_1, rate, buf, a0_4⟩ sk x y _ HR.out HOK.out HL.out s' hs' q hq).mono ?_
            rintro e w' ⟨rfl, os2, d2, rfl⟩
            replace hSk := hSk.more os2 d2
            replace hown := own_more hown os2 d2
            replace hoff := hoff.more os2 d2
            have hlw9 := hbw.size
            replace hbw := hbw.trans (below_more wl os2 d2 w0.heap.size hlw9)
            clear hB9 hL9 hlw9
            generalize wl.more os2 d2 = wy at *
            have hly := hSk.lt
            have hwy := hbw.size
            have hZr : Blk (((wy.alloc (.cells #[.int .i64 0, .int .i64 0, .int .i64 0, .int .i64 0, .int .i64 0, .int .i64 0, .int .i64 0, .int .i64 0, .int .i64 0, .int .i64 0, .int .i64 0, .int .i64 0, .int .i64 0, .int .i64 0] 32)).alloc (.cells #[.int .i64 0, .int .i64 0, .int .i64 0, .int .i64 0, .int .i64 0, .int .i64 0] 38)).setRow wy.heap.size (stL s').toArray) (wy.heap.size + 1) 38 #[.int .i64 0, .int .i64 0, .int .i64 0, .int .i64 0, .int .i64 0, .int .i64 0] := blk_setRow (Blk.new' (by simp)) (by omega)
            go_upto_region 11 with (first | (refine wpList_store_row rfl _ _ _ rfl wy.heap.size (stL s').toArray rfl rfl 32 #[.int .i64 0, .int .i64 0, .int .i64 0, .int .i64 0, .int .i64 0, .int .i64 0, .int .i64 0, .int .i64 0, .int .i64 0, .int .i64 0, .int .i64 0, .int .i64 0, .int .i64 0, .int .i64 0] ((Blk.new wy _ _).alloc _) (stL_info s') rfl (stL_one s') ?_) | (refine wpList_store_row rfl _ _ _ rfl (wy.heap.size + 1) (rdL q).toArray rfl rfl 38 #[.int .i64 0, .int .i64 0, .int .i64 0, .int .i64 0, .int .i64 0, .int .i64 0] hZr (rdL_info q) rfl (rdL_one q) ?_))
            have hA15 : Blk ((((wy.alloc (.cells #[.int .i64 0, .int .i64 0, .int .i64 0, .int .i64 0, .int .i64 0, .int .i64 0, .int .i64 0, .int .i64 0, .int .i64 0, .int .i64 0, .int .i64 0, .int .i64 0, .int .i64 0, .int .i64 0] 32)).alloc (.cells #[.int .i64 0, .int .i64 0, .int .i64 0, .int .i64 0, .int .i64 0, .int .i64 0] 38)).setRow wy.heap.size (stL s').toArray).setRow (wy.heap.size + 1) (rdL q).toArray) wy.heap.size 32 (stL s').toArray := blk_setRow (setRow_heap _ _ _ _ _ _ ((Blk.new wy _ _).alloc _)) (by omega)
            have hA16 : Blk ((((wy.alloc (.cells #[.int .i64 0, .int .i64 0, .int .i64 0, .int .i64 0, .int .i64 0, .int .i64 0, .int .i64 0, .int .i64 0, .int .i64 0, .int .i64 0, .int .i64 0, .int .i64 0, .int .i64 0, .int .i64 0] 32)).alloc (.cells #[.int .i64 0, .int .i64 0, .int .i64 0, .int .i64 0, .int .i64 0, .int .i64 0] 38)).setRow wy.heap.size (stL s').toArray).setRow (wy.heap.size + 1) (rdL q).toArray) (wy.heap.size + 1) 38 (rdL q).toArray := setRow_heap _ _ _ _ _ _ hZr
            replace hSk : Blk ((((wy.alloc (.cells #[.int .i64 0, .int .i64 0, .int .i64 0, .int .i64 0, .int .i64 0, .int .i64 0, .int .i64 0, .int .i64 0, .int .i64 0, .int .i64 0, .int .i64 0, .int .i64 0, .int .i64 0, .int .i64 0] 32)).alloc (.cells #[.int .i64 0, .int .i64 0, .int .i64 0, .int .i64 0, .int .i64 0, .int .i64 0] 38)).setRow wy.heap.size (stL s').toArray).setRow (wy.heap.size + 1) (rdL q).toArray) SB 32 (stL sk).toArray := blk_setRow (blk_setRow ((hSk.alloc _).alloc _) (by omega)) (by omega)
            have hn1 : ∀ gg, gg = wy.heap.size ∨ gg = wy.heap.size + 1 → (Value.slice vx (no + k) vc).ownBlock ≠ some gg := fun gg h e => by
              have h2 := own_lt hown e
              omega
            replace hown : (((((wy.alloc (.cells #[.int .i64 0, .int .i64 0, .int .i64 0, .int .i64 0, .int .i64 0, .int .i64 0, .int .i64 0, .int .i64 0, .int .i64 0, .int .i64 0, .int .i64 0, .int .i64 0, .int .i64 0, .int .i64 0] 32)).alloc (.cells #[.int .i64 0, .int .i64 0, .int .i64 0, .int .i64 0, .int .i64 0, .int .i64 0] 38)).setRow wy.heap.size (stL s').toArray).setRow (wy.heap.size + 1) (rdL q).toArray)).ownsRow w0.heap.size 38 6 (.slice vx (no + k) vc) (no + k) (cellsC 6 (no + k) (dRows ⟨a0_0, a0_1, rate, buf, a0_4⟩ (catF no f g))) := ((((hown.alloc _).alloc _).kept (grown_setRow _ _ _) (.inr (hn1 _ (.inl rfl)))).kept (grown_setRow _ _ _) (.inr (hn1 _ (.inr rfl))))
            replace hbw : Below w0.heap.size w0 ((((wy.alloc (.cells #[.int .i64 0, .int .i64 0, .int .i64 0, .int .i64 0, .int .i64 0, .int .i64 0, .int .i64 0, .int .i64 0, .int .i64 0, .int .i64 0, .int .i64 0, .int .i64 0, .int .i64 0, .int .i64 0] 32)).alloc (.cells #[.int .i64 0, .int .i64 0, .int .i64 0, .int .i64 0, .int .i64 0, .int .i64 0] 38)).setRow wy.heap.size (stL s').toArray).setRow (wy.heap.size + 1) (rdL q).toArray) := below_setRow (below_setRow ((hbw.alloc hwy _).alloc (by simp; omega) _) hwy _) (by omega) _
            replace hoff : Off (fun gg => gg = SB ∨ (Value.slice ao no co).ownBlock = some gg) qf ((((wy.alloc (.cells #[.int .i64 0, .int .i64 0, .int .i64 0, .int .i64 0, .int .i64 0, .int .i64 0, .int .i64 0, .int .i64 0, .int .i64 0, .int .i64 0, .int .i64 0, .int .i64 0, .int .i64 0, .int .i64 0] 32)).alloc (.cells #[.int .i64 0, .int .i64 0, .int .i64 0, .int .i64 0, .int .i64 0, .int .i64 0] 38)).setRow wy.heap.size (stL s').toArray).setRow (wy.heap.size + 1) (rdL q).toArray) := off_setRow (off_setRow ((hoff.alloc _).alloc _) (fun h => absurd h (by have := hoff.size; omega)) _) (fun h => absurd h (by have := hoff.size; omega)) _
            have hx15 : Hid (¬ (wy.heap.size = SB ∨ (Value.slice vx (no + k) vc).ownBlock = some wy.heap.size)) := fun h => h.elim (fun e => by omega) (hn1 _ (.inl rfl))
            have hx16 : Hid (¬ (wy.heap.size + 1 = SB ∨ (Value.slice vx (no + k) vc).ownBlock = some (wy.heap.size + 1))) := fun h => h.elim (fun e => by omega) (hn1 _ (.inr rfl))
            clear hZr hn1 hwy hly
            generalize ((((wy.alloc (.cells #[.int .i64 0, .int .i64 0, .int .i64 0, .int .i64 0, .int .i64 0, .int .i64 0, .int .i64 0, .int .i64 0, .int .i64 0, .int .i64 0, .int .i64 0, .int .i64 0, .int .i64 0, .int .i64 0] 32)).alloc (.cells #[.int .i64 0, .int .i64 0, .int .i64 0, .int .i64 0, .int .i64 0, .int .i64 0] 38)).setRow wy.heap.size (stL s').toArray).setRow (wy.heap.size + 1) (rdL q).toArray) = wz at *
            generalize wy.heap.size + 1 = A16 at *
            generalize wy.heap.size = A15 at *
            have l15 := hA15.lt
            have l16 := hA16.lt
            obtain ⟨i0_, hi, hz0, hz1, hz2⟩ := info_parts roundInfo
            go_upto_region 13 with fail
            refine wp_region_held_drew (S := fun w' => Off (fun gg => gg = SB ∨ (Value.slice vx (no + k) vc).ownBlock = some gg) wz w') (by kernel_rfl) ?_ (fun hHeld => ?_)
            · exact (Off.refl _ _).drew
            have hownp : wz.drew.ownsRow w0.heap.size 38 6 (.slice vx (no + k) vc) (no + k) (cellsC 6 (no + k) (dRows ⟨a0_0, a0_1, rate, buf, a0_4⟩ (catF no f g))) := hown
            have hSp : Blk wz.drew SB 32 (stL sk).toArray := hSk
            clear hown hSk
            generalize wz.drew = p0 at *
            refine wpAnyH_take (i := 0) (v := .agg (stL s').toArray) rfl (by kernel_rfl) (by kernel_rfl) (by kernel_rfl) (fun _ _ _ h => h) (yieldsIf_load_mid (by rfl) _ _ rfl A15 0 rfl (stL s') _ (fun w' hw => blk_range (hA15.off hw hx15.out)) Try.underlying32 rfl (stL_info s')) (by assumption) ?_
            try simp only [lay]
            refine tk0 1 rfl ?_; try simp only [lay]
            refine wpAnyH_take (i := 2) (v := .agg (rdL q).toArray) rfl (by kernel_rfl) (by kernel_rfl) (by kernel_rfl) (fun _ _ _ h => h) (yieldsIf_load_mid (by rfl) _ _ rfl A16 0 rfl (rdL q) _ (fun w' hw => blk_range (hA16.off hw hx16.out)) Try.underlying38 rfl (rdL_info q)) (by assumption) ?_
            try simp only [lay]
            refine wpAnyH_ready (rs := [3]) (by kernel_rfl) (by simp) ?_
            refine AllReadyH.cons rfl (fun K hK => ?_) AllReadyH.nil
            go_simp
            simp only [rdL]
            go_simp
            have hNw : Blk (p0.alloc (.cells #[.int .i64 (q 0), .int .i64 (q 1), .int .i64 (q 2), .int .i64 (q 3), .int .i64 (q 4), .int .i64 (q 5)] 38)) p0.heap.size 38 #[.int .i64 (q 0), .int .i64 (q 1), .int .i64 (q 2), .int .i64 (q 3), .int .i64 (q 4), .int .i64 (q 5)] := Blk.new _ _ _
            have hh : Off (fun gg => gg = SB ∨ (Value.slice vx (no + k) vc).ownBlock = some gg) wz (p0.alloc (.cells #[.int .i64 (q 0), .int .i64 (q 1), .int .i64 (q 2), .int .i64 (q 3), .int .i64 (q 4), .int .i64 (q 5)] 38)) := hHeld.alloc _
            have hown1 := hownp.alloc (.cells #[.int .i64 (q 0), .int .i64 (q 1), .int .i64 (q 2), .int .i64 (q 3), .int .i64 (q 4), .int .i64 (q 5)] 38)
            have hSp1 := hSp.alloc (.cells #[.int .i64 (q 0), .int .i64 (q 1), .int .i64 (q 2), .int .i64 (q 3), .int .i64 (q 4), .int .i64 (q 5)] 38)
            have hp0s := hHeld.size
            have hob : Hid (∀ gg, (Value.slice vx (no + k) vc).ownBlock = some gg → w0.heap.size ≤ gg) := fun gg e => (own_lt hownp e).1
            clear hHeld hownp hSp
            refine hK.out _ _ ?_ (fun hHeld => ?_)
            · exact hh
            clear hK K hh
            try simp only [lay]
            have hp1s : p0.heap.size < ((p0.alloc (.cells #[.int .i64 (q 0), .int .i64 (q 1), .int .i64 (q 2), .int .i64 (q 3), .int .i64 (q 4), .int .i64 (q 5)] 38))).heap.size := hNw.lt
            generalize (p0.alloc (.cells #[.int .i64 (q 0), .int .i64 (q 1), .int .i64 (q 2), .int .i64 (q 3), .int .i64 (q 4), .int .i64 (q 5)] 38)) = p1 at *
            generalize p0.heap.size = LN at *
            have hwzs := hbw.size
            have hqfs := hoff.size
            refine wpAnyH_ready (rs := [4]) (by kernel_rfl) (by simp) ?_
            refine AllReadyH.cons rfl (fun K hK => ?_) AllReadyH.nil
            rw [if_pos (by rfl)]
            refine wp_append_lies _ (.tmp 62) (.tmp 64) 27 rfl w0.heap.size 38 i0_ (.agg #[.int .i64 0, .int .i64 0, .int .i64 0, .int .i64 0, .int .i64 0, .int .i64 0]) 6 48 Try.underlying27 hi hz0 hz1 hz2 rfl (by omega) (.slice vx (no + k) vc) (no + k) (cellsC 6 (no + k) (dRows ⟨a0_0, a0_1, rate, buf, a0_4⟩ (catF no f g))) rfl hown1 ⟨LN, 0, none⟩ 1 1 (rdL q) rfl rfl hNw.news (by simp [rdL, Value.oneCell']) (by omega) (by simp only [maxLen]; omega) (by omega) (by omega) _ rfl ?_
            intro gA cA p2 hown2 hgrow2 hat2 hlt2
            have hS2 : Blk p2 SB 32 (stL sk).toArray := hSp1.grown hgrow2 (fun e => (hvb.out SB e.symm).1 rfl)
            have hgA : gA ≠ SB ∧ ((Value.slice ao no co).ownBlock = some gA ∨ qf.heap.size ≤ gA) := by
              rcases hat2 with h | h
              · exact hvb.out gA h
              · have h2 := hSp1.lt
                exact ⟨by omega, .inr (by omega)⟩
            have hh : Off (fun gg => gg = SB ∨ (Value.slice vx (no + k) vc).ownBlock = some gg) wz p2 := hHeld.trans (Off.of_grown hgrow2 (fun gg e _ => .inr e))
            clear hHeld hown1 hSp1 hgrow2 hat2 hNw
            refine hK.out _ _ ?_ (fun hHeld => ?_)
            · exact hh
            clear hK K hh
            try simp only [lay]
            refine wpAnyH_ready (rs := [5]) (by kernel_rfl) (by simp) ?_
            refine AllReadyH.cons rfl (fun K hK => ?_) AllReadyH.nil
            rw [if_pos (by rfl)]
            refine wp_store_row _ _ _ rfl SB (stL s').toArray rfl rfl 32 (stL sk).toArray hS2 (stL_info s') rfl (stL_one s') ?_
            refine hK.out _ _ ?_ (fun hHeld3 => ?_)
            · exact off_setRow hHeld (fun _ => .inl rfl) _
            clear hK K hHeld
            try simp only [lay, Act.put]
            refine tk0 6 rfl ?_; try simp only [lay]
            refine wpAnyH_done (by kernel_rfl) ?_ _
            have hSf : Hid (Blk (p2.setRow SB (stL s').toArray) SB 32 (stL (dRun ⟨a0_0, a0_1, rate, buf, a0_4⟩ (catF no f g) (no + (k + 1)))).toArray) := by
              have h : dRun ⟨a0_0, a0_1, rate, buf, a0_4⟩ (catF no f g) (no + (k + 1)) = s' := by
                show dGo ⟨a0_0, a0_1, rate, buf, a0_4⟩ (dRun ⟨a0_0, a0_1, rate, buf, a0_4⟩ (catF no f g) (no + k)) (catF no f g (no + k) 0) (catF no f g (no + k) 1) = s'
                rw [hsk.out, cat_r, cat_r, ← hx.out, ← hy.out]
                exact hs'.out
              rw [h]
              exact setRow_heap _ _ _ _ _ _ hS2
            have hOf : Hid ((p2.setRow SB (stL s').toArray).ownsRow w0.heap.size 38 6 (.slice (some ⟨gA, 0, none⟩) (no + k + 1) cA) (no + (k + 1)) (cellsC 6 (no + (k + 1)) (dRows ⟨a0_0, a0_1, rate, buf, a0_4⟩ (catF no f g)))) := by
              have e : ∀ j, dRows ⟨a0_0, a0_1, rate, buf, a0_4⟩ (catF no f g) (no + k) j = q j := fun j => by
                show dRow ⟨a0_0, a0_1, rate, buf, a0_4⟩ (dRun ⟨a0_0, a0_1, rate, buf, a0_4⟩ (catF no f g) (no + k)) j = q j
                rw [hsk.out, hq.out]
              have h : cellsC 6 (no + k + 1) (dRows ⟨a0_0, a0_1, rate, buf, a0_4⟩ (catF no f g)) = cellsC 6 (no + k) (dRows ⟨a0_0, a0_1, rate, buf, a0_4⟩ (catF no f g)) ++ rdL q := by
                rw [cellsC_succ]
                congr 1
                show [Value.int .i64 (dRows ⟨a0_0, a0_1, rate, buf, a0_4⟩ (catF no f g) (no + k) 0), .int .i64 (dRows ⟨a0_0, a0_1, rate, buf, a0_4⟩ (catF no f g) (no + k) 1), .int .i64 (dRows ⟨a0_0, a0_1, rate, buf, a0_4⟩ (catF no f g) (no + k) 2), .int .i64 (dRows ⟨a0_0, a0_1, rate, buf, a0_4⟩ (catF no f g) (no + k) 3), .int .i64 (dRows ⟨a0_0, a0_1, rate, buf, a0_4⟩ (catF no f g) (no + k) 4), .int .i64 (dRows ⟨a0_0, a0_1, rate, buf, a0_4⟩ (catF no f g) (no + k) 5)] = _
                rw [e, e, e, e, e, e]
                rfl
              show (p2.setRow SB (stL s').toArray).ownsRow w0.heap.size 38 6 (.slice (some ⟨gA, 0, none⟩) (no + k + 1) cA) (no + k + 1) (cellsC 6 (no + k + 1) (dRows ⟨a0_0, a0_1, rate, buf, a0_4⟩ (catF no f g)))
              rw [h]
              refine hown2.kept (grown_setRow _ _ _) (.inr (fun e => hgA.1 ?_))
              simpa [Value.ownBlock] using e
            have hVf : Hid (∀ gg, (Value.slice (some ⟨gA, 0, none⟩) (no + k + 1) cA).ownBlock = some gg → gg ≠ SB ∧ ((Value.slice ao no co).ownBlock = some gg ∨ qf.heap.size ≤ gg)) := fun gg e => by
              obtain rfl : gA = gg := by simpa [Value.ownBlock] using e
              exact hgA
            have hBf9 : Hid (Below w0.heap.size w0 (p2.setRow SB (stL s').toArray)) := hbw.trans (hHeld3.below (B := w0.heap.size) (fun gg h => h.elim (fun e => by have := hSB.out; omega) (fun e => hob.out gg e)) hwzs)
            have hFf : Hid (Off (fun gg => gg = SB ∨ (Value.slice ao no co).ownBlock = some gg) qf (p2.setRow SB (stL s').toArray)) := off_then hoff hHeld3 (fun gg hg h => h.elim .inl (fun e => (hvb.out gg e).2.elim .inr (fun h2 => absurd hg (by omega))))
            have hlate2 : Hid (∀ q, q < k + 1 → dLate ⟨a0_0, a0_1, rate, buf, a0_4⟩ (g q 0) (g q 1)) := fun q hq => by
              rcases Nat.lt_succ_iff_lt_or_eq.1 hq with h | rfl
              · exact hlate.out q h
              · rw [← hx.out, ← hy.out]; exact HL.out
            clear hHeld3 hown2 hS2 hoff hbw hA15 hA16
            generalize p2.setRow SB (stL s').toArray = wf at *
            go_wp2
            go_roundw
            case rel => exact ⟨k + 1, by go_num, by omega, hlate2, hOf.out, hSf.out, hBf9.out, hFf.out, hVf⟩
            case measure => simp [intOf]; omega
          · have he2 : er2 = 2 := by
              rcases HQf.out with ⟨h, _⟩ | ⟨_, h⟩
              · exact absurd (by have h3 := (cat_all h).2 k hlt; rwa [← hx.out, ← hy.out] at h3) hL
              · exact h
            subst he2
            refine (step_lateL ⟨a0_0, a0_1, rate, buf, a0_4⟩ sk x y _ HR.out HOK.out hL).mono ?_
            rintro e w' ⟨s', q, rfl, os2, d2, rfl⟩
            have hlw9 := hbw.size
            replace hbw := hbw.trans (below_more wl os2 d2 w0.heap.size hlw9)
            clear hB9 hL9 hlw9 hSk hown hoff hL
            generalize wl.more os2 d2 = wy at *
            have hwy := hbw.size
            have hZr : Blk (((wy.alloc (.cells #[.int .i64 0, .int .i64 0, .int .i64 0, .int .i64 0, .int .i64 0, .int .i64 0, .int .i64 0, .int .i64 0, .int .i64 0, .int .i64 0, .int .i64 0, .int .i64 0, .int .i64 0, .int .i64 0] 32)).alloc (.cells #[.int .i64 0, .int .i64 0, .int .i64 0, .int .i64 0, .int .i64 0, .int .i64 0] 38)).setRow wy.heap.size (stL s').toArray) (wy.heap.size + 1) 38 #[.int .i64 0, .int .i64 0, .int .i64 0, .int .i64 0, .int .i64 0, .int .i64 0] := blk_setRow (Blk.new' (by simp)) (by omega)
            go_upto_region 11 with (first | (refine wpList_store_row rfl _ _ _ rfl wy.heap.size (stL s').toArray rfl rfl 32 #[.int .i64 0, .int .i64 0, .int .i64 0, .int .i64 0, .int .i64 0, .int .i64 0, .int .i64 0, .int .i64 0, .int .i64 0, .int .i64 0, .int .i64 0, .int .i64 0, .int .i64 0, .int .i64 0] ((Blk.new wy _ _).alloc _) (stL_info s') rfl (stL_one s') ?_) | (refine wpList_store_row rfl _ _ _ rfl (wy.heap.size + 1) (rdL q).toArray rfl rfl 38 #[.int .i64 0, .int .i64 0, .int .i64 0, .int .i64 0, .int .i64 0, .int .i64 0] hZr (rdL_info q) rfl (rdL_one q) ?_))
            replace hbw : Below w0.heap.size w0 ((((wy.alloc (.cells #[.int .i64 0, .int .i64 0, .int .i64 0, .int .i64 0, .int .i64 0, .int .i64 0, .int .i64 0, .int .i64 0, .int .i64 0, .int .i64 0, .int .i64 0, .int .i64 0, .int .i64 0, .int .i64 0] 32)).alloc (.cells #[.int .i64 0, .int .i64 0, .int .i64 0, .int .i64 0, .int .i64 0, .int .i64 0] 38)).setRow wy.heap.size (stL s').toArray).setRow (wy.heap.size + 1) (rdL q).toArray) := below_setRow (below_setRow ((hbw.alloc hwy _).alloc (by simp; omega) _) hwy _) (by omega) _
            clear hZr hwy
            generalize ((((wy.alloc (.cells #[.int .i64 0, .int .i64 0, .int .i64 0, .int .i64 0, .int .i64 0, .int .i64 0, .int .i64 0, .int .i64 0, .int .i64 0, .int .i64 0, .int .i64 0, .int .i64 0, .int .i64 0, .int .i64 0] 32)).alloc (.cells #[.int .i64 0, .int .i64 0, .int .i64 0, .int .i64 0, .int .i64 0, .int .i64 0] 38)).setRow wy.heap.size (stL s').toArray).setRow (wy.heap.size + 1) (rdL q).toArray) = wz at *
            have HBz := Lib.hid hbw
            clear hbw
            go_wp2
            go_ret
            exact ⟨rfl, HM0.out.trans (HBz.out.mono HM0.out.size)⟩
        · obtain rfl : k = len2 := by omega
          have hall : dAll ⟨a0_0, a0_1, rate, buf, a0_4⟩ (catF no f g) (no + k) := cat_of HA.out fun q hq => hlate.out q hq
          rcases HQf.out with ⟨_, he2, hnx, ht, hrx, hfx⟩ | ⟨hno2, _⟩
          case inr => exact absurd hall hno2
          subst he2
          subst hnx
          have hTw : Blk wr TB 32 (stL t).toArray := hTf.off hoff (by
            rintro (h | h)
            · omega
            · have := hxS.out _ h
              omega)
          have hrw : RowC wr 6 ax (no + k) (dRows ⟨a0_0, a0_1, rate, buf, a0_4⟩ (catF no f g)) := rowC_off hrx hoff (fun p hp h => by
            have h1 := hfx p hp
            rcases h with h | h
            · omega
            · have := hxS.out _ h
              omega)
          obtain ⟨vx, vc, hvx, -⟩ := own_sliceC hown
          subst hvx
          have hrv : RowC wr 6 vx (no + k) (dRows ⟨a0_0, a0_1, rate, buf, a0_4⟩ (catF no f g)) := RowC.of_own (by omega) hown
          have hok : (dRun ⟨a0_0, a0_1, rate, buf, a0_4⟩ (catF no f g) (no + k)).ok ⟨a0_0, a0_1, rate, buf, a0_4⟩ := run_ok HR.out _ (fun q hq => hall q hq)
          have hI : (dRun ⟨a0_0, a0_1, rate, buf, a0_4⟩ (catF no f g) (no + k)).inI := DSt.inI_of HR.out hok
          have HQB : Hid (∀ q, q < no + k → ∀ j, InI64 (dRows ⟨a0_0, a0_1, rate, buf, a0_4⟩ (catF no f g) q j)) := fun q hq j => by
            have h := row_pos HR.out (run_ok HR.out _ (fun z hz => hall z (by omega)) : (dRun ⟨a0_0, a0_1, rate, buf, a0_4⟩ (catF no f g) q).ok ⟨a0_0, a0_1, rate, buf, a0_4⟩) j
            show InI64 (dRow ⟨a0_0, a0_1, rate, buf, a0_4⟩ (dRun ⟨a0_0, a0_1, rate, buf, a0_4⟩ (catF no f g) q) j)
            unfold InI64
            omega
          rw [ht] at hTw
          obtain ⟨sk, hsk⟩ : ∃ sk, Hid (dRun ⟨a0_0, a0_1, rate, buf, a0_4⟩ (catF no f g) (no + k) = sk) := ⟨_, rfl⟩
          rw [hsk.out] at hTw hSk hI
          have hEQ : (Op.equal 32 (.agg (stL sk).toArray) (.agg (stL sk).toArray)).run Try.prog wr = .ok true wr := by
            have h := eq_st sk sk hI hI wr
            rwa [decide_eq_true rfl] at h
          have HEQ := Lib.hid hEQ
          have HBw := Lib.hid hbw
          have lS2 := hSk.lt
          have lT2 := hTw.lt
          clear hEQ hbw hown hoff hvb hTf hlate hall hrx hfx hok hI ht
          go_wp2_with (first | (refine BigFrame.wpList_want (by rfl) (fun K hK => wp_load_row _ _ rfl SB rfl _ _ _ _ hSk Try.underlying32 rfl (stL_info sk) (hK _ _ ?_))) | (refine BigFrame.wpList_want (by rfl) (fun K hK => wp_load_row _ _ rfl TB rfl _ _ _ _ hTw Try.underlying32 rfl (stL_info sk) (hK _ _ ?_))) | (refine BigFrame.wpList_want (by rfl) (fun K hK => wp_eql _ _ _ _ rfl (stL sk).toArray (stL sk).toArray rfl rfl guard_st true HEQ.out (hK _ _ ?_))) | (rw [if_pos (by rfl)]; refine wp_load_row _ _ rfl SB rfl _ _ _ _ hSk Try.underlying32 rfl (stL_info sk) ?_) | (rw [if_pos (by rfl)]; refine wp_load_row _ _ rfl TB rfl _ _ _ _ hTw Try.underlying32 rfl (stL_info sk) ?_) | (rw [if_pos (by rfl)]; refine wp_eql _ _ _ _ rfl (stL sk).toArray (stL sk).toArray rfl rfl guard_st true HEQ.out ?_) | (go_at_call 15; refine (requal_any vx vc ax cx (no + k) (dRows ⟨a0_0, a0_1, rate, buf, a0_4⟩ (catF no f g)) _ hrv hrw (by omega) HQB).mono ?_; rintro e w' ⟨rfl, os9, d9, rfl⟩))
          go_wp2
          go_ret
          exact ⟨rfl, below_then (HM0.out.trans (HBw.out.mono HM0.out.size)) (Nat.le_trans HM0.out.size HBw.out.size) (by repeat (first | (with_reducible assumption) | (with_reducible exact More.refl _) | (with_reducible refine More.alloc ?_ _) | (with_reducible refine More.more ?_ _ _) | (with_reducible refine More.drewN ?_ _) | (with_reducible refine More.drew ?_)))⟩
  · go_simp
    have hT : Blk (q0.alloc (.cells #[.int .i64 0, .int .i64 0, .int .i64 0, .int .i64 0, .int .i64 0, .int .i64 0, .int .i64 0, .int .i64 0, .int .i64 0, .int .i64 0, .int .i64 0, .int .i64 0, .int .i64 0, .int .i64 0] 32)) q0.heap.size 32 #[.int .i64 0, .int .i64 0, .int .i64 0, .int .i64 0, .int .i64 0, .int .i64 0, .int .i64 0, .int .i64 0, .int .i64 0, .int .i64 0, .int .i64 0, .int .i64 0, .int .i64 0, .int .i64 0] := Blk.new _ _ _
    have hh : Below w2.heap.size w2 (q0.alloc (.cells #[.int .i64 0, .int .i64 0, .int .i64 0, .int .i64 0, .int .i64 0, .int .i64 0, .int .i64 0, .int .i64 0, .int .i64 0, .int .i64 0, .int .i64 0, .int .i64 0, .int .i64 0, .int .i64 0] 32)) := hHeld.alloc hHeld.size _
    have hTB := hHeld.size
    clear hHeld
    refine hK.out _ _ ?_ (fun hHeld => ?_)
    · exact hh
    clear hK K hh
    try simp only [lay]
    generalize (q0.alloc (.cells #[.int .i64 0, .int .i64 0, .int .i64 0, .int .i64 0, .int .i64 0, .int .i64 0, .int .i64 0, .int .i64 0, .int .i64 0, .int .i64 0, .int .i64 0, .int .i64 0, .int .i64 0, .int .i64 0] 32)) = q1 at *
    generalize q0.heap.size = TB at *
    refine wpAnyH_ready (rs := [3]) (by kernel_rfl) (by simp) ?_
    refine AllReadyH.cons rfl (fun K hK => ?_) AllReadyH.nil
    go_simp
    have hL : Blk (q1.alloc (.cells #[.slice a1 len1 cap1, .slice a2 len2 cap2] 25)) q1.heap.size 25 #[.slice a1 len1 cap1, .slice a2 len2 cap2] := Blk.new _ _ _
    have hh : Below w2.heap.size w2 (q1.alloc (.cells #[.slice a1 len1 cap1, .slice a2 len2 cap2] 25)) := hHeld.alloc hHeld.size _
    replace hT := hT.alloc (.cells #[.slice a1 len1 cap1, .slice a2 len2 cap2] 25)
    clear hHeld
    refine hK.out _ _ ?_ (fun hHeld => ?_)
    · exact hh
    clear hK K hh
    try simp only [lay]
    generalize (q1.alloc (.cells #[.slice a1 len1 cap1, .slice a2 len2 cap2] 25)) = q2 at *
    generalize q1.heap.size = LB at *
    refine wpAnyH_ready (rs := [4]) (by kernel_rfl) (by simp) ?_
    refine AllReadyH.cons rfl (fun K hK => ?_) AllReadyH.nil
    go_simp
    refine (concat2 LB a1 len1 cap1 f a2 len2 cap2 g _ (hL.cell 0) (hL.cell 1) hL.lt (hz1.below hHeld (Nat.le_refl _)) (hz2.below hHeld (Nat.le_refl _)) (by omega) (by omega)).mono ?_
    rintro e q3 ⟨v0, rfl, hown0, hbc⟩
    obtain ⟨av, ac, hv0, -⟩ := own_sliceC hown0
    subst hv0
    have hCF : RowC q3 2 av (len1 + len2) (catF len1 f g) := by
      rw [cat_cells] at hown0
      exact RowC.of_own (by omega) hown0
    have hh : Below w2.heap.size w2 q3 := hHeld.trans (hbc.mono hHeld.size)
    replace hT := hT.below hbc hT.lt
    clear hHeld hown0 hbc hL
    refine hK.out _ _ ?_ (fun hHeld => ?_)
    · exact hh
    clear hK K hh
    try simp only [lay]
    refine wpAnyH_ready (rs := [5]) (by kernel_rfl) (by simp) ?_
    refine AllReadyH.cons rfl (fun K hK => ?_) AllReadyH.nil
    go_simp
    refine (play_all ⟨a0_0, a0_1, rate, buf, a0_4⟩ av (len1 + len2) ac (catF len1 f g) _ hCF (by omega) HR.out).mono ?_
    rintro e q4 ⟨ax, nx, cx, t, er2, rfl, HQ0, hbp⟩
    have hTl := hT.lt
    have HQ : Hid ((dAll ⟨a0_0, a0_1, rate, buf, a0_4⟩ (catF len1 f g) (len1 + len2) ∧ er2 = 0 ∧ nx = len1 + len2 ∧ t = dRun ⟨a0_0, a0_1, rate, buf, a0_4⟩ (catF len1 f g) (len1 + len2) ∧ RowC q4 6 ax (len1 + len2) (dRows ⟨a0_0, a0_1, rate, buf, a0_4⟩ (catF len1 f g)) ∧ (∀ p : Addr, ax = some p → w2.heap.size ≤ p.block ∧ p.block < q4.heap.size ∧ p.block ≠ TB)) ∨ (¬ dAll ⟨a0_0, a0_1, rate, buf, a0_4⟩ (catF len1 f g) (len1 + len2) ∧ er2 = 2)) := by
      have hhs := hHeld.size
      rcases HQ0.out with ⟨x1, x2, x3, x4, x5⟩ | h
      · refine .inl ⟨x1, x2, x3, x4, RowC.of_own (by omega) x5, fun p hp => ?_⟩
        subst hp
        have h := own_lt x5 rfl
        exact ⟨by omega, h.2, by omega⟩
      · exact .inr h
    replace hT := hT.below hbp hT.lt
    clear hTl
    have hh : Below w2.heap.size w2 q4 := hHeld.trans (hbp.mono hHeld.size)
    clear hHeld hbp hCF HQ0
    refine hK.out _ _ ?_ (fun hHeld => ?_)
    · exact hh
    clear hK K hh
    try simp only [lay]
    refine tk0 6 rfl ?_; try simp only [lay]
    refine tk0 7 rfl ?_; try simp only [lay]
    refine tk0 8 rfl ?_; try simp only [lay]
    refine tk0 9 rfl ?_; try simp only [lay]
    refine tk0 11 rfl ?_; try simp only [lay]
    refine wpAnyH_ready (rs := [12]) (by kernel_rfl) (by simp) ?_
    refine AllReadyH.cons rfl (fun K hK => ?_) AllReadyH.nil
    rw [if_pos (by rfl)]
    refine wp_store_row _ _ _ rfl TB (stL t).toArray rfl rfl 32 #[.int .i64 0, .int .i64 0, .int .i64 0, .int .i64 0, .int .i64 0, .int .i64 0, .int .i64 0, .int .i64 0, .int .i64 0, .int .i64 0, .int .i64 0, .int .i64 0, .int .i64 0, .int .i64 0] hT (stL_info t) rfl (stL_one t) ?_
    refine hK.out _ _ ?_ (fun hHeld3 => ?_)
    · exact below_setRow hHeld hTB _
    clear hK K
    try simp only [lay, Act.put]
    refine tk0 13 rfl ?_; try simp only [lay]
    refine wpAnyH_done (by kernel_rfl) ?_ _
    have hTf : Blk (q4.setRow TB (stL t).toArray) TB 32 (stL t).toArray := setRow_heap _ _ _ _ _ _ hT
    have HQf : Hid ((dAll ⟨a0_0, a0_1, rate, buf, a0_4⟩ (catF len1 f g) (len1 + len2) ∧ er2 = 0 ∧ nx = len1 + len2 ∧ t = dRun ⟨a0_0, a0_1, rate, buf, a0_4⟩ (catF len1 f g) (len1 + len2) ∧ RowC (q4.setRow TB (stL t).toArray) 6 ax (len1 + len2) (dRows ⟨a0_0, a0_1, rate, buf, a0_4⟩ (catF len1 f g)) ∧ (∀ p : Addr, ax = some p → w2.heap.size ≤ p.block ∧ p.block < (q4.setRow TB (stL t).toArray).heap.size ∧ p.block ≠ TB)) ∨ (¬ dAll ⟨a0_0, a0_1, rate, buf, a0_4⟩ (catF len1 f g) (len1 + len2) ∧ er2 = 2)) := by
      rcases HQ.out with ⟨x1, x2, x3, x4, x5, x6⟩ | h
      · exact .inl ⟨x1, x2, x3, x4, rowC_setRow x5 _ (fun p hp => Ne.symm (x6 p hp).2.2), fun p hp => by simpa [World.setRow] using x6 p hp⟩
      · exact .inr h
    clear hHeld HQ hT
    generalize (q4.setRow TB (stL t).toArray) = qf at *
    have hBf := hB.below hHeld3 lR
    have hSf := hS.below hHeld3 lS
    have HMf : Hid (Below w.heap.size w qf) := HM2.out.trans (hHeld3.mono HM2.out.size)
    rcases HP.out with ⟨ha, he0, hno, hs, hown⟩ | ⟨ha, he0⟩
    case inr =>
      subst he0
      have he2 : er2 = 2 := by
        rcases HQf.out with ⟨h, _⟩ | ⟨_, h⟩
        · exact absurd (cat_all h).1 ha
        · exact h
      subst he2
      clear ha hBf hSf hTf
      go_wp2
      go_ret
      exact ⟨rfl, HMf.out⟩
    subst he0
    subst hno
    have HA := Lib.hid ha
    have hx : qf.ownsRow w0.heap.size 38 6 (.slice ao no co) no (cellsC 6 no (dRows ⟨a0_0, a0_1, rate, buf, a0_4⟩ (catF no f g))) := by
      rw [← rows_cat]
      exact own_below (own_below hown HB12.out) hHeld3
    have hxS : Hid (∀ gg, (Value.slice ao no co).ownBlock = some gg → gg < SB) := fun gg e => by
      have h := (own_lt hown e).2
      have := hSB.out
      omega
    have hSR : Blk qf SB 32 (stL (dRun ⟨a0_0, a0_1, rate, buf, a0_4⟩ (catF no f g) no)).toArray := by
      rw [run_cat, ← hs]
      exact hSf
    have HBq : Hid (Below w0.heap.size w0 qf) := (HB01.out.trans (HB12.out.mono hs01)).trans (hHeld3.mono (Nat.le_trans hs01 HB12.out.size))
    have lSf := hSR.lt
    clear hown hs ha hB hS hz1 hz2 hrR hSf hBf hHeld3
    go_wp2_with fail
    go_loopw [7, 44] (fun v c wr => ∃ k : Nat, c = .int .i64 k ∧ k ≤ len2 ∧ Hid (∀ q, q < k → dLate ⟨a0_0, a0_1, rate, buf, a0_4⟩ (g q 0) (g q 1)) ∧ wr.ownsRow w0.heap.size 38 6 v (no + k) (cellsC 6 (no + k) (dRows ⟨a0_0, a0_1, rate, buf, a0_4⟩ (catF no f g))) ∧ Blk wr SB 32 (stL (dRun ⟨a0_0, a0_1, rate, buf, a0_4⟩ (catF no f g) (no + k))).toArray ∧ Below w0.heap.size w0 wr ∧ Off (fun gg => gg = SB ∨ (Value.slice ao no co).ownBlock = some gg) qf wr ∧ Hid (∀ gg, v.ownBlock = some gg → gg ≠ SB ∧ ((Value.slice ao no co).ownBlock = some gg ∨ qf.heap.size ≤ gg))) (fun _ c _ => len2 - (intOf c).toNat)
    case atStart => exact ⟨0, rfl, Nat.zero_le _, fun q h => by omega, hx, hSR, HBq.out, Off.refl _ _, fun gg e => ⟨by have := hxS.out gg e; omega, .inl e⟩⟩
    case round =>
      obtain ⟨k, rfl, hk, hlate, hown, hSk, hbw, hoff, hvb⟩ := hrel
      have hsz := hbw.size
      by_cases hlt : k < len2
      · have hB9 : Blk wr w.heap.size 24 #[.int .i64 a0_0, .int .i64 a0_1, .int .i64 rate, .int .i64 buf, .int .i64 a0_4] := hB00.out.below hbw hlw
        obtain ⟨b, off, x, y, rfl, hb, hcx, hcy, hx, hy⟩ := (hz20.out.below hbw (Nat.le_refl _)).at2 hlt
        have t1 : (k : Int) < (len2 : Int) := by omega
        have HAk : Hid (dAll ⟨a0_0, a0_1, rate, buf, a0_4⟩ (catF no f g) (no + k)) := cat_of HA.out fun q hq => hlate.out q hq
        have HOK := Lib.hid (run_ok HR.out _ HAk.out : (dRun ⟨a0_0, a0_1, rate, buf, a0_4⟩ (catF no f g) (no + k)).ok ⟨a0_0, a0_1, rate, buf, a0_4⟩)
        obtain ⟨sk, hsk⟩ : ∃ sk, Hid (dRun ⟨a0_0, a0_1, rate, buf, a0_4⟩ (catF no f g) (no + k) = sk) := ⟨_, rfl⟩
        rw [hsk.out] at hSk HOK
        have hlsz := hSk.lt
        obtain ⟨vx, vc, hvx, -⟩ := own_sliceC hown
        subst hvx
        go_upto_region 10 with fail
        have hL9 : Blk (wr.alloc (.cells #[.int .i64 x, .int .i64 y] 22)) wr.heap.size 22 #[.int .i64 x, .int .i64 y] := Blk.new _ _ _
        replace hB9 := hB9.alloc (.cells #[.int .i64 x, .int .i64 y] 22)
        replace hSk := hSk.alloc (.cells #[.int .i64 x, .int .i64 y] 22)
        replace hown := hown.alloc (.cells #[.int .i64 x, .int .i64 y] 22)
        replace hbw := hbw.alloc hsz (.cells #[.int .i64 x, .int .i64 y] 22)
        replace hoff := hoff.alloc (.cells #[.int .i64 x, .int .i64 y] 22)
        clear hcx hcy hb hsz hlsz
        generalize wr.alloc (.cells #[.int .i64 x, .int .i64 y] 22) = wl at *
        generalize wr.heap.size = LK at *
        go_wp2_with (first | (refine wpList_load_row rfl _ _ rfl w.heap.size rfl _ _ _ _ hB9 Try.underlying24 rfl (by kernel_rfl) ?_) | (refine wpList_load_row rfl _ _ rfl SB rfl _ _ _ _ hSk Try.underlying32 rfl (stL_info sk) ?_) | (refine wpList_load_row rfl _ _ rfl LK rfl _ _ _ _ hL9 Try.underlying22 rfl (by kernel_rfl) ?_))
        by_cases hL : dLate ⟨a0_0, a0_1, rate, buf, a0_4⟩ x y
        · have HL := Lib.hid hL
          clear hL
          obtain ⟨s', hs'⟩ : ∃ s', Hid (dGo ⟨a0_0, a0_1, rate, buf, a0_4⟩ sk x y = s') := ⟨_, rfl⟩
          obtain ⟨q, hq⟩ : ∃ q, Hid (dRow ⟨a0_0, a0_1, rate, buf, a0_4⟩ sk = q) := ⟨_, rfl⟩
          refine (step_goL ⟨a0_0, a0_1, rate, buf, a0_4⟩ sk x y _ HR.out HOK.out HL.out s' hs' q hq).mono ?_
          rintro e w' ⟨rfl, os2, d2, rfl⟩
          replace hSk := hSk.more os2 d2
          replace hown := own_more hown os2 d2
          replace hoff := hoff.more os2 d2
          have hlw9 := hbw.size
          replace hbw := hbw.trans (below_more wl os2 d2 w0.heap.size hlw9)
          clear hB9 hL9 hlw9
          generalize wl.more os2 d2 = wy at *
          have hly := hSk.lt
          have hwy := hbw.size
          have hZr : Blk (((wy.alloc (.cells #[.int .i64 0, .int .i64 0, .int .i64 0, .int .i64 0, .int .i64 0, .int .i64 0, .int .i64 0, .int .i64 0, .int .i64 0, .int .i64 0, .int .i64 0, .int .i64 0, .int .i64 0, .int .i64 0] 32)).alloc (.cells #[.int .i64 0, .int .i64 0, .int .i64 0, .int .i64 0, .int .i64 0, .int .i64 0] 38)).setRow wy.heap.size (stL s').toArray) (wy.heap.size + 1) 38 #[.int .i64 0, .int .i64 0, .int .i64 0, .int .i64 0, .int .i64 0, .int .i64 0] := blk_setRow (Blk.new' (by simp)) (by omega)
          go_upto_region 11 with (first | (refine wpList_store_row rfl _ _ _ rfl wy.heap.size (stL s').toArray rfl rfl 32 #[.int .i64 0, .int .i64 0, .int .i64 0, .int .i64 0, .int .i64 0, .int .i64 0, .int .i64 0, .int .i64 0, .int .i64 0, .int .i64 0, .int .i64 0, .int .i64 0, .int .i64 0, .int .i64 0] ((Blk.new wy _ _).alloc _) (stL_info s') rfl (stL_one s') ?_) | (refine wpList_store_row rfl _ _ _ rfl (wy.heap.size + 1) (rdL q).toArray rfl rfl 38 #[.int .i64 0, .int .i64 0, .int .i64 0, .int .i64 0, .int .i64 0, .int .i64 0] hZr (rdL_info q) rfl (rdL_one q) ?_))
          have hA15 : Blk ((((wy.alloc (.cells #[.int .i64 0, .int .i64 0, .int .i64 0, .int .i64 0, .int .i64 0, .int .i64 0, .int .i64 0, .int .i64 0, .int .i64 0, .int .i64 0, .int .i64 0, .int .i64 0, .int .i64 0, .int .i64 0] 32)).alloc (.cells #[.int .i64 0, .int .i64 0, .int .i64 0, .int .i64 0, .int .i64 0, .int .i64 0] 38)).setRow wy.heap.size (stL s').toArray).setRow (wy.heap.size + 1) (rdL q).toArray) wy.heap.size 32 (stL s').toArray := blk_setRow (setRow_heap _ _ _ _ _ _ ((Blk.new wy _ _).alloc _)) (by omega)
          have hA16 : Blk ((((wy.alloc (.cells #[.int .i64 0, .int .i64 0, .int .i64 0, .int .i64 0, .int .i64 0, .int .i64 0, .int .i64 0, .int .i64 0, .int .i64 0, .int .i64 0, .int .i64 0, .int .i64 0, .int .i64 0, .int .i64 0] 32)).alloc (.cells #[.int .i64 0, .int .i64 0, .int .i64 0, .int .i64 0, .int .i64 0, .int .i64 0] 38)).setRow wy.heap.size (stL s').toArray).setRow (wy.heap.size + 1) (rdL q).toArray) (wy.heap.size + 1) 38 (rdL q).toArray := setRow_heap _ _ _ _ _ _ hZr
          replace hSk : Blk ((((wy.alloc (.cells #[.int .i64 0, .int .i64 0, .int .i64 0, .int .i64 0, .int .i64 0, .int .i64 0, .int .i64 0, .int .i64 0, .int .i64 0, .int .i64 0, .int .i64 0, .int .i64 0, .int .i64 0, .int .i64 0] 32)).alloc (.cells #[.int .i64 0, .int .i64 0, .int .i64 0, .int .i64 0, .int .i64 0, .int .i64 0] 38)).setRow wy.heap.size (stL s').toArray).setRow (wy.heap.size + 1) (rdL q).toArray) SB 32 (stL sk).toArray := blk_setRow (blk_setRow ((hSk.alloc _).alloc _) (by omega)) (by omega)
          have hn1 : ∀ gg, gg = wy.heap.size ∨ gg = wy.heap.size + 1 → (Value.slice vx (no + k) vc).ownBlock ≠ some gg := fun gg h e => by
            have h2 := own_lt hown e
            omega
          replace hown : (((((wy.alloc (.cells #[.int .i64 0, .int .i64 0, .int .i64 0, .int .i64 0, .int .i64 0, .int .i64 0, .int .i64 0, .int .i64 0, .int .i64 0, .int .i64 0, .int .i64 0, .int .i64 0, .int .i64 0, .int .i64 0] 32)).alloc (.cells #[.int .i64 0, .int .i64 0, .int .i64 0, .int .i64 0, .int .i64 0, .int .i64 0] 38)).setRow wy.heap.size (stL s').toArray).setRow (wy.heap.size + 1) (rdL q).toArray)).ownsRow w0.heap.size 38 6 (.slice vx (no + k) vc) (no + k) (cellsC 6 (no + k) (dRows ⟨a0_0, a0_1, rate, buf, a0_4⟩ (catF no f g))) := ((((hown.alloc _).alloc _).kept (grown_setRow _ _ _) (.inr (hn1 _ (.inl rfl)))).kept (grown_setRow _ _ _) (.inr (hn1 _ (.inr rfl))))
          replace hbw : Below w0.heap.size w0 ((((wy.alloc (.cells #[.int .i64 0, .int .i64 0, .int .i64 0, .int .i64 0, .int .i64 0, .int .i64 0, .int .i64 0, .int .i64 0, .int .i64 0, .int .i64 0, .int .i64 0, .int .i64 0, .int .i64 0, .int .i64 0] 32)).alloc (.cells #[.int .i64 0, .int .i64 0, .int .i64 0, .int .i64 0, .int .i64 0, .int .i64 0] 38)).setRow wy.heap.size (stL s').toArray).setRow (wy.heap.size + 1) (rdL q).toArray) := below_setRow (below_setRow ((hbw.alloc hwy _).alloc (by simp; omega) _) hwy _) (by omega) _
          replace hoff : Off (fun gg => gg = SB ∨ (Value.slice ao no co).ownBlock = some gg) qf ((((wy.alloc (.cells #[.int .i64 0, .int .i64 0, .int .i64 0, .int .i64 0, .int .i64 0, .int .i64 0, .int .i64 0, .int .i64 0, .int .i64 0, .int .i64 0, .int .i64 0, .int .i64 0, .int .i64 0, .int .i64 0] 32)).alloc (.cells #[.int .i64 0, .int .i64 0, .int .i64 0, .int .i64 0, .int .i64 0, .int .i64 0] 38)).setRow wy.heap.size (stL s').toArray).setRow (wy.heap.size + 1) (rdL q).toArray) := off_setRow (off_setRow ((hoff.alloc _).alloc _) (fun h => absurd h (by have := hoff.size; omega)) _) (fun h => absurd h (by have := hoff.size; omega)) _
          have hx15 : Hid (¬ (wy.heap.size = SB ∨ (Value.slice vx (no + k) vc).ownBlock = some wy.heap.size)) := fun h => h.elim (fun e => by omega) (hn1 _ (.inl rfl))
          have hx16 : Hid (¬ (wy.heap.size + 1 = SB ∨ (Value.slice vx (no + k) vc).ownBlock = some (wy.heap.size + 1))) := fun h => h.elim (fun e => by omega) (hn1 _ (.inr rfl))
          clear hZr hn1 hwy hly
          generalize ((((wy.alloc (.cells #[.int .i64 0, .int .i64 0, .int .i64 0, .int .i64 0, .int .i64 0, .int .i64 0, .int .i64 0, .int .i64 0, .int .i64 0, .int .i64 0, .int .i64 0, .int .i64 0, .int .i64 0, .int .i64 0] 32)).alloc (.cells #[.int .i64 0, .int .i64 0, .int .i64 0, .int .i64 0, .int .i64 0, .int .i64 0] 38)).setRow wy.heap.size (stL s').toArray).setRow (wy.heap.size + 1) (rdL q).toArray) = wz at *
          generalize wy.heap.size + 1 = A16 at *
          generalize wy.heap.size = A15 at *
          have l15 := hA15.lt
          have l16 := hA16.lt
          obtain ⟨i0_, hi, hz0, hz1, hz2⟩ := info_parts roundInfo
          go_upto_region 13 with fail
          refine wp_region_held_drew (S := fun w' => Off (fun gg => gg = SB ∨ (Value.slice vx (no + k) vc).ownBlock = some gg) wz w') (by kernel_rfl) ?_ (fun hHeld => ?_)
          · exact (Off.refl _ _).drew
          have hownp : wz.drew.ownsRow w0.heap.size 38 6 (.slice vx (no + k) vc) (no + k) (cellsC 6 (no + k) (dRows ⟨a0_0, a0_1, rate, buf, a0_4⟩ (catF no f g))) := hown
          have hSp : Blk wz.drew SB 32 (stL sk).toArray := hSk
          clear hown hSk
          generalize wz.drew = p0 at *
          refine wpAnyH_take (i := 0) (v := .agg (stL s').toArray) rfl (by kernel_rfl) (by kernel_rfl) (by kernel_rfl) (fun _ _ _ h => h) (yieldsIf_load_mid (by rfl) _ _ rfl A15 0 rfl (stL s') _ (fun w' hw => blk_range (hA15.off hw hx15.out)) Try.underlying32 rfl (stL_info s')) (by assumption) ?_
          try simp only [lay]
          refine tk0 1 rfl ?_; try simp only [lay]
          refine wpAnyH_take (i := 2) (v := .agg (rdL q).toArray) rfl (by kernel_rfl) (by kernel_rfl) (by kernel_rfl) (fun _ _ _ h => h) (yieldsIf_load_mid (by rfl) _ _ rfl A16 0 rfl (rdL q) _ (fun w' hw => blk_range (hA16.off hw hx16.out)) Try.underlying38 rfl (rdL_info q)) (by assumption) ?_
          try simp only [lay]
          refine wpAnyH_ready (rs := [3]) (by kernel_rfl) (by simp) ?_
          refine AllReadyH.cons rfl (fun K hK => ?_) AllReadyH.nil
          go_simp
          simp only [rdL]
          go_simp
          have hNw : Blk (p0.alloc (.cells #[.int .i64 (q 0), .int .i64 (q 1), .int .i64 (q 2), .int .i64 (q 3), .int .i64 (q 4), .int .i64 (q 5)] 38)) p0.heap.size 38 #[.int .i64 (q 0), .int .i64 (q 1), .int .i64 (q 2), .int .i64 (q 3), .int .i64 (q 4), .int .i64 (q 5)] := Blk.new _ _ _
          have hh : Off (fun gg => gg = SB ∨ (Value.slice vx (no + k) vc).ownBlock = some gg) wz (p0.alloc (.cells #[.int .i64 (q 0), .int .i64 (q 1), .int .i64 (q 2), .int .i64 (q 3), .int .i64 (q 4), .int .i64 (q 5)] 38)) := hHeld.alloc _
          have hown1 := hownp.alloc (.cells #[.int .i64 (q 0), .int .i64 (q 1), .int .i64 (q 2), .int .i64 (q 3), .int .i64 (q 4), .int .i64 (q 5)] 38)
          have hSp1 := hSp.alloc (.cells #[.int .i64 (q 0), .int .i64 (q 1), .int .i64 (q 2), .int .i64 (q 3), .int .i64 (q 4), .int .i64 (q 5)] 38)
          have hp0s := hHeld.size
          have hob : Hid (∀ gg, (Value.slice vx (no + k) vc).ownBlock = some gg → w0.heap.size ≤ gg) := fun gg e => (own_lt hownp e).1
          clear hHeld hownp hSp
          refine hK.out _ _ ?_ (fun hHeld => ?_)
          · exact hh
          clear hK K hh
          try simp only [lay]
          have hp1s : p0.heap.size < ((p0.alloc (.cells #[.int .i64 (q 0), .int .i64 (q 1), .int .i64 (q 2), .int .i64 (q 3), .int .i64 (q 4), .int .i64 (q 5)] 38))).heap.size := hNw.lt
          generalize (p0.alloc (.cells #[.int .i64 (q 0), .int .i64 (q 1), .int .i64 (q 2), .int .i64 (q 3), .int .i64 (q 4), .int .i64 (q 5)] 38)) = p1 at *
          generalize p0.heap.size = LN at *
          have hwzs := hbw.size
          have hqfs := hoff.size
          refine wpAnyH_ready (rs := [4]) (by kernel_rfl) (by simp) ?_
          refine AllReadyH.cons rfl (fun K hK => ?_) AllReadyH.nil
          rw [if_pos (by rfl)]
          refine wp_append_lies _ (.tmp 62) (.tmp 64) 27 rfl w0.heap.size 38 i0_ (.agg #[.int .i64 0, .int .i64 0, .int .i64 0, .int .i64 0, .int .i64 0, .int .i64 0]) 6 48 Try.underlying27 hi hz0 hz1 hz2 rfl (by omega) (.slice vx (no + k) vc) (no + k) (cellsC 6 (no + k) (dRows ⟨a0_0, a0_1, rate, buf, a0_4⟩ (catF no f g))) rfl hown1 ⟨LN, 0, none⟩ 1 1 (rdL q) rfl rfl hNw.news (by simp [rdL, Value.oneCell']) (by omega) (by simp only [maxLen]; omega) (by omega) (by omega) _ rfl ?_
          intro gA cA p2 hown2 hgrow2 hat2 hlt2
          have hS2 : Blk p2 SB 32 (stL sk).toArray := hSp1.grown hgrow2 (fun e => (hvb.out SB e.symm).1 rfl)
          have hgA : gA ≠ SB ∧ ((Value.slice ao no co).ownBlock = some gA ∨ qf.heap.size ≤ gA) := by
            rcases hat2 with h | h
            · exact hvb.out gA h
            · have h2 := hSp1.lt
              exact ⟨by omega, .inr (by omega)⟩
          have hh : Off (fun gg => gg = SB ∨ (Value.slice vx (no + k) vc).ownBlock = some gg) wz p2 := hHeld.trans (Off.of_grown hgrow2 (fun gg e _ => .inr e))
          clear hHeld hown1 hSp1 hgrow2 hat2 hNw
          refine hK.out _ _ ?_ (fun hHeld => ?_)
          · exact hh
          clear hK K hh
          try simp only [lay]
          refine wpAnyH_ready (rs := [5]) (by kernel_rfl) (by simp) ?_
          refine AllReadyH.cons rfl (fun K hK => ?_) AllReadyH.nil
          rw [if_pos (by rfl)]
          refine wp_store_row _ _ _ rfl SB (stL s').toArray rfl rfl 32 (stL sk).toArray hS2 (stL_info s') rfl (stL_one s') ?_
          refine hK.out _ _ ?_ (fun hHeld3 => ?_)
          · exact off_setRow hHeld (fun _ => .inl rfl) _
          clear hK K hHeld
          try simp only [lay, Act.put]
          refine tk0 6 rfl ?_; try simp only [lay]
          refine wpAnyH_done (by kernel_rfl) ?_ _
          have hSf : Hid (Blk (p2.setRow SB (stL s').toArray) SB 32 (stL (dRun ⟨a0_0, a0_1, rate, buf, a0_4⟩ (catF no f g) (no + (k + 1)))).toArray) := by
            have h : dRun ⟨a0_0, a0_1, rate, buf, a0_4⟩ (catF no f g) (no + (k + 1)) = s' := by
              show dGo ⟨a0_0, a0_1, rate, buf, a0_4⟩ (dRun ⟨a0_0, a0_1, rate, buf, a0_4⟩ (catF no f g) (no + k)) (catF no f g (no + k) 0) (catF no f g (no + k) 1) = s'
              rw [hsk.out, cat_r, cat_r, ← hx.out, ← hy.out]
              exact hs'.out
            rw [h]
            exact setRow_heap _ _ _ _ _ _ hS2
          have hOf : Hid ((p2.setRow SB (stL s').toArray).ownsRow w0.heap.size 38 6 (.slice (some ⟨gA, 0, none⟩) (no + k + 1) cA) (no + (k + 1)) (cellsC 6 (no + (k + 1)) (dRows ⟨a0_0, a0_1, rate, buf, a0_4⟩ (catF no f g)))) := by
            have e : ∀ j, dRows ⟨a0_0, a0_1, rate, buf, a0_4⟩ (catF no f g) (no + k) j = q j := fun j => by
              show dRow ⟨a0_0, a0_1, rate, buf, a0_4⟩ (dRun ⟨a0_0, a0_1, rate, buf, a0_4⟩ (catF no f g) (no + k)) j = q j
              rw [hsk.out, hq.out]
            have h : cellsC 6 (no + k + 1) (dRows ⟨a0_0, a0_1, rate, buf, a0_4⟩ (catF no f g)) = cellsC 6 (no + k) (dRows ⟨a0_0, a0_1, rate, buf, a0_4⟩ (catF no f g)) ++ rdL q := by
              rw [cellsC_succ]
              congr 1
              show [Value.int .i64 (dRows ⟨a0_0, a0_1, rate, buf, a0_4⟩ (catF no f g) (no + k) 0), .int .i64 (dRows ⟨a0_0, a0_1, rate, buf, a0_4⟩ (catF no f g) (no + k) 1), .int .i64 (dRows ⟨a0_0, a0_1, rate, buf, a0_4⟩ (catF no f g) (no + k) 2), .int .i64 (dRows ⟨a0_0, a0_1, rate, buf, a0_4⟩ (catF no f g) (no + k) 3), .int .i64 (dRows ⟨a0_0, a0_1, rate, buf, a0_4⟩ (catF no f g) (no + k) 4), .int .i64 (dRows ⟨a0_0, a0_1, rate, buf, a0_4⟩ (catF no f g) (no + k) 5)] = _
              rw [e, e, e, e, e, e]
              rfl
            show (p2.setRow SB (stL s').toArray).ownsRow w0.heap.size 38 6 (.slice (some ⟨gA, 0, none⟩) (no + k + 1) cA) (no + k + 1) (cellsC 6 (no + k + 1) (dRows ⟨a0_0, a0_1, rate, buf, a0_4⟩ (catF no f g)))
            rw [h]
            refine hown2.kept (grown_setRow _ _ _) (.inr (fun e => hgA.1 ?_))
            simpa [Value.ownBlock] using e
          have hVf : Hid (∀ gg, (Value.slice (some ⟨gA, 0, none⟩) (no + k + 1) cA).ownBlock = some gg → gg ≠ SB ∧ ((Value.slice ao no co).ownBlock = some gg ∨ qf.heap.size ≤ gg)) := fun gg e => by
            obtain rfl : gA = gg := by simpa [Value.ownBlock] using e
            exact hgA
          have hBf9 : Hid (Below w0.heap.size w0 (p2.setRow SB (stL s').toArray)) := hbw.trans (hHeld3.below (B := w0.heap.size) (fun gg h => h.elim (fun e => by have := hSB.out; omega) (fun e => hob.out gg e)) hwzs)
          have hFf : Hid (Off (fun gg => gg = SB ∨ (Value.slice ao no co).ownBlock = some gg) qf (p2.setRow SB (stL s').toArray)) := off_then hoff hHeld3 (fun gg hg h => h.elim .inl (fun e => (hvb.out gg e).2.elim .inr (fun h2 => absurd hg (by omega))))
          have hlate2 : Hid (∀ q, q < k + 1 → dLate ⟨a0_0, a0_1, rate, buf, a0_4⟩ (g q 0) (g q 1)) := fun q hq => by
            rcases Nat.lt_succ_iff_lt_or_eq.1 hq with h | rfl
            · exact hlate.out q h
            · rw [← hx.out, ← hy.out]; exact HL.out
          clear hHeld3 hown2 hS2 hoff hbw hA15 hA16
          generalize p2.setRow SB (stL s').toArray = wf at *
          go_wp2
          go_roundw
          case rel => exact ⟨k + 1, by go_num, by omega, hlate2, hOf.out, hSf.out, hBf9.out, hFf.out, hVf⟩
          case measure => simp [intOf]; omega
        · have he2 : er2 = 2 := by
            rcases HQf.out with ⟨h, _⟩ | ⟨_, h⟩
            · exact absurd (by have h3 := (cat_all h).2 k hlt; rwa [← hx.out, ← hy.out] at h3) hL
            · exact h
          subst he2
          refine (step_lateL ⟨a0_0, a0_1, rate, buf, a0_4⟩ sk x y _ HR.out HOK.out hL).mono ?_
          rintro e w' ⟨s', q, rfl, os2, d2, rfl⟩
          have hlw9 := hbw.size
          replace hbw := hbw.trans (below_more wl os2 d2 w0.heap.size hlw9)
          clear hB9 hL9 hlw9 hSk hown hoff hL
          generalize wl.more os2 d2 = wy at *
          have hwy := hbw.size
          have hZr : Blk (((wy.alloc (.cells #[.int .i64 0, .int .i64 0, .int .i64 0, .int .i64 0, .int .i64 0, .int .i64 0, .int .i64 0, .int .i64 0, .int .i64 0, .int .i64 0, .int .i64 0, .int .i64 0, .int .i64 0, .int .i64 0] 32)).alloc (.cells #[.int .i64 0, .int .i64 0, .int .i64 0, .int .i64 0, .int .i64 0, .int .i64 0] 38)).setRow wy.heap.size (stL s').toArray) (wy.heap.size + 1) 38 #[.int .i64 0, .int .i64 0, .int .i64 0, .int .i64 0, .int .i64 0, .int .i64 0] := blk_setRow (Blk.new' (by simp)) (by omega)
          go_upto_region 11 with (first | (refine wpList_store_row rfl _ _ _ rfl wy.heap.size (stL s').toArray rfl rfl 32 #[.int .i64 0, .int .i64 0, .int .i64 0, .int .i64 0, .int .i64 0, .int .i64 0, .int .i64 0, .int .i64 0, .int .i64 0, .int .i64 0, .int .i64 0, .int .i64 0, .int .i64 0, .int .i64 0] ((Blk.new wy _ _).alloc _) (stL_info s') rfl (stL_one s') ?_) | (refine wpList_store_row rfl _ _ _ rfl (wy.heap.size + 1) (rdL q).toArray rfl rfl 38 #[.int .i64 0, .int .i64 0, .int .i64 0, .int .i64 0, .int .i64 0, .int .i64 0] hZr (rdL_info q) rfl (rdL_one q) ?_))
          replace hbw : Below w0.heap.size w0 ((((wy.alloc (.cells #[.int .i64 0, .int .i64 0, .int .i64 0, .int .i64 0, .int .i64 0, .int .i64 0, .int .i64 0, .int .i64 0, .int .i64 0, .int .i64 0, .int .i64 0, .int .i64 0, .int .i64 0, .int .i64 0] 32)).alloc (.cells #[.int .i64 0, .int .i64 0, .int .i64 0, .int .i64 0, .int .i64 0, .int .i64 0] 38)).setRow wy.heap.size (stL s').toArray).setRow (wy.heap.size + 1) (rdL q).toArray) := below_setRow (below_setRow ((hbw.alloc hwy _).alloc (by simp; omega) _) hwy _) (by omega) _
          clear hZr hwy
          generalize ((((wy.alloc (.cells #[.int .i64 0, .int .i64 0, .int .i64 0, .int .i64 0, .int .i64 0, .int .i64 0, .int .i64 0, .int .i64 0, .int .i64 0, .int .i64 0, .int .i64 0, .int .i64 0, .int .i64 0, .int .i64 0] 32)).alloc (.cells #[.int .i64 0, .int .i64 0, .int .i64 0, .int .i64 0, .int .i64 0, .int .i64 0] 38)).setRow wy.heap.size (stL s').toArray).setRow (wy.heap.size + 1) (rdL q).toArray) = wz at *
          have HBz := Lib.hid hbw
          clear hbw
          go_wp2
          go_ret
          exact ⟨rfl, HM0.out.trans (HBz.out.mono HM0.out.size)⟩
      · obtain rfl : k = len2 := by omega
        have hall : dAll ⟨a0_0, a0_1, rate, buf, a0_4⟩ (catF no f g) (no + k) := cat_of HA.out fun q hq => hlate.out q hq
        rcases HQf.out with ⟨_, he2, hnx, ht, hrx, hfx⟩ | ⟨hno2, _⟩
        case inr => exact absurd hall hno2
        subst he2
        subst hnx
        have hTw : Blk wr TB 32 (stL t).toArray := hTf.off hoff (by
          rintro (h | h)
          · omega
          · have := hxS.out _ h
            omega)
        have hrw : RowC wr 6 ax (no + k) (dRows ⟨a0_0, a0_1, rate, buf, a0_4⟩ (catF no f g)) := rowC_off hrx hoff (fun p hp h => by
          have h1 := hfx p hp
          rcases h with h | h
          · omega
          · have := hxS.out _ h
            omega)
        obtain ⟨vx, vc, hvx, -⟩ := own_sliceC hown
        subst hvx
        have hrv : RowC wr 6 vx (no + k) (dRows ⟨a0_0, a0_1, rate, buf, a0_4⟩ (catF no f g)) := RowC.of_own (by omega) hown
        have hok : (dRun ⟨a0_0, a0_1, rate, buf, a0_4⟩ (catF no f g) (no + k)).ok ⟨a0_0, a0_1, rate, buf, a0_4⟩ := run_ok HR.out _ (fun q hq => hall q hq)
        have hI : (dRun ⟨a0_0, a0_1, rate, buf, a0_4⟩ (catF no f g) (no + k)).inI := DSt.inI_of HR.out hok
        have HQB : Hid (∀ q, q < no + k → ∀ j, InI64 (dRows ⟨a0_0, a0_1, rate, buf, a0_4⟩ (catF no f g) q j)) := fun q hq j => by
          have h := row_pos HR.out (run_ok HR.out _ (fun z hz => hall z (by omega)) : (dRun ⟨a0_0, a0_1, rate, buf, a0_4⟩ (catF no f g) q).ok ⟨a0_0, a0_1, rate, buf, a0_4⟩) j
          show InI64 (dRow ⟨a0_0, a0_1, rate, buf, a0_4⟩ (dRun ⟨a0_0, a0_1, rate, buf, a0_4⟩ (catF no f g) q) j)
          unfold InI64
          omega
        rw [ht] at hTw
        obtain ⟨sk, hsk⟩ : ∃ sk, Hid (dRun ⟨a0_0, a0_1, rate, buf, a0_4⟩ (catF no f g) (no + k) = sk) := ⟨_, rfl⟩
        rw [hsk.out] at hTw hSk hI
        have hEQ : (Op.equal 32 (.agg (stL sk).toArray) (.agg (stL sk).toArray)).run Try.prog wr = .ok true wr := by
          have h := eq_st sk sk hI hI wr
          rwa [decide_eq_true rfl] at h
        have HEQ := Lib.hid hEQ
        have HBw := Lib.hid hbw
        have lS2 := hSk.lt
        have lT2 := hTw.lt
        clear hEQ hbw hown hoff hvb hTf hlate hall hrx hfx hok hI ht
        go_wp2_with (first | (refine BigFrame.wpList_want (by rfl) (fun K hK => wp_load_row _ _ rfl SB rfl _ _ _ _ hSk Try.underlying32 rfl (stL_info sk) (hK _ _ ?_))) | (refine BigFrame.wpList_want (by rfl) (fun K hK => wp_load_row _ _ rfl TB rfl _ _ _ _ hTw Try.underlying32 rfl (stL_info sk) (hK _ _ ?_))) | (refine BigFrame.wpList_want (by rfl) (fun K hK => wp_eql _ _ _ _ rfl (stL sk).toArray (stL sk).toArray rfl rfl guard_st true HEQ.out (hK _ _ ?_))) | (rw [if_pos (by rfl)]; refine wp_load_row _ _ rfl SB rfl _ _ _ _ hSk Try.underlying32 rfl (stL_info sk) ?_) | (rw [if_pos (by rfl)]; refine wp_load_row _ _ rfl TB rfl _ _ _ _ hTw Try.underlying32 rfl (stL_info sk) ?_) | (rw [if_pos (by rfl)]; refine wp_eql _ _ _ _ rfl (stL sk).toArray (stL sk).toArray rfl rfl guard_st true HEQ.out ?_) | (go_at_call 15; refine (requal_any vx vc ax cx (no + k) (dRows ⟨a0_0, a0_1, rate, buf, a0_4⟩ (catF no f g)) _ hrv hrw (by omega) HQB).mono ?_; rintro e w' ⟨rfl, os9, d9, rfl⟩))
        go_wp2
        go_ret
        exact ⟨rfl, below_then (HM0.out.trans (HBw.out.mono HM0.out.size)) (Nat.le_trans HM0.out.size HBw.out.size) (by repeat (first | (with_reducible assumption) | (with_reducible exact More.refl _) | (with_reducible refine More.alloc ?_ _) | (with_reducible refine More.more ?_ _ _) | (with_reducible refine More.drewN ?_ _) | (with_reducible refine More.drew ?_)))⟩
end Go.Proofs.Ytehlgomjgmabeaa
