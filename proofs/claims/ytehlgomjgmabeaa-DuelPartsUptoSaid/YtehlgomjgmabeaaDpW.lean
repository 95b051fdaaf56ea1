/- DuelParts: rules that are wrong. Conditions: none. -/
import Derived.Test.YtehlgomjgmabeaaDpPre
set_option linter.unusedVariables false
set_option linter.unusedSimpArgs false
namespace Go.Proofs.Ytehlgomjgmabeaa
open Go.RowKit Go.Shelf Go.Tide
set_option linter.unusedVariables false
set_option linter.unusedSimpArgs false
set_option maxRecDepth 20000 in
set_option maxHeartbeats 16000000 in
theorem duelParts_w (a0_0 a0_1 a0_2 a0_3 a0_4 : Int) (a1 : Option Addr) (len1 cap1 : Nat) (f : Nat → Nat → Int) (a2 : Option Addr) (len2 cap2 : Nat) (g : Nat → Nat → Int) (w : World) (erw : Int) (HE : Hid (erw ≠ 0)) (HCW : Hid (∀ W, Calls Try.prog 26 #[.agg #[.int .i64 a0_0, .int .i64 a0_1, .int .i64 a0_2, .int .i64 a0_3, .int .i64 a0_4]] W fun e w' => e = .returned (.int .i64 erw) ∧ More W w')) (h1 : RowC w 2 a1 len1 f) (h2 : RowC w 2 a2 len2 g) (s12 : len1 + len2 ≤ 1048576) :
    Calls Try.prog 3 #[.agg #[.int .i64 a0_0, .int .i64 a0_1, .int .i64 a0_2, .int .i64 a0_3, .int .i64 a0_4], .slice a1 len1 cap1, .slice a2 len2 cap2] w fun e w' => e = .returned (.bool true) ∧ Below w.heap.size w w' := by
  go_enter Try.func3, Try.ntmps3
  go_wp2_with (go_at_call 11; refine (duel_alive _).mono ?_; rintro e w' ⟨rfl, os0, d0, rfl⟩)
  go_wp2_with fail
  have HM0 : Hid (Below w.heap.size w ((w.alloc (.cells #[.int .i64 a0_0, .int .i64 a0_1, .int .i64 a0_2, .int .i64 a0_3, .int .i64 a0_4] 24)).more os0 d0)) := More.below (by repeat (first | (with_reducible assumption) | (with_reducible exact More.refl _) | (with_reducible refine More.alloc ?_ _) | (with_reducible refine More.more ?_ _ _) | (with_reducible refine More.drewN ?_ _) | (with_reducible refine More.drew ?_)))
  have hB : Blk ((w.alloc (.cells #[.int .i64 a0_0, .int .i64 a0_1, .int .i64 a0_2, .int .i64 a0_3, .int .i64 a0_4] 24)).more os0 d0) w.heap.size 24 #[.int .i64 a0_0, .int .i64 a0_1, .int .i64 a0_2, .int .i64 a0_3, .int .i64 a0_4] := (by repeat (first | (with_reducible assumption) | ((with_reducible refine Blk.new' ?_); (simp [Nat.add_assoc]; done)) | (with_reducible refine Blk.alloc ?_ _) | (with_reducible refine Blk.more ?_ _ _) | (with_reducible refine Blk.drew ?_) | (with_reducible refine Blk.drewN ?_ _)))
  have hz1 : RowC ((w.alloc (.cells #[.int .i64 a0_0, .int .i64 a0_1, .int .i64 a0_2, .int .i64 a0_3, .int .i64 a0_4] 24)).more os0 d0) 2 a1 len1 f := (by repeat (first | (with_reducible assumption) | (with_reducible exact RowC.nil) | (with_reducible apply RowC.drewN) | (with_reducible apply RowC.drew) | (with_reducible apply RowC.more) | (with_reducible apply RowC.alloc)))
  have hz2 : RowC ((w.alloc (.cells #[.int .i64 a0_0, .int .i64 a0_1, .int .i64 a0_2, .int .i64 a0_3, .int .i64 a0_4] 24)).more os0 d0) 2 a2 len2 g := (by repeat (first | (with_reducible assumption) | (with_reducible exact RowC.nil) | (with_reducible apply RowC.drewN) | (with_reducible apply RowC.drew) | (with_reducible apply RowC.more) | (with_reducible apply RowC.alloc)))
  have hlw : w.heap.size < ((w.alloc (.cells #[.int .i64 a0_0, .int .i64 a0_1, .int .i64 a0_2, .int .i64 a0_3, .int .i64 a0_4] 24)).more os0 d0).heap.size := hB.lt
  generalize ((w.alloc (.cells #[.int .i64 a0_0, .int .i64 a0_1, .int .i64 a0_2, .int .i64 a0_3, .int .i64 a0_4] 24)).more os0 d0) = w0 at *
  have hz20 : Hid (RowC w0 2 a2 len2 g) := hz2
  have hB00 : Hid (Blk w0 w.heap.size 24 #[.int .i64 a0_0, .int .i64 a0_1, .int .i64 a0_2, .int .i64 a0_3, .int .i64 a0_4]) := hB
  refine (play_wL a0_0 a0_1 a0_2 a0_3 a0_4 erw a1 len1 cap1 _ HE HCW.out).mono ?_
  rintro e w1 ⟨ao, no, co, s, er, rfl, HP, hb1⟩
  have HM1 : Hid (Below w.heap.size w w1) := HM0.out.trans (hb1.mono HM0.out.size)
  have hs01 := hb1.size
  have HB01 : Hid (Below w0.heap.size w0 w1) := hb1
  replace hB := hB.below hb1 hB.lt
  replace hz1 := hz1.below hb1 (Nat.le_refl _)
  replace hz2 := hz2.below hb1 (Nat.le_refl _)
  clear hb1 h1 h2
  go_upto_region 4 with (refine wpList_store_row rfl _ _ _ rfl w1.heap.size (stL s).toArray rfl rfl 32 #[.int .i64 0, .int .i64 0, .int .i64 0, .int .i64 0, .int .i64 0, .int .i64 0, .int .i64 0, .int .i64 0, .int .i64 0, .int .i64 0, .int .i64 0, .int .i64 0, .int .i64 0, .int .i64 0] (Blk.new w1 _ _) (stL_info s) rfl (stL_one s) ?_)
  have hS : Blk ((w1.alloc (.cells #[.int .i64 0, .int .i64 0, .int .i64 0, .int .i64 0, .int .i64 0, .int .i64 0, .int .i64 0, .int .i64 0, .int .i64 0, .int .i64 0, .int .i64 0, .int .i64 0, .int .i64 0, .int .i64 0] 32)).setRow w1.heap.size (stL s).toArray) w1.heap.size 32 (stL s).toArray := newRow
  have hnb : Below w1.heap.size w1 ((w1.alloc (.cells #[.int .i64 0, .int .i64 0, .int .i64 0, .int .i64 0, .int .i64 0, .int .i64 0, .int .i64 0, .int .i64 0, .int .i64 0, .int .i64 0, .int .i64 0, .int .i64 0, .int .i64 0, .int .i64 0] 32)).setRow w1.heap.size (stL s).toArray) := newRow_below
  generalize ((w1.alloc (.cells #[.int .i64 0, .int .i64 0, .int .i64 0, .int .i64 0, .int .i64 0, .int .i64 0, .int .i64 0, .int .i64 0, .int .i64 0, .int .i64 0, .int .i64 0, .int .i64 0, .int .i64 0, .int .i64 0] 32)).setRow w1.heap.size (stL s).toArray) = w2 at *
  have HM2 : Hid (Below w.heap.size w w2) := HM1.out.trans (hnb.mono HM1.out.size)
  have HB12 : Hid (Below w1.heap.size w1 w2) := hnb
  replace hB := hB.below hnb hB.lt
  replace hz1 := hz1.below hnb (Nat.le_refl _)
  replace hz2 := hz2.below hnb (Nat.le_refl _)
  clear hnb
  obtain ⟨SB, hSB⟩ : ∃ SB, Hid (w1.heap.size = SB) := ⟨_, rfl⟩
  rw [hSB.out] at hS ⊢
  have lS := hS.lt
  have lR := hB.lt
  have hrR : w2.rangeAt w.heap.size 0 [.int .i64 a0_0, .int .i64 a0_1, .int .i64 a0_2, .int .i64 a0_3, .int .i64 a0_4] := blk_range (cs := [.int .i64 a0_0, .int .i64 a0_1, .int .i64 a0_2, .int .i64 a0_3, .int .i64 a0_4]) hB
  refine wp_region_held_drew (S := fun w' => Below w2.heap.size w2 w') (by kernel_rfl) ?_ (fun hHeld => ?_)
  · exact (Below.refl _ _).drew
  generalize w2.drew = q0 at *
  refine wpAnyH_take (i := 0) (v := .agg #[.int .i64 a0_0, .int .i64 a0_1, .int .i64 a0_2, .int .i64 a0_3, .int .i64 a0_4]) rfl (by kernel_rfl) (by kernel_rfl) (by kernel_rfl) (fun _ _ _ h => h) (yieldsIf_load_mid (by rfl) _ _ rfl w.heap.size 0 rfl [.int .i64 a0_0, .int .i64 a0_1, .int .i64 a0_2, .int .i64 a0_3, .int .i64 a0_4] _ (fun w' hw => range_below hrR hw lR) Try.underlying24 rfl (by kernel_rfl)) (by assumption) ?_
  try simp only [lay]
  refine tk0 1 rfl ?_; try simp only [lay]
  refine tk0 2 rfl ?_; try simp only [lay]
  refine wpAnyH_ready (rs := [3, 10]) (by kernel_rfl) (by simp) ?_
  refine AllReadyH.cons rfl (fun K hK => ?_) (AllReadyH.cons rfl (fun K hK => ?_) AllReadyH.nil)
  · go_simp
    have hL : Blk (q0.alloc (.cells #[.slice a1 len1 cap1, .slice a2 len2 cap2] 25)) q0.heap.size 25 #[.slice a1 len1 cap1, .slice a2 len2 cap2] := Blk.new _ _ _
    have hh : Below w2.heap.size w2 (q0.alloc (.cells #[.slice a1 len1 cap1, .slice a2 len2 cap2] 25)) := hHeld.alloc hHeld.size _
    clear hHeld
    refine hK.out _ _ ?_ (fun hHeld => ?_)
    · exact hh
    clear hK K hh
    try simp only [lay]
    generalize (q0.alloc (.cells #[.slice a1 len1 cap1, .slice a2 len2 cap2] 25)) = q1 at *
    generalize q0.heap.size = LB at *
    refine wpAnyH_ready (rs := [4, 10]) (by kernel_rfl) (by simp) ?_
    refine AllReadyH.cons rfl (fun K hK => ?_) (AllReadyH.cons rfl (fun K hK => ?_) AllReadyH.nil)
    · go_simp
      refine (concat2 LB a1 len1 cap1 f a2 len2 cap2 g _ (hL.cell 0) (hL.cell 1) hL.lt (hz1.below hHeld (Nat.le_refl _)) (hz2.below hHeld (Nat.le_refl _)) (by omega) (by omega)).mono ?_
      rintro e q2 ⟨v0, rfl, hown0, hbc⟩
      obtain ⟨av, ac, hv0, -⟩ := own_sliceC hown0
      subst hv0
      have hCF : RowC q2 2 av (len1 + len2) (catF len1 f g) := by
        rw [cat_cells] at hown0
        exact RowC.of_own (by omega) hown0
      have hh : Below w2.heap.size w2 q2 := hHeld.trans (hbc.mono hHeld.size)
      clear hHeld hown0 hbc hL
      refine hK.out _ _ ?_ (fun hHeld => ?_)
      · exact hh
      clear hK K hh
      try simp only [lay]
      refine wpAnyH_ready (rs := [5, 10]) (by kernel_rfl) (by simp) ?_
      refine AllReadyH.cons rfl (fun K hK => ?_) (AllReadyH.cons rfl (fun K hK => ?_) AllReadyH.nil)
      · go_simp
        refine (play_wL a0_0 a0_1 a0_2 a0_3 a0_4 erw av (len1 + len2) ac _ HE HCW.out).mono ?_
        rintro e q3 ⟨ax, nx, cx, t, er2, rfl, HQ0, hbp⟩
        have HQ : Hid (er2 = erw) := HQ0.out
        have hh : Below w2.heap.size w2 q3 := hHeld.trans (hbp.mono hHeld.size)
        clear hHeld hbp hCF HQ0
        refine hK.out _ _ ?_ (fun hHeld => ?_)
        · exact hh
        clear hK K hh
        try simp only [lay]
        refine tk0 6 rfl ?_; try simp only [lay]
        refine tk0 7 rfl ?_; try simp only [lay]
        refine tk0 8 rfl ?_; try simp only [lay]
        refine tk0 9 rfl ?_; try simp only [lay]
        refine wpAnyH_ready (rs := [10]) (by kernel_rfl) (by simp) ?_
        refine AllReadyH.cons rfl (fun K hK => ?_) AllReadyH.nil
        go_simp
        have hT : Blk (q3.alloc (.cells #[.int .i64 0, .int .i64 0, .int .i64 0, .int .i64 0, .int .i64 0, .int .i64 0, .int .i64 0, .int .i64 0, .int .i64 0, .int .i64 0, .int .i64 0, .int .i64 0, .int .i64 0, .int .i64 0] 32)) q3.heap.size 32 #[.int .i64 0, .int .i64 0, .int .i64 0, .int .i64 0, .int .i64 0, .int .i64 0, .int .i64 0, .int .i64 0, .int .i64 0, .int .i64 0, .int .i64 0, .int .i64 0, .int .i64 0, .int .i64 0] := Blk.new _ _ _
        have hh : Below w2.heap.size w2 (q3.alloc (.cells #[.int .i64 0, .int .i64 0, .int .i64 0, .int .i64 0, .int .i64 0, .int .i64 0, .int .i64 0, .int .i64 0, .int .i64 0, .int .i64 0, .int .i64 0, .int .i64 0, .int .i64 0, .int .i64 0] 32)) := hHeld.alloc hHeld.size _
        have hTB := hHeld.size
        have HQ2 := HQ
        clear HQ
        clear hHeld
        refine hK.out _ _ ?_ (fun hHeld => ?_)
        · exact hh
        clear hK K hh
        try simp only [lay]
        generalize (q3.alloc (.cells #[.int .i64 0, .int .i64 0, .int .i64 0, .int .i64 0, .int .i64 0, .int .i64 0, .int .i64 0, .int .i64 0, .int .i64 0, .int .i64 0, .int .i64 0, .int .i64 0, .int .i64 0, .int .i64 0] 32)) = q4 at *
        generalize q3.heap.size = TB at *
        have HQ := HQ2
        clear HQ2
        refine tk0 11 rfl ?_; try simp only [lay]
        refine wpAnyH_ready (rs := [12]) (by kernel_rfl) (by simp) ?_
        refine AllReadyH.cons rfl (fun K hK => ?_) AllReadyH.nil
        rw [if_pos (by rfl)]
        refine wp_store_row _ _ _ rfl TB (stL t).toArray rfl rfl 32 #[.int .i64 0, .int .i64 0, .int .i64 0, .int .i64 0, .int .i64 0, .int .i64 0, .int .i64 0, .int .i64 0, .int .i64 0, .int .i64 0, .int .i64 0, .int .i64 0, .int .i64 0, .int .i64 0] hT (stL_info t) rfl (stL_one t) ?_
        refine hK.out _ _ ?_ (fun hHeld3 => ?_)
        · exact below_setRow hHeld hTB _
        clear hK K
        try simp only [lay, Act.put]
        refine tk0 13 rfl ?_; try simp only [lay]
        refine wpAnyH_done (by kernel_rfl) ?_ _
        have hTf : Blk (q4.setRow TB (stL t).toArray) TB 32 (stL t).toArray := setRow_heap _ _ _ _ _ _ hT
        have HQf := HQ
        clear hHeld HQ hT
        generalize (q4.setRow TB (stL t).toArray) = qf at *
        have HMf : Hid (Below w.heap.size w qf) := HM2.out.trans (hHeld3.mono HM2.out.size)
        have hee : er = erw := HP.out
        have hee2 : er2 = erw := HQf.out
        subst hee
        subst hee2
        have g0 : (er2 != 0) = true := by simpa using HE.out
        clear hB hS hTf hHeld3
        go_wp2
        go_ret
        exact ⟨rfl, HMf.out⟩
      · go_simp
        have hT : Blk (q2.alloc (.cells #[.int .i64 0, .int .i64 0, .int .i64 0, .int .i64 0, .int .i64 0, .int .i64 0, .int .i64 0, .int .i64 0, .int .i64 0, .int .i64 0, .int .i64 0, .int .i64 0, .int .i64 0, .int .i64 0] 32)) q2.heap.size 32 #[.int .i64 0, .int .i64 0, .int .i64 0, .int .i64 0, .int .i64 0, .int .i64 0, .int .i64 0, .int .i64 0, .int .i64 0, .int .i64 0, .int .i64 0, .int .i64 0, .int .i64 0, .int .i64 0] := Blk.new _ _ _
        have hh : Below w2.heap.size w2 (q2.alloc (.cells #[.int .i64 0, .int .i64 0, .int .i64 0, .int .i64 0, .int .i64 0, .int .i64 0, .int .i64 0, .int .i64 0, .int .i64 0, .int .i64 0, .int .i64 0, .int .i64 0, .int .i64 0, .int .i64 0] 32)) := hHeld.alloc hHeld.size _
        have hTB := hHeld.size
        replace hCF := hCF.alloc (.cells #[.int .i64 0, .int .i64 0, .int .i64 0, .int .i64 0, .int .i64 0, .int .i64 0, .int .i64 0, .int .i64 0, .int .i64 0, .int .i64 0, .int .i64 0, .int .i64 0, .int .i64 0, .int .i64 0] 32)
        clear hHeld
        refine hK.out _ _ ?_ (fun hHeld => ?_)
        · exact hh
        clear hK K hh
        try simp only [lay]
        generalize (q2.alloc (.cells #[.int .i64 0, .int .i64 0, .int .i64 0, .int .i64 0, .int .i64 0, .int .i64 0, .int .i64 0, .int .i64 0, .int .i64 0, .int .i64 0, .int .i64 0, .int .i64 0, .int .i64 0, .int .i64 0] 32)) = q3 at *
        generalize q2.heap.size = TB at *
        refine wpAnyH_ready (rs := [5]) (by kernel_rfl) (by simp) ?_
        refine AllReadyH.cons rfl (fun K hK => ?_) AllReadyH.nil
        go_simp
        refine (play_wL a0_0 a0_1 a0_2 a0_3 a0_4 erw av (len1 + len2) ac _ HE HCW.out).mono ?_
        rintro e q4 ⟨ax, nx, cx, t, er2, rfl, HQ0, hbp⟩
        have hTl := hT.lt
        have HQ : Hid (er2 = erw) := HQ0.out
        replace hT := hT.below hbp hT.lt
        clear hTl
        have hh : Below w2.heap.size w2 q4 := hHeld.trans (hbp.mono hHeld.size)
        clear hHeld hbp hCF HQ0
        refine hK.out _ _ ?_ (fun hHeld => ?_)
        · exact hh
        clear hK K hh
        try simp only [lay]
        refine tk0 6 rfl ?_; try simp only [lay]
        refine tk0 7 rfl ?_; try simp only [lay]
        refine tk0 8 rfl ?_; try simp only [lay]
        refine tk0 9 rfl ?_; try simp only [lay]
        refine tk0 11 rfl ?_; try simp only [lay]
        refine wpAnyH_ready (rs := [12]) (by kernel_rfl) (by simp) ?_
        refine AllReadyH.cons rfl (fun K hK => ?_) AllReadyH.nil
        rw [if_pos (by rfl)]
        refine wp_store_row _ _ _ rfl TB (stL t).toArray rfl rfl 32 #[.int .i64 0, .int .i64 0, .int .i64 0, .int .i64 0, .int .i64 0, .int .i64 0, .int .i64 0, .int .i64 0, .int .i64 0, .int .i64 0, .int .i64 0, .int .i64 0, .int .i64 0, .int .i64 0] hT (stL_info t) rfl (stL_one t) ?_
        refine hK.out _ _ ?_ (fun hHeld3 => ?_)
        · exact below_setRow hHeld hTB _
        clear hK K
        try simp only [lay, Act.put]
        refine tk0 13 rfl ?_; try simp only [lay]
        refine wpAnyH_done (by kernel_rfl) ?_ _
        have hTf : Blk (q4.setRow TB (stL t).toArray) TB 32 (stL t).toArray := setRow_heap _ _ _ _ _ _ hT
        have HQf := HQ
        clear hHeld HQ hT
        generalize (q4.setRow TB (stL t).toArray) = qf at *
        have HMf : Hid (Below w.heap.size w qf) := HM2.out.trans (hHeld3.mono HM2.out.size)
        have hee : er = erw := HP.out
        have hee2 : er2 = erw := HQf.out
        subst hee
        subst hee2
        have g0 : (er2 != 0) = true := by simpa using HE.out
        clear hB hS hTf hHeld3
        go_wp2
        go_ret
        exact ⟨rfl, HMf.out⟩
    · go_simp
      have hT : Blk (q1.alloc (.cells #[.int .i64 0, .int .i64 0, .int .i64 0, .int .i64 0, .int .i64 0, .int .i64 0, .int .i64 0, .int .i64 0, .int .i64 0, .int .i64 0, .int .i64 0, .int .i64 0, .int .i64 0, .int .i64 0] 32)) q1.heap.size 32 #[.int .i64 0, .int .i64 0, .int .i64 0, .int .i64 0, .int .i64 0, .int .i64 0, .int .i64 0, .int .i64 0, .int .i64 0, .int .i64 0, .int .i64 0, .int .i64 0, .int .i64 0, .int .i64 0] := Blk.new _ _ _
      have hh : Below w2.heap.size w2 (q1.alloc (.cells #[.int .i64 0, .int .i64 0, .int .i64 0, .int .i64 0, .int .i64 0, .int .i64 0, .int .i64 0, .int .i64 0, .int .i64 0, .int .i64 0, .int .i64 0, .int .i64 0, .int .i64 0, .int .i64 0] 32)) := hHeld.alloc hHeld.size _
      have hTB := hHeld.size
      replace hL := hL.alloc (.cells #[.int .i64 0, .int .i64 0, .int .i64 0, .int .i64 0, .int .i64 0, .int .i64 0, .int .i64 0, .int .i64 0, .int .i64 0, .int .i64 0, .int .i64 0, .int .i64 0, .int .i64 0, .int .i64 0] 32)
      clear hHeld
      refine hK.out _ _ ?_ (fun hHeld => ?_)
      · exact hh
      clear hK K hh
      try simp only [lay]
      generalize (q1.alloc (.cells #[.int .i64 0, .int .i64 0, .int .i64 0, .int .i64 0, .int .i64 0, .int .i64 0, .int .i64 0, .int .i64 0, .int .i64 0, .int .i64 0, .int .i64 0, .int .i64 0, .int .i64 0, .int .i64 0] 32)) = q2 at *
      generalize q1.heap.size = TB at *
      refine wpAnyH_ready (rs := [4]) (by kernel_rfl) (by simp) ?_
      refine AllReadyH.cons rfl (fun K hK => ?_) AllReadyH.nil
      go_simp
      refine (concat2 LB a1 len1 cap1 f a2 len2 cap2 g _ (hL.cell 0) (hL.cell 1) hL.lt (hz1.below hHeld (Nat.le_refl _)) (hz2.below hHeld (Nat.le_refl _)) (by omega) (by omega)).mono ?_
      rintro e q3 ⟨v0, rfl, hown0, hbc⟩
      obtain ⟨av, ac, hv0, -⟩ := own_sliceC hown0
      subst hv0
      have hCF : RowC q3 2 av (len1 + len2) (catF len1 f g) := by
        rw [cat_cells] at hown0
        exact RowC.of_own (by omega) hown0
      have hh : Below w2.heap.size w2 q3 := hHeld.trans (hbc.mono hHeld.size)
      replace hT := hT.below hbc hT.lt
      clear hHeld hown0 hbc hL
      refine hK.out _ _ ?_ (fun hHeld => ?_)
      · exact hh
      clear hK K hh
      try simp only [lay]
      refine wpAnyH_ready (rs := [5]) (by kernel_rfl) (by simp) ?_
      refine AllReadyH.cons rfl (fun K hK => ?_) AllReadyH.nil
      go_simp
      refine (play_wL a0_0 a0_1 a0_2 a0_3 a0_4 erw av (len1 + len2) ac _ HE HCW.out).mono ?_
      rintro e q4 ⟨ax, nx, cx, t, er2, rfl, HQ0, hbp⟩
      have hTl := hT.lt
      have HQ : Hid (er2 = erw) := HQ0.out
      replace hT := hT.below hbp hT.lt
      clear hTl
      have hh : Below w2.heap.size w2 q4 := hHeld.trans (hbp.mono hHeld.size)
      clear hHeld hbp hCF HQ0
      refine hK.out _ _ ?_ (fun hHeld => ?_)
      · exact hh
      clear hK K hh
      try simp only [lay]
      refine tk0 6 rfl ?_; try simp only [lay]
      refine tk0 7 rfl ?_; try simp only [lay]
      refine tk0 8 rfl ?_; try simp only [lay]
      refine tk0 9 rfl ?_; try simp only [lay]
      refine tk0 11 rfl ?_; try simp only [lay]
      refine wpAnyH_ready (rs := [12]) (by kernel_rfl) (by simp) ?_
      refine AllReadyH.cons rfl (fun K hK => ?_) AllReadyH.nil
      rw [if_pos (by rfl)]
      refine wp_store_row _ _ _ rfl TB (stL t).toArray rfl rfl 32 #[.int .i64 0, .int .i64 0, .int .i64 0, .int .i64 0, .int .i64 0, .int .i64 0, .int .i64 0, .int .i64 0, .int .i64 0, .int .i64 0, .int .i64 0, .int .i64 0, .int .i64 0, .int .i64 0] hT (stL_info t) rfl (stL_one t) ?_
      refine hK.out _ _ ?_ (fun hHeld3 => ?_)
      · exact below_setRow hHeld hTB _
      clear hK K
      try simp only [lay, Act.put]
      refine tk0 13 rfl ?_; try simp only [lay]
      refine wpAnyH_done (by kernel_rfl) ?_ _
      have hTf : Blk (q4.setRow TB (stL t).toArray) TB 32 (stL t).toArray := setRow_heap _ _ _ _ _ _ hT
      have HQf := HQ
      clear hHeld HQ hT
      generalize (q4.setRow TB (stL t).toArray) = qf at *
      have HMf : Hid (Below w.heap.size w qf) := HM2.out.trans (hHeld3.mono HM2.out.size)
      have hee : er = erw := HP.out
      have hee2 : er2 = erw := HQf.out
      subst hee
      subst hee2
      have g0 : (er2 != 0) = true := by simpa using HE.out
      clear hB hS hTf hHeld3
      go_wp2
      go_ret
      exact ⟨rfl, HMf.out⟩
  · go_simp
    have hT : Blk (q0.alloc (.cells #[.int .i64 0, .int .i64 0, .int .i64 0, .int .i64 0, .int .i64 0, .int .i64 0, .int .i64 0, .int .i64 0, .int .i64 0, .int .i64 0, .int .i64 0, .int .i64 0, .int .i64 0, .int .i64 0] 32)) q0.heap.size 32 #[.int .i64 0, .int .i64 0, .int .i64 0, .int .i64 0, .int .i64 0, .int .i64 0, .int .i64 0, .int .i64 0, .int .i64 0, .int .i64 0, .int .i64 0, .int .i64 0, .int .i64 0, .int .i64 0] := Blk.new _ _ _
    have hh : Below w2.heap.size w2 (q0.alloc (.cells #[.int .i64 0, .int .i64 0, .int .i64 0, .int .i64 0, .int .i64 0, .int .i64 0, .int .i64 0, .int .i64 0, .int .i64 0, .int .i64 0, .int .i64 0, .int .i64 0, .int .i64 0, .int .i64 0] 32)) := hHeld.alloc hHeld.size _
    have hTB := hHeld.size
    clear hHeld
    refine hK.out _ _ ?_ (fun hHeld => ?_)
    · exact hh
    clear hK K hh
    try simp only [lay]
    generalize (q0.alloc (.cells #[.int .i64 0, .int .i64 0, .int .i64 0, .int .i64 0, .int .i64 0, .int .i64 0, .int .i64 0, .int .i64 0, .int .i64 0, .int .i64 0, .int .i64 0, .int .i64 0, .int .i64 0, .int .i64 0] 32)) = q1 at *
    generalize q0.heap.size = TB at *
    refine wpAnyH_ready (rs := [3]) (by kernel_rfl) (by simp) ?_
    refine AllReadyH.cons rfl (fun K hK => ?_) AllReadyH.nil
    go_simp
    have hL : Blk (q1.alloc (.cells #[.slice a1 len1 cap1, .slice a2 len2 cap2] 25)) q1.heap.size 25 #[.slice a1 len1 cap1, .slice a2 len2 cap2] := Blk.new _ _ _
    have hh : Below w2.heap.size w2 (q1.alloc (.cells #[.slice a1 len1 cap1, .slice a2 len2 cap2] 25)) := hHeld.alloc hHeld.size _
    replace hT := hT.alloc (.cells #[.slice a1 len1 cap1, .slice a2 len2 cap2] 25)
    clear hHeld
    refine hK.out _ _ ?_ (fun hHeld => ?_)
    · exact hh
    clear hK K hh
    try simp only [lay]
    generalize (q1.alloc (.cells #[.slice a1 len1 cap1, .slice a2 len2 cap2] 25)) = q2 at *
    generalize q1.heap.size = LB at *
    refine wpAnyH_ready (rs := [4]) (by kernel_rfl) (by simp) ?_
    refine AllReadyH.cons rfl (fun K hK => ?_) AllReadyH.nil
    go_simp
    refine (concat2 LB a1 len1 cap1 f a2 len2 cap2 g _ (hL.cell 0) (hL.cell 1) hL.lt (hz1.below hHeld (Nat.le_refl _)) (hz2.below hHeld (Nat.le_refl _)) (by omega) (by omega)).mono ?_
    rintro e q3 ⟨v0, rfl, hown0, hbc⟩
    obtain ⟨av, ac, hv0, -⟩ := own_sliceC hown0
    subst hv0
    have hCF : RowC q3 2 av (len1 + len2) (catF len1 f g) := by
      rw [cat_cells] at hown0
      exact RowC.of_own (by omega) hown0
    have hh : Below w2.heap.size w2 q3 := hHeld.trans (hbc.mono hHeld.size)
    replace hT := hT.below hbc hT.lt
    clear hHeld hown0 hbc hL
    refine hK.out _ _ ?_ (fun hHeld => ?_)
    · exact hh
    clear hK K hh
    try simp only [lay]
    refine wpAnyH_ready (rs := [5]) (by kernel_rfl) (by simp) ?_
    refine AllReadyH.cons rfl (fun K hK => ?_) AllReadyH.nil
    go_simp
    refine (play_wL a0_0 a0_1 a0_2 a0_3 a0_4 erw av (len1 + len2) ac _ HE HCW.out).mono ?_
    rintro e q4 ⟨ax, nx, cx, t, er2, rfl, HQ0, hbp⟩
    have hTl := hT.lt
    have HQ : Hid (er2 = erw) := HQ0.out
    replace hT := hT.below hbp hT.lt
    clear hTl
    have hh : Below w2.heap.size w2 q4 := hHeld.trans (hbp.mono hHeld.size)
    clear hHeld hbp hCF HQ0
    refine hK.out _ _ ?_ (fun hHeld => ?_)
    · exact hh
    clear hK K hh
    try simp only [lay]
    refine tk0 6 rfl ?_; try simp only [lay]
    refine tk0 7 rfl ?_; try simp only [lay]
    refine tk0 8 rfl ?_; try simp only [lay]
    refine tk0 9 rfl ?_; try simp only [lay]
    refine tk0 11 rfl ?_; try simp only [lay]
    refine wpAnyH_ready (rs := [12]) (by kernel_rfl) (by simp) ?_
    refine AllReadyH.cons rfl (fun K hK => ?_) AllReadyH.nil
    rw [if_pos (by rfl)]
    refine wp_store_row _ _ _ rfl TB (stL t).toArray rfl rfl 32 #[.int .i64 0, .int .i64 0, .int .i64 0, .int .i64 0, .int .i64 0, .int .i64 0, .int .i64 0, .int .i64 0, .int .i64 0, .int .i64 0, .int .i64 0, .int .i64 0, .int .i64 0, .int .i64 0] hT (stL_info t) rfl (stL_one t) ?_
    refine hK.out _ _ ?_ (fun hHeld3 => ?_)
    · exact below_setRow hHeld hTB _
    clear hK K
    try simp only [lay, Act.put]
    refine tk0 13 rfl ?_; try simp only [lay]
    refine wpAnyH_done (by kernel_rfl) ?_ _
    have hTf : Blk (q4.setRow TB (stL t).toArray) TB 32 (stL t).toArray := setRow_heap _ _ _ _ _ _ hT
    have HQf := HQ
    clear hHeld HQ hT
    generalize (q4.setRow TB (stL t).toArray) = qf at *
    have HMf : Hid (Below w.heap.size w qf) := HM2.out.trans (hHeld3.mono HM2.out.size)
    have hee : er = erw := HP.out
    have hee2 : er2 = erw := HQf.out
    subst hee
    subst hee2
    have g0 : (er2 != 0) = true := by simpa using HE.out
    clear hB hS hTf hHeld3
    go_wp2
    go_ret
    exact ⟨rfl, HMf.out⟩
end Go.Proofs.Ytehlgomjgmabeaa
