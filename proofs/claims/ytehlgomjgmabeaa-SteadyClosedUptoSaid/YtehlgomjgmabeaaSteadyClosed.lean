/- SteadyClosed: for every input of such bulk the law returns true. Conditions: none. -/
import Derived.Test.YtehlgomjgmabeaaStA
import Derived.Test.YtehlgomjgmabeaaStCmp2
import Derived.Test.YtehlgomjgmabeaaDuelX
import Derived.Test.YtehlgomjgmabeaaIsFlat
set_option linter.unusedVariables false
set_option linter.unusedSimpArgs false
namespace Go.Proofs.Ytehlgomjgmabeaa
open Go.RowKit Go.Shelf Go.Tide
set_option linter.unusedVariables false
set_option linter.unusedSimpArgs false
set_option maxRecDepth 20000 in
set_option maxHeartbeats 8000000 in
theorem steadyClosed_walk (a0_0 a0_1 a0_2 a0_3 a0_4 : Int) (a1 : Option Addr) (len1 cap1 : Nat) (z1 : List Int) (w : World) (b0_0 : InI64 a0_0) (b0_1 : InI64 a0_1) (b0_2 : InI64 a0_2) (b0_3 : InI64 a0_3) (b0_4 : InI64 a0_4) (f1 : IsFlat w a1 len1 cap1 2 z1) (r1 : cap1 * 16 ≤ 140737488351232) (s1 : len1 ≤ 1048576) :
    Calls Try.prog 4 #[.agg #[.int .i64 a0_0, .int .i64 a0_1, .int .i64 a0_2, .int .i64 a0_3, .int .i64 a0_4], .slice a1 len1 cap1] w fun e w' => e = .returned (.bool true) ∧ Below w.heap.size w w' := by
  have hf := f1.rowC (by omega)
  generalize (fun k j => z1.getD (k * 2 + j) 0) = f at hf
  clear f1 b0_0 b0_1 b0_2 b0_3 b0_4
  by_cases hK : dKind a0_0 ∧ dKind a0_1 ∧ dNums a0_2 a0_3 a0_4
  · obtain ⟨k0, k1, hn⟩ := hK
    have hnn := hn
    obtain ⟨n1, n2, n3, n4, n5, n6⟩ := hnn
    obtain ⟨rate, rfl⟩ : ∃ n : Nat, a0_2 = n := ⟨a0_2.toNat, by omega⟩
    obtain ⟨buf, rfl⟩ : ∃ n : Nat, a0_3 = n := ⟨a0_3.toNat, by omega⟩
    have HR : Hid (DRules.ok ⟨a0_0, a0_1, rate, buf, a0_4⟩) := ⟨k0, k1, hn⟩
    obtain ⟨J, hJ⟩ : ∃ J : Nat, Hid (DRules.jit ⟨a0_0, a0_1, rate, buf, a0_4⟩ = J) := ⟨a0_4.toNat, by show a0_4 = _; omega⟩
    clear k0 k1 hn n1 n2 n3 n4 n5 n6
    go_enter Try.func4, Try.ntmps4
    go_wp2_with (go_at_call 16; refine (steady_alive _).mono ?_; rintro e w' ⟨rfl, os0, d0, rfl⟩)
    go_wp2_with fail
    have hm : More w ((w.alloc (.cells #[.int .i64 a0_0, .int .i64 a0_1, .int .i64 rate, .int .i64 buf, .int .i64 a0_4] 24)).more os0 d0) := (by repeat (first | (with_reducible assumption) | (with_reducible exact More.refl _) | (with_reducible refine More.alloc ?_ _) | (with_reducible refine More.more ?_ _ _) | (with_reducible refine More.drewN ?_ _) | (with_reducible refine More.drew ?_)))
    have hB1 : Blk ((w.alloc (.cells #[.int .i64 a0_0, .int .i64 a0_1, .int .i64 rate, .int .i64 buf, .int .i64 a0_4] 24)).more os0 d0) w.heap.size 24 #[.int .i64 a0_0, .int .i64 a0_1, .int .i64 rate, .int .i64 buf, .int .i64 a0_4] := (by repeat (first | (with_reducible assumption) | ((with_reducible refine Blk.new' ?_); (simp [Nat.add_assoc]; done)) | (with_reducible refine Blk.alloc ?_ _) | (with_reducible refine Blk.more ?_ _ _) | (with_reducible refine Blk.drew ?_) | (with_reducible refine Blk.drewN ?_ _)))
    have hz : RowC ((w.alloc (.cells #[.int .i64 a0_0, .int .i64 a0_1, .int .i64 rate, .int .i64 buf, .int .i64 a0_4] 24)).more os0 d0) 2 a1 len1 f := (by repeat (first | (with_reducible assumption) | (with_reducible exact RowC.nil) | (with_reducible apply RowC.drewN) | (with_reducible apply RowC.drew) | (with_reducible apply RowC.more) | (with_reducible apply RowC.alloc)))
    have hlg := hB1.lt
    generalize ((w.alloc (.cells #[.int .i64 a0_0, .int .i64 a0_1, .int .i64 rate, .int .i64 buf, .int .i64 a0_4] 24)).more os0 d0) = wz at *
    have hmb := hm.below
    have hms := hmb.size
    refine (states_any ⟨a0_0, a0_1, rate, buf, a0_4⟩ J hJ HR.out _).mono ?_
    intro e w1 hP
    have HP := Lib.hid hP
    clear hP
    have hP := HP.out
    unfold StatesPost at hP
    rcases hP with ⟨s, a2, c2, hF, he, hrow, hG, hm1⟩ | ⟨hF, he, hm1⟩
    · subst he
      have hz1 : RowC w1 2 a1 len1 f := hz.below hm1.below (Nat.le_refl _)
      have hB2 := hB1.below hm1.below hlg
      have hl2 := hB2.lt
      have f0 : w1.cell? ⟨w.heap.size, 0, none⟩ = _ := hB2.cell 0
      have f1 : w1.cell? ⟨w.heap.size, 1, none⟩ = _ := hB2.cell 1
      have f2 : w1.cell? ⟨w.heap.size, 2, none⟩ = _ := hB2.cell 2
      have f3 : w1.cell? ⟨w.heap.size, 3, none⟩ = _ := hB2.cell 3
      have f4 : w1.cell? ⟨w.heap.size, 4, none⟩ = _ := hB2.cell 4
      have HF := Lib.hid hF
      have HM : Hid (Below w.heap.size w w1) := below_then hmb hms hm1
      have hws := HM.out.size
      have hl300 : s.l.length ≤ 300 := hG.le
      have HG := Lib.hid hG
      clear HP hF hz hB1 hm1 hmb hm hB2 hG
      by_cases hA : dAll ⟨a0_0, a0_1, rate, buf, a0_4⟩ f len1
      · have HA := Lib.hid hA
        clear hA
        go_wp2_with fail
        refine (play_ok ⟨a0_0, a0_1, rate, buf, a0_4⟩ a1 len1 cap1 f _ hz1 s1 HR.out HA.out).mono ?_
        rintro e w2 ⟨ao, co, he, hown, hb2⟩
        obtain ⟨ix, hix, -⟩ := run_found (n := len1) (f := f) hJ.out HF.out HA.out
        obtain ⟨t, ht⟩ : ∃ t, Hid (dRun ⟨a0_0, a0_1, rate, buf, a0_4⟩ f len1 = t) := ⟨_, rfl⟩
        rw [ht.out] at he hix
        have HT : Hid (t.inI) := DSt.inI_of HR.out (HG.out.ok t (List.mem_of_getElem? hix))
        have HX := Lib.hid hix
        have he' : e = .returned (.tuple #[.slice ao len1 co, .agg (stL t).toArray, .int .i64 0]) := he
        subst he'
        have hrow2 : RowC w2 14 a2 s.l.length (stF s) := hrow.below hb2 (Nat.le_refl _)
        have HM2 : Hid (Below w.heap.size w w2) := HM.out.trans (hb2.mono hws)
        clear he hown hb2 hrow hz1 hix ht f0 f1 f2 f3 f4
        have hl3 := HM2.out.size
        go_wp2_with (refine wpList_store_row rfl _ _ _ rfl w2.heap.size (stL t).toArray rfl rfl 32 #[.int .i64 0, .int .i64 0, .int .i64 0, .int .i64 0, .int .i64 0, .int .i64 0, .int .i64 0, .int .i64 0, .int .i64 0, .int .i64 0, .int .i64 0, .int .i64 0, .int .i64 0, .int .i64 0] (Blk.new w2 _ _) (stL_info t) rfl (stL_one t) ?_)
        have hC : Blk ((w2.alloc (.cells #[.int .i64 0, .int .i64 0, .int .i64 0, .int .i64 0, .int .i64 0, .int .i64 0, .int .i64 0, .int .i64 0, .int .i64 0, .int .i64 0, .int .i64 0, .int .i64 0, .int .i64 0, .int .i64 0] 32)).setRow w2.heap.size (stL t).toArray) w2.heap.size 32 (stL t).toArray := newRow
        have hnb : Below w2.heap.size w2 ((w2.alloc (.cells #[.int .i64 0, .int .i64 0, .int .i64 0, .int .i64 0, .int .i64 0, .int .i64 0, .int .i64 0, .int .i64 0, .int .i64 0, .int .i64 0, .int .i64 0, .int .i64 0, .int .i64 0, .int .i64 0] 32)).setRow w2.heap.size (stL t).toArray) := newRow_below
        generalize ((w2.alloc (.cells #[.int .i64 0, .int .i64 0, .int .i64 0, .int .i64 0, .int .i64 0, .int .i64 0, .int .i64 0, .int .i64 0, .int .i64 0, .int .i64 0, .int .i64 0, .int .i64 0, .int .i64 0, .int .i64 0] 32)).setRow w2.heap.size (stL t).toArray) = w3 at *
        have hrow3 : RowC w3 14 a2 s.l.length (stF s) := hrow2.below hnb (Nat.le_refl _)
        have HM3 : Hid (Below w.heap.size w w3) := HM2.out.trans (hnb.mono hl3)
        have hl4 := hC.lt
        clear hnb
        generalize hT : w2.heap.size = T at *
        clear hrow2 HM2
        go_loopw [10, 36] (fun c i wr => ∃ k : Nat, i = .int .i64 k ∧ c = .int .i64 (if ix < k then 1 else 0) ∧ k ≤ s.l.length ∧ Below w3.heap.size w3 wr) (fun _ i _ => s.l.length - (intOf i).toNat)
        case atStart => exact ⟨0, rfl, by rw [if_neg (by omega)], Nat.zero_le _, Below.refl _ _⟩
        case round =>
          obtain ⟨k, rfl, rfl, hk, hbw⟩ := hrel
          have hsz := hbw.size
          by_cases hlt : k < s.l.length
          · obtain ⟨x, hx⟩ : ∃ x, s.l[k]? = some x := ⟨_, List.getElem?_eq_getElem hlt⟩
            have HXI : Hid x.inI := DSt.inI_of HR.out (HG.out.ok x (List.mem_of_getElem? hx))
            obtain ⟨b, off, rfl, hb, hrg⟩ := rangeL (hrow3.below hbw (Nat.le_refl _)) hlt hx
            have HKX : Hid (x = t ↔ k = ix) := by
              constructor
              · intro e
                exact found_once HF.out hx (e ▸ HX.out)
              · intro e
                have := HX.out
                rw [← e, hx] at this
                exact Option.some.inj this
            have hCw := hC.below hbw hl4
            have t1 : (k : Int) < (s.l.length : Int) := by omega
            have t2 : (0 : Int) ≤ (k : Int) := by omega
            clear hx
            go_upto_region 13 with (first | (refine wpList_load_mid rfl _ _ rfl b (off + k * 14) rfl (stL x) _ hrg Try.underlying32 rfl (stL_info x) ?_) | (refine wpList_store_row rfl _ _ _ rfl wr.heap.size (stL x).toArray rfl rfl 32 #[.int .i64 0, .int .i64 0, .int .i64 0, .int .i64 0, .int .i64 0, .int .i64 0, .int .i64 0, .int .i64 0, .int .i64 0, .int .i64 0, .int .i64 0, .int .i64 0, .int .i64 0, .int .i64 0] (Blk.new wr _ _) (stL_info x) rfl (stL_one x) ?_))
            have hN : Blk ((wr.alloc (.cells #[.int .i64 0, .int .i64 0, .int .i64 0, .int .i64 0, .int .i64 0, .int .i64 0, .int .i64 0, .int .i64 0, .int .i64 0, .int .i64 0, .int .i64 0, .int .i64 0, .int .i64 0, .int .i64 0] 32)).setRow wr.heap.size (stL x).toArray) wr.heap.size 32 (stL x).toArray := newRow
            have hnb : Below wr.heap.size wr ((wr.alloc (.cells #[.int .i64 0, .int .i64 0, .int .i64 0, .int .i64 0, .int .i64 0, .int .i64 0, .int .i64 0, .int .i64 0, .int .i64 0, .int .i64 0, .int .i64 0, .int .i64 0, .int .i64 0, .int .i64 0] 32)).setRow wr.heap.size (stL x).toArray) := newRow_below
            generalize ((wr.alloc (.cells #[.int .i64 0, .int .i64 0, .int .i64 0, .int .i64 0, .int .i64 0, .int .i64 0, .int .i64 0, .int .i64 0, .int .i64 0, .int .i64 0, .int .i64 0, .int .i64 0, .int .i64 0, .int .i64 0] 32)).setRow wr.heap.size (stL x).toArray) = w5 at *
            have hCx := hCw.below hnb hCw.lt
            have hbx := hbw.trans (hnb.mono hsz)
            clear hCw hbw hrg hb hnb
            generalize hRR : wr.heap.size = R at *
            have hlR := hN.lt
            have hlT := hCx.lt
            have hEq := eq_st x t HXI.out HT.out w5

            by_cases e : x = t
            · have hki := HKX.out.1 e
              rw [decide_eq_true e] at hEq
              have HEq := Lib.hid hEq
              clear hEq
              rw [if_neg (by omega)]
              have HE := Lib.hid hki
              clear e hki
              go_wp2_with (first | (refine wpList_load_row rfl _ _ rfl R rfl _ _ _ _ hN Try.underlying32 rfl (stL_info x) ?_) | (refine wpList_load_row rfl _ _ rfl T rfl _ _ _ _ hCx Try.underlying32 rfl (stL_info t) ?_) | (refine wpList_eql rfl _ _ _ _ rfl (stL x).toArray (stL t).toArray rfl rfl guard_st true HEq.out ?_))
              go_roundw
              case rel => exact ⟨k + 1, by go_num, by rw [if_pos (by have := HE.out; omega)], by omega, hbx⟩
              case measure => simp [intOf]; omega
            · have hki : k ≠ ix := fun h => e (HKX.out.2 h)
              rw [decide_eq_false e] at hEq
              have HEq := Lib.hid hEq
              clear hEq
              have HE : Hid ((if ix < k then (1 : Int) else 0) = if ix < k + 1 then 1 else 0) := by
                show _ = _
                by_cases h : ix < k
                · rw [if_pos h, if_pos (by omega)]
                · rw [if_neg h, if_neg (by omega)]
              clear e hki
              go_wp2_with (first | (refine wpList_load_row rfl _ _ rfl R rfl _ _ _ _ hN Try.underlying32 rfl (stL_info x) ?_) | (refine wpList_load_row rfl _ _ rfl T rfl _ _ _ _ hCx Try.underlying32 rfl (stL_info t) ?_) | (refine wpList_eql rfl _ _ _ _ rfl (stL x).toArray (stL t).toArray rfl rfl guard_st false HEq.out ?_))
              go_roundw
              case rel => exact ⟨k + 1, by go_num, by rw [HE.out], by omega, hbx⟩
              case measure => simp [intOf]; omega
          · obtain rfl : k = s.l.length := by omega
            have hk2 : ix < s.l.length := get_lt HX.out
            have ec : (if ix < s.l.length then (1 : Int) else 0) = 1 := if_pos hk2
            have HB : Hid (Below w.heap.size w wr) := HM3.out.trans (hbw.mono HM3.out.size)
            rw [ec]
            go_wp2
            go_ret
            exact ⟨rfl, HB.out⟩
      · have HA := Lib.hid hA
        clear hA
        go_wp2_with fail
        refine (play_any ⟨a0_0, a0_1, rate, buf, a0_4⟩ a1 len1 cap1 f _ hz1 s1 HR.out HA.out).mono ?_
        rintro e w2 ⟨rfl, os2, d2, rfl⟩
        go_wp2
        go_ret
        exact ⟨rfl, below_then HM.out hws (by repeat (first | (with_reducible assumption) | (with_reducible exact More.refl _) | (with_reducible refine More.alloc ?_ _) | (with_reducible refine More.more ?_ _ _) | (with_reducible refine More.drewN ?_ _) | (with_reducible refine More.drew ?_)))⟩
    · subst he
      have hz1 : RowC w1 2 a1 len1 f := hz.below hm1.below (Nat.le_refl _)
      have hB2 := hB1.below hm1.below hlg
      have hl2 := hB2.lt
      have f0 : w1.cell? ⟨w.heap.size, 0, none⟩ = _ := hB2.cell 0
      have f1 : w1.cell? ⟨w.heap.size, 1, none⟩ = _ := hB2.cell 1
      have f2 : w1.cell? ⟨w.heap.size, 2, none⟩ = _ := hB2.cell 2
      have f3 : w1.cell? ⟨w.heap.size, 3, none⟩ = _ := hB2.cell 3
      have f4 : w1.cell? ⟨w.heap.size, 4, none⟩ = _ := hB2.cell 4
      have HM : Hid (Below w.heap.size w w1) := below_then hmb hms hm1
      have hws := HM.out.size
      clear HP hF hz hB1 hm1 hmb hm hB2
      by_cases hA : dAll ⟨a0_0, a0_1, rate, buf, a0_4⟩ f len1
      · have HA := Lib.hid hA
        clear hA
        go_wp2_with fail
        refine (play_ok ⟨a0_0, a0_1, rate, buf, a0_4⟩ a1 len1 cap1 f _ hz1 s1 HR.out HA.out).mono ?_
        rintro e w2 ⟨ao, co, he, hown, hb2⟩
        obtain ⟨t, ht⟩ : ∃ t, Hid (dRun ⟨a0_0, a0_1, rate, buf, a0_4⟩ f len1 = t) := ⟨_, rfl⟩
        rw [ht.out] at he
        have he' : e = .returned (.tuple #[.slice ao len1 co, .agg (stL t).toArray, .int .i64 0]) := he
        subst he'
        have HM2 : Hid (Below w.heap.size w w2) := HM.out.trans (hb2.mono hws)
        clear he hown hb2 hz1 ht f0 f1 f2 f3 f4
        have hl3 := HM2.out.size
        go_wp2_with (refine wpList_store_row rfl _ _ _ rfl w2.heap.size (stL t).toArray rfl rfl 32 #[.int .i64 0, .int .i64 0, .int .i64 0, .int .i64 0, .int .i64 0, .int .i64 0, .int .i64 0, .int .i64 0, .int .i64 0, .int .i64 0, .int .i64 0, .int .i64 0, .int .i64 0, .int .i64 0] (Blk.new w2 _ _) (stL_info t) rfl (stL_one t) ?_)
        go_ret
        exact ⟨rfl, HM2.out.trans (newRow_below.mono hl3)⟩
      · have HA := Lib.hid hA
        clear hA
        go_wp2_with fail
        refine (play_any ⟨a0_0, a0_1, rate, buf, a0_4⟩ a1 len1 cap1 f _ hz1 s1 HR.out HA.out).mono ?_
        rintro e w2 ⟨rfl, os2, d2, rfl⟩
        go_wp2
        go_ret
        exact ⟨rfl, below_then HM.out hws (by repeat (first | (with_reducible assumption) | (with_reducible exact More.refl _) | (with_reducible refine More.alloc ?_ _) | (with_reducible refine More.more ?_ _ _) | (with_reducible refine More.drewN ?_ _) | (with_reducible refine More.drew ?_)))⟩
  · obtain ⟨er, HE, hcw⟩ := wrong_er a0_0 a0_1 a0_2 a0_3 a0_4 hK
    have HCW := Lib.hid hcw
    clear hcw hK
    have g1 : (er != 0) = true := by simpa using HE.out
    go_enter Try.func4, Try.ntmps4
    go_wp2_with (go_at_call 16; refine (steady_alive _).mono ?_; rintro e w' ⟨rfl, os0, d0, rfl⟩)
    go_wp2_with fail
    refine (states_w a0_0 a0_1 a0_2 a0_3 a0_4 er _ HE HCW.out).mono ?_
    rintro e w1 ⟨rfl, os1, d1, rfl⟩
    go_wp2_with fail
    refine (play_w a0_0 a0_1 a0_2 a0_3 a0_4 er a1 len1 cap1 _ HE HCW.out).mono ?_
    rintro e w1 ⟨rfl, os2, d2, rfl⟩
    go_wp2
    go_ret
    exact ⟨rfl, More.below (by repeat (first | (with_reducible assumption) | (with_reducible exact More.refl _) | (with_reducible refine More.alloc ?_ _) | (with_reducible refine More.more ?_ _ _) | (with_reducible refine More.drewN ?_ _) | (with_reducible refine More.drew ?_)))⟩
end Go.Proofs.Ytehlgomjgmabeaa
