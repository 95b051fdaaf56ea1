/- SteadyLead: for every input of such bulk the law returns true. Conditions: none. -/
import Derived.Test.YtehlgomjgmabeaaSq
import Derived.Test.YtehlgomjgmabeaaStA
import Derived.Test.YtehlgomjgmabeaaStCmp2
import Derived.Test.YtehlgomjgmabeaaStNat
import Derived.Test.YtehlgomjgmabeaaDuelX
import Derived.Test.YtehlgomjgmabeaaIsFlat
set_option linter.unusedVariables false
set_option linter.unusedSimpArgs false
namespace Go.Proofs.Ytehlgomjgmabeaa
open Go.RowKit Go.Shelf Go.Tide
set_option linter.unusedVariables false
set_option linter.unusedSimpArgs false
set_option maxRecDepth 20000 in
set_option maxHeartbeats 8000000 in
theorem steadyLead_walk (a0_0 a0_1 a0_2 a0_3 a0_4 : Int) (a1 : Int) (a2 : Option Addr) (len2 cap2 : Nat) (z2 : List Int) (w : World) (b0_0 : InI64 a0_0) (b0_1 : InI64 a0_1) (b0_2 : InI64 a0_2) (b0_3 : InI64 a0_3) (b0_4 : InI64 a0_4) (b1 : InI64 a1) (f2 : IsFlat w a2 len2 cap2 2 z2) (r2 : cap2 * 16 ≤ 140737488351232) (s2 : len2 ≤ 1048576) :
    Calls Try.prog 5 #[.agg #[.int .i64 a0_0, .int .i64 a0_1, .int .i64 a0_2, .int .i64 a0_3, .int .i64 a0_4], .int .i64 a1, .slice a2 len2 cap2] w fun e w' => e = .returned (.bool true) ∧ Below w.heap.size w w' := by
  have hf := f2.rowC (by omega)
  generalize (fun k j => z2.getD (k * 2 + j) 0) = f at hf
  clear f2 b0_0 b0_1 b0_2 b0_3 b0_4
  unfold InI64 at b1
  by_cases hK : dKind a0_0 ∧ dKind a0_1 ∧ dNums a0_2 a0_3 a0_4
  · obtain ⟨k0, k1, hn⟩ := hK
    have hnn := hn
    obtain ⟨n1, n2, n3, n4, n5, n6⟩ := hnn
    obtain ⟨rate, rfl⟩ : ∃ n : Nat, a0_2 = n := ⟨a0_2.toNat, by omega⟩
    obtain ⟨buf, rfl⟩ : ∃ n : Nat, a0_3 = n := ⟨a0_3.toNat, by omega⟩
    have HR : Hid (DRules.ok ⟨a0_0, a0_1, rate, buf, a0_4⟩) := ⟨k0, k1, hn⟩
    obtain ⟨J, hJ⟩ : ∃ J : Nat, Hid (DRules.jit ⟨a0_0, a0_1, rate, buf, a0_4⟩ = J) := ⟨a0_4.toNat, by show a0_4 = _; omega⟩
    clear k0 k1 hn n1 n2 n3 n4 n5 n6
    go_enter Try.func5, Try.ntmps5
    go_wp2_with (go_at_call 16; refine (steady_alive _).mono ?_; rintro e w' ⟨rfl, os0, d0, rfl⟩)
    go_wp2_with fail
    have hm : More w ((w.alloc (.cells #[.int .i64 a0_0, .int .i64 a0_1, .int .i64 rate, .int .i64 buf, .int .i64 a0_4] 24)).more os0 d0) := (by repeat (first | (with_reducible assumption) | (with_reducible exact More.refl _) | (with_reducible refine More.alloc ?_ _) | (with_reducible refine More.more ?_ _ _) | (with_reducible refine More.drewN ?_ _) | (with_reducible refine More.drew ?_)))
    have hB1 : Blk ((w.alloc (.cells #[.int .i64 a0_0, .int .i64 a0_1, .int .i64 rate, .int .i64 buf, .int .i64 a0_4] 24)).more os0 d0) w.heap.size 24 #[.int .i64 a0_0, .int .i64 a0_1, .int .i64 rate, .int .i64 buf, .int .i64 a0_4] := (by repeat (first | (with_reducible assumption) | ((with_reducible refine Blk.new' ?_); (simp [Nat.add_assoc]; done)) | (with_reducible refine Blk.alloc ?_ _) | (with_reducible refine Blk.more ?_ _ _) | (with_reducible refine Blk.drew ?_) | (with_reducible refine Blk.drewN ?_ _)))
    have hz : RowC ((w.alloc (.cells #[.int .i64 a0_0, .int .i64 a0_1, .int .i64 rate, .int .i64 buf, .int .i64 a0_4] 24)).more os0 d0) 2 a2 len2 f := (by repeat (first | (with_reducible assumption) | (with_reducible exact RowC.nil) | (with_reducible apply RowC.drewN) | (with_reducible apply RowC.drew) | (with_reducible apply RowC.more) | (with_reducible apply RowC.alloc)))
    have hlg := hB1.lt
    generalize ((w.alloc (.cells #[.int .i64 a0_0, .int .i64 a0_1, .int .i64 rate, .int .i64 buf, .int .i64 a0_4] 24)).more os0 d0) = wz at *
    have hmb := hm.below
    have hms := hmb.size
    refine (states_any ⟨a0_0, a0_1, rate, buf, a0_4⟩ J hJ HR.out _).mono ?_
    intro e w1 hP
    have HP := Lib.hid hP
    clear hP
    have hP := HP.out
    unfold StatesPost at hP
    rcases hP with ⟨s, a5, c5, hF, he, hrow, hG, hm1⟩ | ⟨hF, he, hm1⟩
    · subst he
      have hz1 : RowC w1 2 a2 len2 f := hz.below hm1.below (Nat.le_refl _)
      have hB2 := hB1.below hm1.below hlg
      have hl2 := hB2.lt
      have f0 : w1.cell? ⟨w.heap.size, 0, none⟩ = _ := hB2.cell 0
      have f1 : w1.cell? ⟨w.heap.size, 1, none⟩ = _ := hB2.cell 1
      have f2 : w1.cell? ⟨w.heap.size, 2, none⟩ = _ := hB2.cell 2
      have f3 : w1.cell? ⟨w.heap.size, 3, none⟩ = _ := hB2.cell 3
      have f4 : w1.cell? ⟨w.heap.size, 4, none⟩ = _ := hB2.cell 4
      have HF := Lib.hid hF
      have HM : Hid (Below w.heap.size w w1) := below_then hmb hms hm1
      have hws := HM.out.size
      have hl300 : s.l.length ≤ 300 := hG.le
      have HG := Lib.hid hG
      clear HP hF hz hB1 hm1 hmb hm hG
      by_cases h0 : a1 < 0
      · have t1 : decide (a1 < 0) = true := by simpa using h0
        go_wp2_with fail
        refine (lead_any ⟨a0_0, a0_1, rate, buf, a0_4⟩ J hJ HR.out a1 _).mono ?_
        rintro e w2 ⟨hb2, hc2⟩
        have he : ∃ er : Int, Hid (er ≠ 0) ∧ e = .returned (.tuple #[.slice none 0 0, .int .i64 er]) := by
          rcases hc2 with ⟨_, _, _, _, h, _⟩ | ⟨_, _, _, h⟩ | ⟨_, h⟩
          · omega
          · exact ⟨3, by show (3 : Int) ≠ 0; decide, h⟩
          · exact ⟨4, by show (4 : Int) ≠ 0; decide, h⟩
        obtain ⟨er, HE, rfl⟩ := he
        have g1 : (er != 0) = true := by simpa using HE.out
        have HB : Hid (Below w.heap.size w w2) := HM.out.trans (hb2.mono hws)
        clear hc2 hb2 f0 f1 f2 f3 f4 hB2 hz1 hrow
        go_wp2
        go_ret
        exact ⟨rfl, HB.out⟩
      obtain ⟨N, rfl⟩ : ∃ N : Nat, a1 = N := ⟨a1.toNat, by omega⟩
      clear h0
      have t1 : decide ((N : Int) < 0) = false := by simp
      go_wp2_with fail
      refine (lead_nat ⟨a0_0, a0_1, rate, buf, a0_4⟩ J hJ HR.out N _).mono ?_
      rintro e w2 ⟨hb2, hc2⟩
      by_cases hN : s.l.length ≤ N
      · have he : e = .returned (.tuple #[.slice none 0 0, .int .i64 3]) := by
          rcases hc2 with ⟨s', _, _, h1, h, _⟩ | ⟨_, _, _, h⟩ | ⟨h1, h⟩
          · rw [HF.out] at h1
            obtain rfl := Option.some.inj h1
            omega
          · exact h
          · rw [HF.out] at h1; cases h1
        subst he
        have t2 : decide (s.l.length ≤ N) = true := by simpa using hN
        have HB : Hid (Below w.heap.size w w2) := HM.out.trans (hb2.mono hws)
        clear hc2 hb2 f0 f1 f2 f3 f4 hB2 hz1 hrow
        go_wp2
        go_ret
        exact ⟨rfl, HB.out⟩
      · have t2 : decide (s.l.length ≤ N) = false := by simpa using hN
        have hNl : N < s.l.length := by omega
        have t3 : (N : Int) < (s.l.length : Int) := by omega
        have t4 : (0 : Int) ≤ (N : Int) := by omega
        have he : ∃ a c, e = .returned (.tuple #[.slice a (leadAt s 300 N).length c, .int .i64 0]) ∧ RowC w2 2 a (leadAt s 300 N).length (drF J (leadAt s 300 N).reverse) := by
          rcases hc2 with ⟨s', a, c, h1, h, h2, h3⟩ | ⟨s', h1, h, _⟩ | ⟨h1, h⟩
          · rw [HF.out] at h1
            obtain rfl := Option.some.inj h1
            exact ⟨a, c, h2, h3.1⟩
          · rw [HF.out] at h1
            obtain rfl := Option.some.inj h1
            omega
          · rw [HF.out] at h1; cases h1
        obtain ⟨ap, cp, rfl, hrp⟩ := he
        obtain ⟨y, hy⟩ : ∃ y, s.l[N]? = some y := ⟨_, List.getElem?_eq_getElem hNl⟩
        have HY := Lib.hid hy
        obtain ⟨hc1, hc2'⟩ := lead_comes hJ.out HF.out (by omega) hy
        have HLl : Hid ((leadAt s 300 N).length ≤ N) := lead_len (finv_run (m_pos J) (by omega) _ _ HF.out : FInv (dNx ⟨a0_0, a0_1, rate, buf, a0_4⟩ J) ((J + 1) * (J + 1)) 300 (dBegin ⟨a0_0, a0_1, rate, buf, a0_4⟩) (300 * ((J + 1) * (J + 1))) s) 300 N hNl
        obtain ⟨P, hPl⟩ : ∃ P, Hid ((leadAt s 300 N).length = P) := ⟨_, rfl⟩
        have hP20 : P ≤ 1048576 := by have := HLl.out; have := hPl.out; omega
        rw [hPl.out] at hrp hc1 hc2' ⊢
        have HC1 := Lib.hid hc1
        have HC2 := Lib.hid hc2'
        have hB3 := hB2.below hb2 hl2
        have hz2 : RowC w2 2 a2 len2 f := hz1.below hb2 (Nat.le_refl _)
        have hrow2 : RowC w2 14 a5 s.l.length (stF s) := hrow.below hb2 (Nat.le_refl _)
        have HM2 : Hid (Below w.heap.size w w2) := HM.out.trans (hb2.mono hws)
        have hws2 := HM2.out.size
        have hl3 := hB3.lt
        have f0 : w2.cell? ⟨w.heap.size, 0, none⟩ = _ := hB3.cell 0
        have f1 : w2.cell? ⟨w.heap.size, 1, none⟩ = _ := hB3.cell 1
        have f2 : w2.cell? ⟨w.heap.size, 2, none⟩ = _ := hB3.cell 2
        have f3 : w2.cell? ⟨w.heap.size, 3, none⟩ = _ := hB3.cell 3
        have f4 : w2.cell? ⟨w.heap.size, 4, none⟩ = _ := hB3.cell 4
        have HYI : Hid y.inI := DSt.inI_of HR.out (HG.out.ok y (List.mem_of_getElem? hy))
        have HYY : Hid (∀ w, (Op.equal 32 (.agg (stL y).toArray) (.agg (stL y).toArray)).run Try.prog w = .ok true w) := fun w => by
          have h := eq_st y y HYI.out HYI.out w
          rwa [decide_eq_true rfl] at h
        clear hc1 hc2' hc2 hy hB2 hb2 hz1 hrow HM
        go_wp2_with fail
        refine (play_ok ⟨a0_0, a0_1, rate, buf, a0_4⟩ ap P cp _ _ hrp hP20 HR.out HC1.out).mono ?_
        rintro e w3 ⟨ao, co, he, hown, hb3⟩
        rw [HC2.out] at he
        have he' : e = .returned (.tuple #[.slice ao P co, .agg (stL y).toArray, .int .i64 0]) := he
        subst he'
        have hB4 := hB3.below hb3 hl3
        have hz3 : RowC w3 2 a2 len2 f := hz2.below hb3 (Nat.le_refl _)
        have hrow3 : RowC w3 14 a5 s.l.length (stF s) := hrow2.below hb3 (Nat.le_refl _)
        have HM3 : Hid (Below w.heap.size w w3) := HM2.out.trans (hb3.mono hws2)
        have hws3 := HM3.out.size
        have hl4 := hB4.lt
        have f0 : w3.cell? ⟨w.heap.size, 0, none⟩ = _ := hB4.cell 0
        have f1 : w3.cell? ⟨w.heap.size, 1, none⟩ = _ := hB4.cell 1
        have f2 : w3.cell? ⟨w.heap.size, 2, none⟩ = _ := hB4.cell 2
        have f3 : w3.cell? ⟨w.heap.size, 3, none⟩ = _ := hB4.cell 3
        have f4 : w3.cell? ⟨w.heap.size, 4, none⟩ = _ := hB4.cell 4
        clear he hown hb3 hrp hB3 hz2 hrow2 HM2
        go_upto_region 8 with (refine wpList_store_row rfl _ _ _ rfl w3.heap.size (stL y).toArray rfl rfl 32 #[.int .i64 0, .int .i64 0, .int .i64 0, .int .i64 0, .int .i64 0, .int .i64 0, .int .i64 0, .int .i64 0, .int .i64 0, .int .i64 0, .int .i64 0, .int .i64 0, .int .i64 0, .int .i64 0] (Blk.new w3 _ _) (stL_info y) rfl (stL_one y) ?_)
        have hCY : Blk ((w3.alloc (.cells #[.int .i64 0, .int .i64 0, .int .i64 0, .int .i64 0, .int .i64 0, .int .i64 0, .int .i64 0, .int .i64 0, .int .i64 0, .int .i64 0, .int .i64 0, .int .i64 0, .int .i64 0, .int .i64 0] 32)).setRow w3.heap.size (stL y).toArray) w3.heap.size 32 (stL y).toArray := newRow
        have hnb : Below w3.heap.size w3 ((w3.alloc (.cells #[.int .i64 0, .int .i64 0, .int .i64 0, .int .i64 0, .int .i64 0, .int .i64 0, .int .i64 0, .int .i64 0, .int .i64 0, .int .i64 0, .int .i64 0, .int .i64 0, .int .i64 0, .int .i64 0] 32)).setRow w3.heap.size (stL y).toArray) := newRow_below
        have hz4 : RowC ((w3.alloc (.cells #[.int .i64 0, .int .i64 0, .int .i64 0, .int .i64 0, .int .i64 0, .int .i64 0, .int .i64 0, .int .i64 0, .int .i64 0, .int .i64 0, .int .i64 0, .int .i64 0, .int .i64 0, .int .i64 0] 32)).setRow w3.heap.size (stL y).toArray) 2 a2 len2 f := hz3.below hnb (Nat.le_refl _)
        have hrow4 : RowC ((w3.alloc (.cells #[.int .i64 0, .int .i64 0, .int .i64 0, .int .i64 0, .int .i64 0, .int .i64 0, .int .i64 0, .int .i64 0, .int .i64 0, .int .i64 0, .int .i64 0, .int .i64 0, .int .i64 0, .int .i64 0] 32)).setRow w3.heap.size (stL y).toArray) 14 a5 s.l.length (stF s) := hrow3.below hnb (Nat.le_refl _)
        have HM4 : Hid (Below w.heap.size w ((w3.alloc (.cells #[.int .i64 0, .int .i64 0, .int .i64 0, .int .i64 0, .int .i64 0, .int .i64 0, .int .i64 0, .int .i64 0, .int .i64 0, .int .i64 0, .int .i64 0, .int .i64 0, .int .i64 0, .int .i64 0] 32)).setRow w3.heap.size (stL y).toArray)) := HM3.out.trans (hnb.mono hws3)
        have hB5 := hB4.below hnb hl4
        clear hnb
        have hl5 := hCY.lt
        generalize ((w3.alloc (.cells #[.int .i64 0, .int .i64 0, .int .i64 0, .int .i64 0, .int .i64 0, .int .i64 0, .int .i64 0, .int .i64 0, .int .i64 0, .int .i64 0, .int .i64 0, .int .i64 0, .int .i64 0, .int .i64 0] 32)).setRow w3.heap.size (stL y).toArray) = w4 at *
        generalize hT : w3.heap.size = T at *
        have hws4 := HM4.out.size
        clear hz3 hrow3 HM3 f0 f1 f2 f3 f4
        have f0 : w4.cell? ⟨w.heap.size, 0, none⟩ = _ := hB5.cell 0
        have f1 : w4.cell? ⟨w.heap.size, 1, none⟩ = _ := hB5.cell 1
        have f2 : w4.cell? ⟨w.heap.size, 2, none⟩ = _ := hB5.cell 2
        have f3 : w4.cell? ⟨w.heap.size, 3, none⟩ = _ := hB5.cell 3
        have f4 : w4.cell? ⟨w.heap.size, 4, none⟩ = _ := hB5.cell 4
        have hlB5 := hB5.lt
        go_wp2_with fail
        by_cases hA : dAll ⟨a0_0, a0_1, rate, buf, a0_4⟩ f len2
        · have HA := Lib.hid hA
          clear hA
          refine (play_ok ⟨a0_0, a0_1, rate, buf, a0_4⟩ a2 len2 cap2 f _ hz4 s2 HR.out HA.out).mono ?_
          rintro e w5 ⟨ao2, co2, he, hown, hb5⟩
          obtain ⟨ix, hix, hsh⟩ := run_found (n := len2) (f := f) hJ.out HF.out HA.out
          obtain ⟨u, hu⟩ : ∃ u, Hid (dRun ⟨a0_0, a0_1, rate, buf, a0_4⟩ f len2 = u) := ⟨_, rfl⟩
          rw [hu.out] at he hix
          have HUI : Hid (u.inI) := DSt.inI_of HR.out (HG.out.ok u (List.mem_of_getElem? hix))
          have HX := Lib.hid hix
          have HSh := Lib.hid hsh
          have he' : e = .returned (.tuple #[.slice ao2 len2 co2, .agg (stL u).toArray, .int .i64 0]) := he
          subst he'
          have hCY5 : Blk w5 T 32 (stL y).toArray := hCY.below hb5 hl5
          have hrow5 : RowC w5 14 a5 s.l.length (stF s) := hrow4.below hb5 (Nat.le_refl _)
          have HM5 : Hid (Below w.heap.size w w5) := HM4.out.trans (hb5.mono hws4)
          have hl6 := HM5.out.size
          clear he hown hb5 hrow4 hz4 hix hu hsh hCY hB5 f0 f1 f2 f3 f4
          go_wp2_with (refine wpList_store_row rfl _ _ _ rfl w5.heap.size (stL u).toArray rfl rfl 32 #[.int .i64 0, .int .i64 0, .int .i64 0, .int .i64 0, .int .i64 0, .int .i64 0, .int .i64 0, .int .i64 0, .int .i64 0, .int .i64 0, .int .i64 0, .int .i64 0, .int .i64 0, .int .i64 0] (Blk.new w5 _ _) (stL_info u) rfl (stL_one u) ?_)
          have hCU : Blk ((w5.alloc (.cells #[.int .i64 0, .int .i64 0, .int .i64 0, .int .i64 0, .int .i64 0, .int .i64 0, .int .i64 0, .int .i64 0, .int .i64 0, .int .i64 0, .int .i64 0, .int .i64 0, .int .i64 0, .int .i64 0] 32)).setRow w5.heap.size (stL u).toArray) w5.heap.size 32 (stL u).toArray := newRow
          have hnb : Below w5.heap.size w5 ((w5.alloc (.cells #[.int .i64 0, .int .i64 0, .int .i64 0, .int .i64 0, .int .i64 0, .int .i64 0, .int .i64 0, .int .i64 0, .int .i64 0, .int .i64 0, .int .i64 0, .int .i64 0, .int .i64 0, .int .i64 0] 32)).setRow w5.heap.size (stL u).toArray) := newRow_below
          have hCY6 : Blk ((w5.alloc (.cells #[.int .i64 0, .int .i64 0, .int .i64 0, .int .i64 0, .int .i64 0, .int .i64 0, .int .i64 0, .int .i64 0, .int .i64 0, .int .i64 0, .int .i64 0, .int .i64 0, .int .i64 0, .int .i64 0] 32)).setRow w5.heap.size (stL u).toArray) T 32 (stL y).toArray := hCY5.below hnb hCY5.lt
          have HBF : Hid (Below w.heap.size w ((w5.alloc (.cells #[.int .i64 0, .int .i64 0, .int .i64 0, .int .i64 0, .int .i64 0, .int .i64 0, .int .i64 0, .int .i64 0, .int .i64 0, .int .i64 0, .int .i64 0, .int .i64 0, .int .i64 0, .int .i64 0] 32)).setRow w5.heap.size (stL u).toArray).drew) := (HM5.out.trans (hnb.mono hl6)).drew
          obtain ⟨b, off, rfl, hbl, hrg⟩ := rangeL (hrow5.below hnb (Nat.le_refl _)) hNl HY.out
          clear hnb
          generalize ((w5.alloc (.cells #[.int .i64 0, .int .i64 0, .int .i64 0, .int .i64 0, .int .i64 0, .int .i64 0, .int .i64 0, .int .i64 0, .int .i64 0, .int .i64 0, .int .i64 0, .int .i64 0, .int .i64 0, .int .i64 0] 32)).setRow w5.heap.size (stL u).toArray) = w6 at *
          generalize w5.heap.size = U at *
          have q1 : w6.drew.rangeAt T 0 (stL y) := blk_range (cs := stL y) hCY6.drew
          have q2 : w6.drew.rangeAt b (off + N * 14) (stL y) := by rw [World.rangeAt_drew]; exact hrg
          have q3 : w6.drew.rangeAt U 0 (stL u) := blk_range (cs := stL u) hCU.drew
          clear hCU hCY6 hCY5 hrow5 hrg
          by_cases euy : u = y
          · have HUY : Hid (∀ w, (Op.equal 32 (.agg (stL u).toArray) (.agg (stL y).toArray)).run Try.prog w = .ok true w) := fun w => by
              have h := eq_st u y HUI.out HYI.out w
              rwa [decide_eq_true euy] at h
            have hle : P ≤ len2 := by
              have h1 := HX.out
              rw [euy] at h1
              have h2 := found_once HF.out h1 HY.out
              rw [h2, hPl.out] at HSh
              exact HSh.out
            have t5 : decide (P ≤ len2) = true := by simpa using hle
            have t6 : (P : Int) ≤ (len2 : Int) := by omega
            clear euy
            refine wp_region_held_drew (S := (fun w' => w'.rangeAt T 0 (stL y) ∧ w'.rangeAt b (off + N * 14) (stL y) ∧ w'.rangeAt U 0 (stL u))) (by kernel_rfl) ?_ (fun hHeld => ?_)
            · exact ⟨q1, q2, q3⟩
            refine tk0 0 rfl ?_; try simp only [lay]
            refine tk0 1 rfl ?_; try simp only [lay]
            refine tk0 2 rfl ?_; try simp only [lay]
            refine tk0 3 rfl ?_; try simp only [lay]
            refine tk0 4 rfl ?_; try simp only [lay]
            refine tk0 5 rfl ?_; try simp only [lay]
            refine tk0 6 rfl ?_; try simp only [lay]
            refine wpAnyH_take (i := 7) (v := .agg (stL y).toArray) rfl (by kernel_rfl) (by kernel_rfl) (by kernel_rfl) (fun _ _ _ h => h) (yieldsIf_load_mid (by rfl) _ _ rfl T (0) rfl (stL y) _ (fun w hw => hw.1) Try.underlying32 rfl (stL_info y)) (by assumption) ?_
            try simp only [lay]
            refine tk0 8 rfl ?_; try simp only [lay]
            refine tk0 9 rfl ?_; try simp only [lay]
            refine tk0 10 rfl ?_; try simp only [lay]
            refine wpAnyH_take (i := 11) (v := .agg (stL y).toArray) rfl (by kernel_rfl) (by kernel_rfl) (by kernel_rfl) (fun _ _ _ h => h) (yieldsIf_load_mid (by rfl) _ _ rfl b (off + N * 14) rfl (stL y) _ (fun w hw => hw.2.1) Try.underlying32 rfl (stL_info y)) (by assumption) ?_
            try simp only [lay]
            refine tk 12 (.bool true) rfl ⟨by rfl, fun w' _ => run_eql _ _ _ _ rfl (stL y).toArray (stL y).toArray rfl rfl guard_st true (HYY.out w')⟩ ?_
            try simp only [lay]
            refine tk0 13 rfl ?_; try simp only [lay]
            refine tk0 14 rfl ?_; try simp only [lay]
            refine tk0 15 rfl ?_; try simp only [lay]
            refine tk0 16 rfl ?_; try simp only [lay]
            refine tk0 17 rfl ?_; try simp only [lay]
            refine wpAnyH_take (i := 18) (v := .agg (stL u).toArray) rfl (by kernel_rfl) (by kernel_rfl) (by kernel_rfl) (fun _ _ _ h => h) (yieldsIf_load_mid (by rfl) _ _ rfl U (0) rfl (stL u) _ (fun w hw => hw.2.2) Try.underlying32 rfl (stL_info u)) (by assumption) ?_
            try simp only [lay]
            refine wpAnyH_take (i := 19) (v := .agg (stL y).toArray) rfl (by kernel_rfl) (by kernel_rfl) (by kernel_rfl) (fun _ _ _ h => h) (yieldsIf_load_mid (by rfl) _ _ rfl T (0) rfl (stL y) _ (fun w hw => hw.1) Try.underlying32 rfl (stL_info y)) (by assumption) ?_
            try simp only [lay]
            refine tk 20 (.bool (!true)) rfl ⟨by rfl, fun w' _ => run_neq _ _ _ _ rfl (stL u).toArray (stL y).toArray rfl rfl guard_st true (HUY.out w')⟩ ?_
            try simp only [lay, Bool.not_true, Bool.not_false]
            refine tk0 21 rfl ?_; try simp only [lay]
            refine tk0 22 rfl ?_; try simp only [lay]
            refine tk0 23 rfl ?_; try simp only [lay]
            refine tk0 24 rfl ?_; try simp only [lay]
            refine tk0 25 rfl ?_; try simp only [lay]
            refine tk0 26 rfl ?_; try simp only [lay]
            refine tk0 27 rfl ?_; try simp only [lay]
            refine tk0 28 rfl ?_; try simp only [lay]
            refine tk0 29 rfl ?_; try simp only [lay]
            refine tk0 30 rfl ?_; try simp only [lay]
            refine wpAnyH_done (by kernel_rfl) ?_ _
            go_wp2
            go_ret
            exact ⟨rfl, HBF.out⟩
          · have HUY : Hid (∀ w, (Op.equal 32 (.agg (stL u).toArray) (.agg (stL y).toArray)).run Try.prog w = .ok false w) := fun w => by
              have h := eq_st u y HUI.out HYI.out w
              rwa [decide_eq_false euy] at h
            clear euy
            refine wp_region_held_drew (S := (fun w' => w'.rangeAt T 0 (stL y) ∧ w'.rangeAt b (off + N * 14) (stL y) ∧ w'.rangeAt U 0 (stL u))) (by kernel_rfl) ?_ (fun hHeld => ?_)
            · exact ⟨q1, q2, q3⟩
            refine tk0 0 rfl ?_; try simp only [lay]
            refine tk0 1 rfl ?_; try simp only [lay]
            refine tk0 2 rfl ?_; try simp only [lay]
            refine tk0 3 rfl ?_; try simp only [lay]
            refine tk0 4 rfl ?_; try simp only [lay]
            refine tk0 5 rfl ?_; try simp only [lay]
            refine tk0 6 rfl ?_; try simp only [lay]
            refine wpAnyH_take (i := 7) (v := .agg (stL y).toArray) rfl (by kernel_rfl) (by kernel_rfl) (by kernel_rfl) (fun _ _ _ h => h) (yieldsIf_load_mid (by rfl) _ _ rfl T (0) rfl (stL y) _ (fun w hw => hw.1) Try.underlying32 rfl (stL_info y)) (by assumption) ?_
            try simp only [lay]
            refine tk0 8 rfl ?_; try simp only [lay]
            refine tk0 9 rfl ?_; try simp only [lay]
            refine tk0 10 rfl ?_; try simp only [lay]
            refine wpAnyH_take (i := 11) (v := .agg (stL y).toArray) rfl (by kernel_rfl) (by kernel_rfl) (by kernel_rfl) (fun _ _ _ h => h) (yieldsIf_load_mid (by rfl) _ _ rfl b (off + N * 14) rfl (stL y) _ (fun w hw => hw.2.1) Try.underlying32 rfl (stL_info y)) (by assumption) ?_
            try simp only [lay]
            refine tk 12 (.bool true) rfl ⟨by rfl, fun w' _ => run_eql _ _ _ _ rfl (stL y).toArray (stL y).toArray rfl rfl guard_st true (HYY.out w')⟩ ?_
            try simp only [lay]
            refine tk0 13 rfl ?_; try simp only [lay]
            refine tk0 14 rfl ?_; try simp only [lay]
            refine tk0 15 rfl ?_; try simp only [lay]
            refine tk0 16 rfl ?_; try simp only [lay]
            refine tk0 17 rfl ?_; try simp only [lay]
            refine wpAnyH_take (i := 18) (v := .agg (stL u).toArray) rfl (by kernel_rfl) (by kernel_rfl) (by kernel_rfl) (fun _ _ _ h => h) (yieldsIf_load_mid (by rfl) _ _ rfl U (0) rfl (stL u) _ (fun w hw => hw.2.2) Try.underlying32 rfl (stL_info u)) (by assumption) ?_
            try simp only [lay]
            refine wpAnyH_take (i := 19) (v := .agg (stL y).toArray) rfl (by kernel_rfl) (by kernel_rfl) (by kernel_rfl) (fun _ _ _ h => h) (yieldsIf_load_mid (by rfl) _ _ rfl T (0) rfl (stL y) _ (fun w hw => hw.1) Try.underlying32 rfl (stL_info y)) (by assumption) ?_
            try simp only [lay]
            refine tk 20 (.bool (!false)) rfl ⟨by rfl, fun w' _ => run_neq _ _ _ _ rfl (stL u).toArray (stL y).toArray rfl rfl guard_st false (HUY.out w')⟩ ?_
            try simp only [lay, Bool.not_true, Bool.not_false]
            refine tk0 21 rfl ?_; try simp only [lay]
            refine tk0 22 rfl ?_; try simp only [lay]
            refine sk 23 rfl (by rfl) ?_; try simp only [lay]
            refine sk 24 rfl (by rfl) ?_; try simp only [lay]
            refine sk 25 rfl (by rfl) ?_; try simp only [lay]
            refine sk 26 rfl (by rfl) ?_; try simp only [lay]
            refine sk 27 rfl (by rfl) ?_; try simp only [lay]
            refine tk0 28 rfl ?_; try simp only [lay]
            refine tk0 29 rfl ?_; try simp only [lay]
            refine tk0 30 rfl ?_; try simp only [lay]
            refine wpAnyH_done (by kernel_rfl) ?_ _
            go_wp2
            go_ret
            exact ⟨rfl, HBF.out⟩
        · have HA := Lib.hid hA
          clear hA
          refine (play_any ⟨a0_0, a0_1, rate, buf, a0_4⟩ a2 len2 cap2 f _ hz4 s2 HR.out HA.out).mono ?_
          rintro e w5 ⟨he, hm5⟩
          obtain ⟨u, hu⟩ : ∃ u : DSt, Hid (stL u = [.int .i64 0, .int .i64 0, .int .i64 0, .int .i64 0, .int .i64 0, .int .i64 0, .int .i64 0, .int .i64 0, .int .i64 0, .int .i64 0, .int .i64 0, .int .i64 0, .int .i64 0, .int .i64 0]) := ⟨⟨⟨0, 0, 0, 0, 0, 0⟩, ⟨0, 0, 0, 0, 0, 0⟩, 0, 0⟩, rfl⟩
          have he' : e = .returned (.tuple #[.slice none 0 0, .agg (stL u).toArray, .int .i64 2]) := by rw [hu.out]; exact he
          clear he
          subst he'
          have hCY5 : Blk w5 T 32 (stL y).toArray := hCY.below hm5.below hl5
          have hrow5 : RowC w5 14 a5 s.l.length (stF s) := hrow4.below hm5.below (Nat.le_refl _)
          have HM5 : Hid (Below w.heap.size w w5) := below_then HM4.out hws4 hm5
          have hl6 := HM5.out.size
          clear hm5 hrow4 hz4 hCY hB5 f0 f1 f2 f3 f4
          go_wp2_with (refine wpList_store_row rfl _ _ _ rfl w5.heap.size (stL u).toArray rfl rfl 32 #[.int .i64 0, .int .i64 0, .int .i64 0, .int .i64 0, .int .i64 0, .int .i64 0, .int .i64 0, .int .i64 0, .int .i64 0, .int .i64 0, .int .i64 0, .int .i64 0, .int .i64 0, .int .i64 0] (Blk.new w5 _ _) (stL_info u) rfl (stL_one u) ?_)
          have hCU : Blk ((w5.alloc (.cells #[.int .i64 0, .int .i64 0, .int .i64 0, .int .i64 0, .int .i64 0, .int .i64 0, .int .i64 0, .int .i64 0, .int .i64 0, .int .i64 0, .int .i64 0, .int .i64 0, .int .i64 0, .int .i64 0] 32)).setRow w5.heap.size (stL u).toArray) w5.heap.size 32 (stL u).toArray := newRow
          have hnb : Below w5.heap.size w5 ((w5.alloc (.cells #[.int .i64 0, .int .i64 0, .int .i64 0, .int .i64 0, .int .i64 0, .int .i64 0, .int .i64 0, .int .i64 0, .int .i64 0, .int .i64 0, .int .i64 0, .int .i64 0, .int .i64 0, .int .i64 0] 32)).setRow w5.heap.size (stL u).toArray) := newRow_below
          have hCY6 : Blk ((w5.alloc (.cells #[.int .i64 0, .int .i64 0, .int .i64 0, .int .i64 0, .int .i64 0, .int .i64 0, .int .i64 0, .int .i64 0, .int .i64 0, .int .i64 0, .int .i64 0, .int .i64 0, .int .i64 0, .int .i64 0] 32)).setRow w5.heap.size (stL u).toArray) T 32 (stL y).toArray := hCY5.below hnb hCY5.lt
          have HBF : Hid (Below w.heap.size w ((w5.alloc (.cells #[.int .i64 0, .int .i64 0, .int .i64 0, .int .i64 0, .int .i64 0, .int .i64 0, .int .i64 0, .int .i64 0, .int .i64 0, .int .i64 0, .int .i64 0, .int .i64 0, .int .i64 0, .int .i64 0] 32)).setRow w5.heap.size (stL u).toArray).drew) := (HM5.out.trans (hnb.mono hl6)).drew
          obtain ⟨b, off, rfl, hbl, hrg⟩ := rangeL (hrow5.below hnb (Nat.le_refl _)) hNl HY.out
          clear hnb hu
          generalize ((w5.alloc (.cells #[.int .i64 0, .int .i64 0, .int .i64 0, .int .i64 0, .int .i64 0, .int .i64 0, .int .i64 0, .int .i64 0, .int .i64 0, .int .i64 0, .int .i64 0, .int .i64 0, .int .i64 0, .int .i64 0] 32)).setRow w5.heap.size (stL u).toArray) = w6 at *
          generalize w5.heap.size = U at *
          have q1 : w6.drew.rangeAt T 0 (stL y) := blk_range (cs := stL y) hCY6.drew
          have q2 : w6.drew.rangeAt b (off + N * 14) (stL y) := by rw [World.rangeAt_drew]; exact hrg
          have q3 : w6.drew.rangeAt U 0 (stL u) := blk_range (cs := stL u) hCU.drew
          clear hCU hCY6 hCY5 hrow5 hrg
          refine wp_region_held_drew (S := (fun w' => w'.rangeAt T 0 (stL y) ∧ w'.rangeAt b (off + N * 14) (stL y) ∧ w'.rangeAt U 0 (stL u))) (by kernel_rfl) ?_ (fun hHeld => ?_)
          · exact ⟨q1, q2, q3⟩
          refine tk0 0 rfl ?_; try simp only [lay]
          refine tk0 1 rfl ?_; try simp only [lay]
          refine tk0 2 rfl ?_; try simp only [lay]
          refine tk0 3 rfl ?_; try simp only [lay]
          refine tk0 4 rfl ?_; try simp only [lay]
          refine tk0 5 rfl ?_; try simp only [lay]
          refine tk0 6 rfl ?_; try simp only [lay]
          refine wpAnyH_take (i := 7) (v := .agg (stL y).toArray) rfl (by kernel_rfl) (by kernel_rfl) (by kernel_rfl) (fun _ _ _ h => h) (yieldsIf_load_mid (by rfl) _ _ rfl T (0) rfl (stL y) _ (fun w hw => hw.1) Try.underlying32 rfl (stL_info y)) (by assumption) ?_
          try simp only [lay]
          refine tk0 8 rfl ?_; try simp only [lay]
          refine tk0 9 rfl ?_; try simp only [lay]
          refine tk0 10 rfl ?_; try simp only [lay]
          refine wpAnyH_take (i := 11) (v := .agg (stL y).toArray) rfl (by kernel_rfl) (by kernel_rfl) (by kernel_rfl) (fun _ _ _ h => h) (yieldsIf_load_mid (by rfl) _ _ rfl b (off + N * 14) rfl (stL y) _ (fun w hw => hw.2.1) Try.underlying32 rfl (stL_info y)) (by assumption) ?_
          try simp only [lay]
          refine tk 12 (.bool true) rfl ⟨by rfl, fun w' _ => run_eql _ _ _ _ rfl (stL y).toArray (stL y).toArray rfl rfl guard_st true (HYY.out w')⟩ ?_
          try simp only [lay]
          refine tk0 13 rfl ?_; try simp only [lay]
          refine tk0 14 rfl ?_; try simp only [lay]
          refine tk0 15 rfl ?_; try simp only [lay]
          refine tk0 16 rfl ?_; try simp only [lay]
          refine tk0 17 rfl ?_; try simp only [lay]
          refine sk 18 rfl (by rfl) ?_; try simp only [lay]
          refine sk 19 rfl (by rfl) ?_; try simp only [lay]
          refine sk 20 rfl (by rfl) ?_; try simp only [lay]
          refine tk0 21 rfl ?_; try simp only [lay]
          refine tk0 22 rfl ?_; try simp only [lay]
          refine sk 23 rfl (by rfl) ?_; try simp only [lay]
          refine sk 24 rfl (by rfl) ?_; try simp only [lay]
          refine sk 25 rfl (by rfl) ?_; try simp only [lay]
          refine sk 26 rfl (by rfl) ?_; try simp only [lay]
          refine sk 27 rfl (by rfl) ?_; try simp only [lay]
          refine tk0 28 rfl ?_; try simp only [lay]
          refine tk0 29 rfl ?_; try simp only [lay]
          refine tk0 30 rfl ?_; try simp only [lay]
          refine wpAnyH_done (by kernel_rfl) ?_ _
          go_wp2
          go_ret
          exact ⟨rfl, HBF.out⟩
    · subst he
      have hB2 := hB1.below hm1.below hlg
      have hl2 := hB2.lt
      have f0 : w1.cell? ⟨w.heap.size, 0, none⟩ = _ := hB2.cell 0
      have f1 : w1.cell? ⟨w.heap.size, 1, none⟩ = _ := hB2.cell 1
      have f2 : w1.cell? ⟨w.heap.size, 2, none⟩ = _ := hB2.cell 2
      have f3 : w1.cell? ⟨w.heap.size, 3, none⟩ = _ := hB2.cell 3
      have f4 : w1.cell? ⟨w.heap.size, 4, none⟩ = _ := hB2.cell 4
      have HM : Hid (Below w.heap.size w w1) := below_then hmb hms hm1
      have hws := HM.out.size
      have HF := Lib.hid hF
      clear HP hF hz hB1 hm1 hmb hm hB2
      go_wp2_with fail
      refine (lead_any ⟨a0_0, a0_1, rate, buf, a0_4⟩ J hJ HR.out a1 _).mono ?_
      rintro e w2 ⟨hb2, hc2⟩
      have he : e = .returned (.tuple #[.slice none 0 0, .int .i64 4]) := by
        rcases hc2 with ⟨s', _, _, h1, _⟩ | ⟨s', h1, _⟩ | ⟨_, h⟩
        · rw [HF.out] at h1; cases h1
        · rw [HF.out] at h1; cases h1
        · exact h
      subst he
      have HB : Hid (Below w.heap.size w w2) := HM.out.trans (hb2.mono hws)
      clear hc2 hb2 f0 f1 f2 f3 f4
      go_wp2
      go_ret
      exact ⟨rfl, HB.out⟩
  · obtain ⟨er, HE, hcw⟩ := wrong_er a0_0 a0_1 a0_2 a0_3 a0_4 hK
    have HCW := Lib.hid hcw
    clear hcw hK
    have g1 : (er != 0) = true := by simpa using HE.out
    go_enter Try.func5, Try.ntmps5
    go_wp2_with (go_at_call 16; refine (steady_alive _).mono ?_; rintro e w' ⟨rfl, os0, d0, rfl⟩)
    go_wp2_with fail
    refine (states_w a0_0 a0_1 a0_2 a0_3 a0_4 er _ HE HCW.out).mono ?_
    rintro e w1 ⟨rfl, os1, d1, rfl⟩
    go_wp2_with fail
    refine (lead_w a0_0 a0_1 a0_2 a0_3 a0_4 er a1 _ HE HCW.out).mono ?_
    rintro e w1 ⟨rfl, os2, d2, rfl⟩
    go_wp2
    go_ret
    exact ⟨rfl, More.below (by repeat (first | (with_reducible assumption) | (with_reducible exact More.refl _) | (with_reducible refine More.alloc ?_ _) | (with_reducible refine More.more ?_ _ _) | (with_reducible refine More.drewN ?_ _) | (with_reducible refine More.drew ?_)))⟩
end Go.Proofs.Ytehlgomjgmabeaa
