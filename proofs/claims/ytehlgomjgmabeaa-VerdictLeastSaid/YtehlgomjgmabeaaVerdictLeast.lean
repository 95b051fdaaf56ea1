/- VerdictLeast: for every input the law returns true. Conditions: none. -/
import Derived.Test.YtehlgomjgmabeaaVdThr
import Derived.Test.YtehlgomjgmabeaaIsFlat
set_option linter.unusedVariables false
set_option linter.unusedSimpArgs false
namespace Go.Proofs.Ytehlgomjgmabeaa
open Go.RowKit Go.Shelf Go.Tide
set_option linter.unusedVariables false
set_option linter.unusedSimpArgs false
theorem least_ok {k0 k1 rate buf jit who ratio n j kd mo er : Int} (h1 : TFacts k0 k1 rate buf jit who ratio n 0) (h2 : JFacts k0 k1 rate buf j who ratio kd mo er) (hj : 0 ≤ j ∧ j ≤ jit) :
    (er = 4 ∧ n < j) ∨ (er = 0 ∧ kd = 2 ∧ n ≤ j) ∨ (er = 0 ∧ kd = 1 ∧ j < n) := by
  rcases h1 with ⟨h, _⟩ | ⟨_, ho, n0, n1, hb, hf, hs⟩ | ⟨h, _⟩
  · exact absurd rfl h
  · have ho' : VdOk k0 k1 rate buf j who ratio := by
      obtain ⟨⟨q0, q1, q2, q3, q4, q5, q6, q7⟩, ho2⟩ := ho
      exact ⟨⟨q0, q1, q2, q3, q4, q5, by omega, by omega⟩, ho2⟩
    rcases h2 with ⟨he, _, hf2, hk⟩ | ⟨he, _, hf2⟩ | ⟨_, hno⟩
    · rcases hk with ⟨hk, hv⟩ | ⟨hk, hv⟩
      · refine .inr (.inr ⟨he, hk, ?_⟩)
        rcases Int.lt_or_le j n with h | h
        · exact h
        · exact absurd ⟨mo, vb_jit h hv⟩ hs
      · refine .inr (.inl ⟨he, hk, ?_⟩)
        rcases Int.lt_or_le j n with h | h
        · exact absurd (hb j hj.1 h).2 hv
        · exact h
    · refine .inl ⟨he, ?_⟩
      rcases Int.lt_trichotomy j n with h | h | h
      · exact absurd hf2 (hb j hj.1 h).1
      · subst h; exact absurd hf2 hf
      · exact h
    · exact absurd ho' hno
  · omega
theorem least_none {k0 k1 rate buf jit who ratio n j kd mo er : Int} (h1 : TFacts k0 k1 rate buf jit who ratio n 3) (h2 : JFacts k0 k1 rate buf j who ratio kd mo er) (hj : 0 ≤ j ∧ j ≤ jit) : er = 0 ∧ kd = 1 := by
  rcases h1 with ⟨_, h⟩ | ⟨h, _⟩ | ⟨_, ho, hb⟩
  · exact absurd rfl h
  · omega
  · have ho' : VdOk k0 k1 rate buf j who ratio := by
      obtain ⟨⟨q0, q1, q2, q3, q4, q5, q6, q7⟩, ho2⟩ := ho
      exact ⟨⟨q0, q1, q2, q3, q4, q5, by omega, by omega⟩, ho2⟩
    obtain ⟨b1, b2⟩ := hb j hj.1 hj.2
    rcases h2 with ⟨he, _, _, hk⟩ | ⟨_, _, hf2⟩ | ⟨_, hno⟩
    · rcases hk with ⟨hk, _⟩ | ⟨_, hv⟩
      · exact ⟨he, hk⟩
      · exact absurd b2 hv
    · exact absurd hf2 b1
    · exact absurd ho' hno
set_option maxRecDepth 20000 in
set_option maxHeartbeats 8000000 in
theorem verdictLeast_walk (a0_0 a0_1 a0_2 a0_3 a0_4 : Int) (a1 : Int) (a2 : Int) (a3 : Int) (w : World) (b0_0 : InI64 a0_0) (b0_1 : InI64 a0_1) (b0_2 : InI64 a0_2) (b0_3 : InI64 a0_3) (b0_4 : InI64 a0_4) (b1 : InI64 a1) (b2 : InI64 a2) (b3 : InI64 a3) :
    Calls Try.prog 9 #[.agg #[.int .i64 a0_0, .int .i64 a0_1, .int .i64 a0_2, .int .i64 a0_3, .int .i64 a0_4], .int .i64 a1, .int .i64 a2, .int .i64 a3] w fun e w' => e = .returned (.bool true) ∧ Below w.heap.size w w' := by
  clear b0_0 b0_1 b0_2 b0_3 b0_4 b1 b2 b3
  go_enter Try.func9, Try.ntmps9
  go_wp2_with (go_at_call 21; refine (verdict_alive _).mono ?_; rintro e w' ⟨rfl, os0, d0, rfl⟩)
  go_wp2_with fail
  have HM0 : Hid (Below w.heap.size w ((w.alloc (.cells #[.int .i64 a0_0, .int .i64 a0_1, .int .i64 a0_2, .int .i64 a0_3, .int .i64 a0_4] 24)).more os0 d0)) := More.below (by repeat (first | (with_reducible assumption) | (with_reducible exact More.refl _) | (with_reducible refine More.alloc ?_ _) | (with_reducible refine More.more ?_ _ _) | (with_reducible refine More.drewN ?_ _) | (with_reducible refine More.drew ?_)))
  have hB : Blk ((w.alloc (.cells #[.int .i64 a0_0, .int .i64 a0_1, .int .i64 a0_2, .int .i64 a0_3, .int .i64 a0_4] 24)).more os0 d0) w.heap.size 24 #[.int .i64 a0_0, .int .i64 a0_1, .int .i64 a0_2, .int .i64 a0_3, .int .i64 a0_4] := (by repeat (first | (with_reducible assumption) | ((with_reducible refine Blk.new' ?_); (simp [Nat.add_assoc]; done)) | (with_reducible refine Blk.alloc ?_ _) | (with_reducible refine Blk.more ?_ _ _) | (with_reducible refine Blk.drew ?_) | (with_reducible refine Blk.drewN ?_ _)))
  generalize ((w.alloc (.cells #[.int .i64 a0_0, .int .i64 a0_1, .int .i64 a0_2, .int .i64 a0_3, .int .i64 a0_4] 24)).more os0 d0) = w0 at *
  refine (threshold_all a0_0 a0_1 a0_2 a0_3 a0_4 a1 a2 _).mono ?_
  rintro e w1 ⟨hb1, n, er, rfl, HT⟩
  have HM1 : Hid (Below w.heap.size w w1) := HM0.out.trans (hb1.mono HM0.out.size)
  replace hB := hB.below hb1 hB.lt
  clear hb1 HM0
  have lB1 := hB.lt
  have f0 : w1.cell? ⟨w.heap.size, 0, none⟩ = _ := hB.cell 0
  have f1 : w1.cell? ⟨w.heap.size, 1, none⟩ = _ := hB.cell 1
  have f2 : w1.cell? ⟨w.heap.size, 2, none⟩ = _ := hB.cell 2
  have f3 : w1.cell? ⟨w.heap.size, 3, none⟩ = _ := hB.cell 3
  have f4 : w1.cell? ⟨w.heap.size, 4, none⟩ = _ := hB.cell 4
  by_cases c0 : a3 < 0
  · have d0 : decide (a3 < 0) = true := by simpa using c0
    go_wp2
    go_ret
    exact ⟨rfl, HM1.out⟩
  have d0 : decide (a3 < 0) = false := by simpa using c0
  by_cases c1 : a0_4 < a3
  · have d1 : decide (a0_4 < a3) = true := by simpa using c1
    go_wp2
    go_ret
    exact ⟨rfl, HM1.out⟩
  have d1 : decide (a0_4 < a3) = false := by simpa using c1
  by_cases hq : er = 0 ∨ er = 3
  case neg =>
    have g0 : (er != 0) = true := by simp; omega
    have g1 : (er != 3) = true := by simp; omega
    clear hq c0 c1
    go_wp2
    go_ret
    exact ⟨rfl, HM1.out⟩
  have hj : 0 ≤ a3 ∧ a3 ≤ a0_4 := ⟨by omega, by omega⟩
  have Hj := Lib.hid hj
  clear c0 c1 hj
  rcases hq with rfl | rfl
  · go_wp2_with fail
    have HMc : Hid (Below w.heap.size w (w1.alloc (.cells #[.int .i64 a0_0, .int .i64 a0_1, .int .i64 a0_2, .int .i64 a0_3, .int .i64 a3] 24))) := HM1.out.alloc HM1.out.size _
    clear f0 f1 f2 f3 f4 lB1 HM1 hB
    generalize (w1.alloc (.cells #[.int .i64 a0_0, .int .i64 a0_1, .int .i64 a0_2, .int .i64 a0_3, .int .i64 a3] 24)) = wc at *
    refine (judge_all a0_0 a0_1 a0_2 a0_3 a3 a1 a2 _).mono ?_
    rintro e wj2 ⟨hbj2, kd2, mo2, sa2, sn2, sc2, ta2, tn2, tc2, er2, rfl, HJ2⟩
    have HMj2 : Hid (Below w.heap.size w wj2) := HMc.out.trans (hbj2.mono HMc.out.size)
    clear hbj2
    go_upto_region 9 with (refine wpList_store_row rfl _ _ _ rfl wj2.heap.size #[.int .i64 kd2, .int .i64 mo2, .slice sa2 sn2 sc2, .slice ta2 tn2 tc2] rfl rfl 60 #[.int .i64 0, .int .i64 0, .slice none 0 0, .slice none 0 0] (Blk.new wj2 _ _) (by kernel_rfl) rfl (by simp [Value.oneCell']) ?_)
    have hV2 : Blk ((wj2.alloc (.cells #[.int .i64 0, .int .i64 0, .slice none 0 0, .slice none 0 0] 60)).setRow wj2.heap.size #[.int .i64 kd2, .int .i64 mo2, .slice sa2 sn2 sc2, .slice ta2 tn2 tc2]) wj2.heap.size 60 #[.int .i64 kd2, .int .i64 mo2, .slice sa2 sn2 sc2, .slice ta2 tn2 tc2] := newRow
    have hn2 : Below wj2.heap.size wj2 ((wj2.alloc (.cells #[.int .i64 0, .int .i64 0, .slice none 0 0, .slice none 0 0] 60)).setRow wj2.heap.size #[.int .i64 kd2, .int .i64 mo2, .slice sa2 sn2 sc2, .slice ta2 tn2 tc2]) := newRow_below
    have HM2 : Hid (Below w.heap.size w ((wj2.alloc (.cells #[.int .i64 0, .int .i64 0, .slice none 0 0, .slice none 0 0] 60)).setRow wj2.heap.size #[.int .i64 kd2, .int .i64 mo2, .slice sa2 sn2 sc2, .slice ta2 tn2 tc2])) := HMj2.out.trans (hn2.mono HMj2.out.size)
    generalize ((wj2.alloc (.cells #[.int .i64 0, .int .i64 0, .slice none 0 0, .slice none 0 0] 60)).setRow wj2.heap.size #[.int .i64 kd2, .int .i64 mo2, .slice sa2 sn2 sc2, .slice ta2 tn2 tc2]) = w2 at *
    have hVs2 := HMj2.out.size
    clear hn2 HMj2
    generalize wj2.heap.size = V2 at *
    have x0 : w2.cell? ⟨V2, 0, none⟩ = some (.int .i64 kd2) := hV2.cell 0
    clear hV2
    rcases least_ok HT.out HJ2.out Hj.out with ⟨rfl, h⟩ | ⟨rfl, rfl, h⟩ | ⟨rfl, rfl, h⟩
    · have t1 : decide (n < a3) = true := by simpa using h
      go_wp2
      go_ret
      exact ⟨rfl, HM2.out⟩
    · have t1 : decide (n ≤ a3) = true := by simpa using h
      go_wp2
      go_ret
      exact ⟨rfl, HM2.out⟩
    · have t1 : decide (n ≤ a3) = false := by simpa using h
      go_wp2
      go_ret
      exact ⟨rfl, HM2.out⟩
  · go_wp2_with fail
    have HMc : Hid (Below w.heap.size w (w1.alloc (.cells #[.int .i64 a0_0, .int .i64 a0_1, .int .i64 a0_2, .int .i64 a0_3, .int .i64 a3] 24))) := HM1.out.alloc HM1.out.size _
    clear f0 f1 f2 f3 f4 lB1 HM1 hB
    generalize (w1.alloc (.cells #[.int .i64 a0_0, .int .i64 a0_1, .int .i64 a0_2, .int .i64 a0_3, .int .i64 a3] 24)) = wc at *
    refine (judge_all a0_0 a0_1 a0_2 a0_3 a3 a1 a2 _).mono ?_
    rintro e wj2 ⟨hbj2, kd2, mo2, sa2, sn2, sc2, ta2, tn2, tc2, er2, rfl, HJ2⟩
    have HMj2 : Hid (Below w.heap.size w wj2) := HMc.out.trans (hbj2.mono HMc.out.size)
    clear hbj2
    go_upto_region 9 with (refine wpList_store_row rfl _ _ _ rfl wj2.heap.size #[.int .i64 kd2, .int .i64 mo2, .slice sa2 sn2 sc2, .slice ta2 tn2 tc2] rfl rfl 60 #[.int .i64 0, .int .i64 0, .slice none 0 0, .slice none 0 0] (Blk.new wj2 _ _) (by kernel_rfl) rfl (by simp [Value.oneCell']) ?_)
    have hV2 : Blk ((wj2.alloc (.cells #[.int .i64 0, .int .i64 0, .slice none 0 0, .slice none 0 0] 60)).setRow wj2.heap.size #[.int .i64 kd2, .int .i64 mo2, .slice sa2 sn2 sc2, .slice ta2 tn2 tc2]) wj2.heap.size 60 #[.int .i64 kd2, .int .i64 mo2, .slice sa2 sn2 sc2, .slice ta2 tn2 tc2] := newRow
    have hn2 : Below wj2.heap.size wj2 ((wj2.alloc (.cells #[.int .i64 0, .int .i64 0, .slice none 0 0, .slice none 0 0] 60)).setRow wj2.heap.size #[.int .i64 kd2, .int .i64 mo2, .slice sa2 sn2 sc2, .slice ta2 tn2 tc2]) := newRow_below
    have HM2 : Hid (Below w.heap.size w ((wj2.alloc (.cells #[.int .i64 0, .int .i64 0, .slice none 0 0, .slice none 0 0] 60)).setRow wj2.heap.size #[.int .i64 kd2, .int .i64 mo2, .slice sa2 sn2 sc2, .slice ta2 tn2 tc2])) := HMj2.out.trans (hn2.mono HMj2.out.size)
    generalize ((wj2.alloc (.cells #[.int .i64 0, .int .i64 0, .slice none 0 0, .slice none 0 0] 60)).setRow wj2.heap.size #[.int .i64 kd2, .int .i64 mo2, .slice sa2 sn2 sc2, .slice ta2 tn2 tc2]) = w2 at *
    have hVs2 := HMj2.out.size
    clear hn2 HMj2
    generalize wj2.heap.size = V2 at *
    have x0 : w2.cell? ⟨V2, 0, none⟩ = some (.int .i64 kd2) := hV2.cell 0
    clear hV2
    obtain ⟨rfl, rfl⟩ := least_none HT.out HJ2.out Hj.out
    go_wp2
    go_ret
    exact ⟨rfl, HM2.out⟩
end Go.Proofs.Ytehlgomjgmabeaa
