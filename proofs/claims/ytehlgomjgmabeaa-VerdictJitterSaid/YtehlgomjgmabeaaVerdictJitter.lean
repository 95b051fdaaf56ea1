/- VerdictJitter: for every input the law returns true. Conditions: none. -/
import Derived.Test.YtehlgomjgmabeaaVdM
import Derived.Test.YtehlgomjgmabeaaIsFlat
set_option linter.unusedVariables false
set_option linter.unusedSimpArgs false
namespace Go.Proofs.Ytehlgomjgmabeaa
open Go.RowKit Go.Shelf Go.Tide
set_option linter.unusedVariables false
set_option linter.unusedSimpArgs false
theorem jitter_less {k0 k1 rate buf jit who ratio less kd1 mo1 er1 kd2 mo2 er2 : Int} (h1 : JFacts k0 k1 rate buf jit who ratio kd1 mo1 er1) (h2 : JFacts k0 k1 rate buf (IntKind.i64.wrap (jit - less)) who ratio kd2 mo2 er2) (h0 : er1 = 0) (hl : 0 ≤ less ∧ less ≤ 3) :
    (er2 != 0) = true ∨ ((er2 != 0) = false ∧ (kd2 != 2) = true) ∨ ((er2 != 0) = false ∧ (kd2 != 2) = false ∧ (kd1 == 2) = true) := by
  rcases h1 with ⟨_, ho, _, hk1⟩ | ⟨h, _⟩ | ⟨h, _⟩
  · rcases h2 with ⟨h, _, _, hk2⟩ | ⟨h, _⟩ | ⟨h, _⟩
    · rcases hk2 with ⟨hk2, _⟩ | ⟨hk2, hn⟩
      · exact .inr (.inl ⟨by simp [h], by simp [hk2]⟩)
      · rcases hk1 with ⟨hk1, hv⟩ | ⟨hk1, _⟩
        · obtain ⟨_, _, _, _, n5, n6⟩ := ho.1.2.2
          have hw : IntKind.i64.wrap (jit - less) = jit - less := IntWalk.i64_in _ (by omega)
          rw [hw] at hn
          exact absurd ⟨mo1, vb_jit (by omega) hv⟩ hn
        · exact .inr (.inr ⟨by simp [h], by simp [hk2], by simp [hk1]⟩)
    · exact .inl (by simp [h])
    · exact .inl (by rcases h with h | h <;> simp [h])
  · omega
  · omega
theorem jitter_more {k0 k1 rate buf jit who ratio more kd1 mo1 er1 kd2 mo2 er2 : Int} (h1 : JFacts k0 k1 rate buf jit who ratio kd1 mo1 er1) (h2 : JFacts k0 k1 rate buf jit who (IntKind.i64.wrap (ratio + more)) kd2 mo2 er2) (h0 : er1 = 0) (hl : 0 ≤ more ∧ more ≤ 100) :
    (er2 != 0) = true ∨ ((er2 != 0) = false ∧ (kd2 != 2) = true) ∨ ((er2 != 0) = false ∧ (kd2 != 2) = false ∧ (kd1 == 2) = true) := by
  rcases h1 with ⟨_, ho, _, hk1⟩ | ⟨h, _⟩ | ⟨h, _⟩
  · rcases h2 with ⟨h, _, _, hk2⟩ | ⟨h, _⟩ | ⟨h, _⟩
    · rcases hk2 with ⟨hk2, _⟩ | ⟨hk2, hn⟩
      · exact .inr (.inl ⟨by simp [h], by simp [hk2]⟩)
      · rcases hk1 with ⟨hk1, hv⟩ | ⟨hk1, _⟩
        · have hr := ho.2.2
          have hw : IntKind.i64.wrap (ratio + more) = ratio + more := IntWalk.i64_in _ (by omega)
          rw [hw] at hn
          have hR : (vR k0 k1 rate buf jit).ok := by
            obtain ⟨q0, q1, q2, q3, q4, q5, q6, q7⟩ := ho.1
            refine ⟨q0, q1, ?_⟩
            show dNums (rate.toNat : Int) (buf.toNat : Int) jit
            unfold dNums
            omega
          exact absurd ⟨mo1, vb_ratio hR hl.1 hv⟩ hn
        · exact .inr (.inr ⟨by simp [h], by simp [hk2], by simp [hk1]⟩)
    · exact .inl (by simp [h])
    · exact .inl (by rcases h with h | h <;> simp [h])
  · omega
  · omega
set_option maxRecDepth 20000 in
set_option maxHeartbeats 8000000 in
theorem verdictJitter_walk (a0_0 a0_1 a0_2 a0_3 a0_4 : Int) (a1 : Int) (a2 : Int) (a3 : Int) (a4 : Int) (w : World) (b0_0 : InI64 a0_0) (b0_1 : InI64 a0_1) (b0_2 : InI64 a0_2) (b0_3 : InI64 a0_3) (b0_4 : InI64 a0_4) (b1 : InI64 a1) (b2 : InI64 a2) (b3 : InI64 a3) (b4 : InI64 a4) :
    Calls Try.prog 7 #[.agg #[.int .i64 a0_0, .int .i64 a0_1, .int .i64 a0_2, .int .i64 a0_3, .int .i64 a0_4], .int .i64 a1, .int .i64 a2, .int .i64 a3, .int .i64 a4] w fun e w' => e = .returned (.bool true) ∧ Below w.heap.size w w' := by
  clear b0_0 b0_1 b0_2 b0_3 b0_4 b1 b2 b3 b4
  obtain ⟨jl, hjl⟩ : ∃ x, IntKind.i64.wrap (a0_4 - a3) = x := ⟨_, rfl⟩
  obtain ⟨rm, hrm⟩ : ∃ x, IntKind.i64.wrap (a2 + a4) = x := ⟨_, rfl⟩
  go_enter Try.func7, Try.ntmps7
  go_wp2_with (go_at_call 21; refine (verdict_alive _).mono ?_; rintro e w' ⟨rfl, os0, d0, rfl⟩)
  go_wp2_with fail
  have HM0 : Hid (Below w.heap.size w ((w.alloc (.cells #[.int .i64 a0_0, .int .i64 a0_1, .int .i64 a0_2, .int .i64 a0_3, .int .i64 a0_4] 24)).more os0 d0)) := More.below (by repeat (first | (with_reducible assumption) | (with_reducible exact More.refl _) | (with_reducible refine More.alloc ?_ _) | (with_reducible refine More.more ?_ _ _) | (with_reducible refine More.drewN ?_ _) | (with_reducible refine More.drew ?_)))
  have hB : Blk ((w.alloc (.cells #[.int .i64 a0_0, .int .i64 a0_1, .int .i64 a0_2, .int .i64 a0_3, .int .i64 a0_4] 24)).more os0 d0) w.heap.size 24 #[.int .i64 a0_0, .int .i64 a0_1, .int .i64 a0_2, .int .i64 a0_3, .int .i64 a0_4] := (by repeat (first | (with_reducible assumption) | ((with_reducible refine Blk.new' ?_); (simp [Nat.add_assoc]; done)) | (with_reducible refine Blk.alloc ?_ _) | (with_reducible refine Blk.more ?_ _ _) | (with_reducible refine Blk.drew ?_) | (with_reducible refine Blk.drewN ?_ _)))
  generalize ((w.alloc (.cells #[.int .i64 a0_0, .int .i64 a0_1, .int .i64 a0_2, .int .i64 a0_3, .int .i64 a0_4] 24)).more os0 d0) = w0 at *
  refine (judge_all a0_0 a0_1 a0_2 a0_3 a0_4 a1 a2 _).mono ?_
  rintro e wj1 ⟨hbj1, kd1, mo1, sa1, sn1, sc1, ta1, tn1, tc1, er1, rfl, HJ1⟩
  have HMj1 : Hid (Below w.heap.size w wj1) := HM0.out.trans (hbj1.mono HM0.out.size)
  replace hB := hB.below hbj1 hB.lt
  clear hbj1
  go_upto_region 4 with (refine wpList_store_row rfl _ _ _ rfl wj1.heap.size #[.int .i64 kd1, .int .i64 mo1, .slice sa1 sn1 sc1, .slice ta1 tn1 tc1] rfl rfl 60 #[.int .i64 0, .int .i64 0, .slice none 0 0, .slice none 0 0] (Blk.new wj1 _ _) (by kernel_rfl) rfl (by simp [Value.oneCell']) ?_)
  have hV1 : Blk ((wj1.alloc (.cells #[.int .i64 0, .int .i64 0, .slice none 0 0, .slice none 0 0] 60)).setRow wj1.heap.size #[.int .i64 kd1, .int .i64 mo1, .slice sa1 sn1 sc1, .slice ta1 tn1 tc1]) wj1.heap.size 60 #[.int .i64 kd1, .int .i64 mo1, .slice sa1 sn1 sc1, .slice ta1 tn1 tc1] := newRow
  have hn1 : Below wj1.heap.size wj1 ((wj1.alloc (.cells #[.int .i64 0, .int .i64 0, .slice none 0 0, .slice none 0 0] 60)).setRow wj1.heap.size #[.int .i64 kd1, .int .i64 mo1, .slice sa1 sn1 sc1, .slice ta1 tn1 tc1]) := newRow_below
  have HM1 : Hid (Below w.heap.size w ((wj1.alloc (.cells #[.int .i64 0, .int .i64 0, .slice none 0 0, .slice none 0 0] 60)).setRow wj1.heap.size #[.int .i64 kd1, .int .i64 mo1, .slice sa1 sn1 sc1, .slice ta1 tn1 tc1])) := HMj1.out.trans (hn1.mono HMj1.out.size)
  replace hB := hB.below hn1 hB.lt
  generalize ((wj1.alloc (.cells #[.int .i64 0, .int .i64 0, .slice none 0 0, .slice none 0 0] 60)).setRow wj1.heap.size #[.int .i64 kd1, .int .i64 mo1, .slice sa1 sn1 sc1, .slice ta1 tn1 tc1]) = w1 at *
  have hVs1 := HMj1.out.size
  clear hn1 HMj1
  generalize wj1.heap.size = V1 at *
  have lB1 := hB.lt
  have f0 : w1.cell? ⟨w.heap.size, 0, none⟩ = _ := hB.cell 0
  have f1 : w1.cell? ⟨w.heap.size, 1, none⟩ = _ := hB.cell 1
  have f2 : w1.cell? ⟨w.heap.size, 2, none⟩ = _ := hB.cell 2
  have f3 : w1.cell? ⟨w.heap.size, 3, none⟩ = _ := hB.cell 3
  have f4 : w1.cell? ⟨w.heap.size, 4, none⟩ = _ := hB.cell 4
  go_wp2_with fail
  have HMs : Hid (Below w.heap.size w (w1.alloc (.cells #[.int .i64 a0_0, .int .i64 a0_1, .int .i64 a0_2, .int .i64 a0_3, .int .i64 jl] 24))) := HM1.out.alloc HM1.out.size _
  replace hB := hB.alloc (.cells #[.int .i64 a0_0, .int .i64 a0_1, .int .i64 a0_2, .int .i64 a0_3, .int .i64 jl] 24)
  replace hV1 := hV1.alloc (.cells #[.int .i64 a0_0, .int .i64 a0_1, .int .i64 a0_2, .int .i64 a0_3, .int .i64 jl] 24)
  clear f0 f1 f2 f3 f4 lB1 HM1
  generalize (w1.alloc (.cells #[.int .i64 a0_0, .int .i64 a0_1, .int .i64 a0_2, .int .i64 a0_3, .int .i64 jl] 24)) = ws at *
  refine (judge_all a0_0 a0_1 a0_2 a0_3 jl a1 a2 _).mono ?_
  rintro e wj2 ⟨hbj2, kd2, mo2, sa2, sn2, sc2, ta2, tn2, tc2, er2, rfl, HJ2⟩
  have HMj2 : Hid (Below w.heap.size w wj2) := HMs.out.trans (hbj2.mono HMs.out.size)
  replace hB := hB.below hbj2 hB.lt
  replace hV1 := hV1.below hbj2 hV1.lt
  clear hbj2
  go_upto_region 7 with (refine wpList_store_row rfl _ _ _ rfl wj2.heap.size #[.int .i64 kd2, .int .i64 mo2, .slice sa2 sn2 sc2, .slice ta2 tn2 tc2] rfl rfl 60 #[.int .i64 0, .int .i64 0, .slice none 0 0, .slice none 0 0] (Blk.new wj2 _ _) (by kernel_rfl) rfl (by simp [Value.oneCell']) ?_)
  have hV2 : Blk ((wj2.alloc (.cells #[.int .i64 0, .int .i64 0, .slice none 0 0, .slice none 0 0] 60)).setRow wj2.heap.size #[.int .i64 kd2, .int .i64 mo2, .slice sa2 sn2 sc2, .slice ta2 tn2 tc2]) wj2.heap.size 60 #[.int .i64 kd2, .int .i64 mo2, .slice sa2 sn2 sc2, .slice ta2 tn2 tc2] := newRow
  have hn2 : Below wj2.heap.size wj2 ((wj2.alloc (.cells #[.int .i64 0, .int .i64 0, .slice none 0 0, .slice none 0 0] 60)).setRow wj2.heap.size #[.int .i64 kd2, .int .i64 mo2, .slice sa2 sn2 sc2, .slice ta2 tn2 tc2]) := newRow_below
  have HM2 : Hid (Below w.heap.size w ((wj2.alloc (.cells #[.int .i64 0, .int .i64 0, .slice none 0 0, .slice none 0 0] 60)).setRow wj2.heap.size #[.int .i64 kd2, .int .i64 mo2, .slice sa2 sn2 sc2, .slice ta2 tn2 tc2])) := HMj2.out.trans (hn2.mono HMj2.out.size)
  replace hB := hB.below hn2 hB.lt
  replace hV1 := hV1.below hn2 hV1.lt
  generalize ((wj2.alloc (.cells #[.int .i64 0, .int .i64 0, .slice none 0 0, .slice none 0 0] 60)).setRow wj2.heap.size #[.int .i64 kd2, .int .i64 mo2, .slice sa2 sn2 sc2, .slice ta2 tn2 tc2]) = w2 at *
  have hVs2 := HMj2.out.size
  clear hn2 HMj2
  generalize wj2.heap.size = V2 at *
  have lB2 := hB.lt
  have f0 : w2.cell? ⟨w.heap.size, 0, none⟩ = _ := hB.cell 0
  have f1 : w2.cell? ⟨w.heap.size, 1, none⟩ = _ := hB.cell 1
  have f2 : w2.cell? ⟨w.heap.size, 2, none⟩ = _ := hB.cell 2
  have f3 : w2.cell? ⟨w.heap.size, 3, none⟩ = _ := hB.cell 3
  have f4 : w2.cell? ⟨w.heap.size, 4, none⟩ = _ := hB.cell 4
  go_wp2_with fail
  clear f0 f1 f2 f3 f4 lB2
  refine (judge_all a0_0 a0_1 a0_2 a0_3 a0_4 a1 rm _).mono ?_
  rintro e wj3 ⟨hbj3, kd3, mo3, sa3, sn3, sc3, ta3, tn3, tc3, er3, rfl, HJ3⟩
  have HMj3 : Hid (Below w.heap.size w wj3) := HM2.out.trans (hbj3.mono HM2.out.size)
  replace hB := hB.below hbj3 hB.lt
  replace hV1 := hV1.below hbj3 hV1.lt
  replace hV2 := hV2.below hbj3 hV2.lt
  clear hbj3
  go_upto_region 8 with (refine wpList_store_row rfl _ _ _ rfl wj3.heap.size #[.int .i64 kd3, .int .i64 mo3, .slice sa3 sn3 sc3, .slice ta3 tn3 tc3] rfl rfl 60 #[.int .i64 0, .int .i64 0, .slice none 0 0, .slice none 0 0] (Blk.new wj3 _ _) (by kernel_rfl) rfl (by simp [Value.oneCell']) ?_)
  have hV3 : Blk ((wj3.alloc (.cells #[.int .i64 0, .int .i64 0, .slice none 0 0, .slice none 0 0] 60)).setRow wj3.heap.size #[.int .i64 kd3, .int .i64 mo3, .slice sa3 sn3 sc3, .slice ta3 tn3 tc3]) wj3.heap.size 60 #[.int .i64 kd3, .int .i64 mo3, .slice sa3 sn3 sc3, .slice ta3 tn3 tc3] := newRow
  have hn3 : Below wj3.heap.size wj3 ((wj3.alloc (.cells #[.int .i64 0, .int .i64 0, .slice none 0 0, .slice none 0 0] 60)).setRow wj3.heap.size #[.int .i64 kd3, .int .i64 mo3, .slice sa3 sn3 sc3, .slice ta3 tn3 tc3]) := newRow_below
  have HM3 : Hid (Below w.heap.size w ((wj3.alloc (.cells #[.int .i64 0, .int .i64 0, .slice none 0 0, .slice none 0 0] 60)).setRow wj3.heap.size #[.int .i64 kd3, .int .i64 mo3, .slice sa3 sn3 sc3, .slice ta3 tn3 tc3])) := HMj3.out.trans (hn3.mono HMj3.out.size)
  replace hB := hB.below hn3 hB.lt
  replace hV1 := hV1.below hn3 hV1.lt
  replace hV2 := hV2.below hn3 hV2.lt
  generalize ((wj3.alloc (.cells #[.int .i64 0, .int .i64 0, .slice none 0 0, .slice none 0 0] 60)).setRow wj3.heap.size #[.int .i64 kd3, .int .i64 mo3, .slice sa3 sn3 sc3, .slice ta3 tn3 tc3]) = w3 at *
  have hVs3 := HMj3.out.size
  clear hn3 HMj3
  generalize wj3.heap.size = V3 at *
  have x0 : w3.cell? ⟨V1, 0, none⟩ = some (.int .i64 kd1) := hV1.cell 0
  have y0 : w3.cell? ⟨V2, 0, none⟩ = some (.int .i64 kd2) := hV2.cell 0
  have z0 : w3.cell? ⟨V3, 0, none⟩ = some (.int .i64 kd3) := hV3.cell 0
  clear hV1 hV2 hV3 hB
  by_cases h0 : er1 = 0
  · subst h0
    by_cases c0 : a3 < 0
    · have d0 : decide (a3 < 0) = true := by simpa using c0
      go_wp2
      go_ret
      exact ⟨rfl, HM3.out⟩
    have d0 : decide (a3 < 0) = false := by simpa using c0
    by_cases c1 : a4 < 0
    · have d1 : decide (a4 < 0) = true := by simpa using c1
      go_wp2
      go_ret
      exact ⟨rfl, HM3.out⟩
    have d1 : decide (a4 < 0) = false := by simpa using c1
    by_cases c2 : 3 < a3
    · have d2 : decide (3 < a3) = true := by simpa using c2
      go_wp2
      go_ret
      exact ⟨rfl, HM3.out⟩
    have d2 : decide (3 < a3) = false := by simpa using c2
    by_cases c3 : 100 < a4
    · have d3 : decide (100 < a4) = true := by simpa using c3
      go_wp2
      go_ret
      exact ⟨rfl, HM3.out⟩
    have d3 : decide (100 < a4) = false := by simpa using c3
    have F1 : Hid _ := jitter_less HJ1.out (by rw [hjl]; exact HJ2.out) rfl ⟨by omega, by omega⟩
    have F2 : Hid _ := jitter_more HJ1.out (by rw [hrm]; exact HJ3.out) rfl ⟨by omega, by omega⟩
    clear c0 c1 c2 c3
    rcases F1.out with g1 | ⟨g1, g2⟩ | ⟨g1, g2, g3⟩ <;> rcases F2.out with q1 | ⟨q1, q2⟩ | ⟨q1, q2, q3⟩
    all_goals
      go_wp2
      go_ret
      exact ⟨rfl, HM3.out⟩
  · have g0 : (er1 != 0) = true := by simpa using h0
    go_wp2
    go_ret
    exact ⟨rfl, HM3.out⟩
end Go.Proofs.Ytehlgomjgmabeaa
