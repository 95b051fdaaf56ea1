/- verdict.Threshold. Conditions: none. -/
import Derived.Test.YtehlgomjgmabeaaVdM
set_option linter.unusedVariables false
set_option linter.unusedSimpArgs false
namespace Go.Proofs.Ytehlgomjgmabeaa
open Go.RowKit Go.Shelf Go.Tide
set_option linter.unusedVariables false
set_option linter.unusedSimpArgs false
/-- What Threshold's answer says. -/
def TFacts (k0 k1 rate buf jit who ratio n er : Int) : Prop :=
  (er ≠ 0 ∧ er ≠ 3) ∨ (er = 0 ∧ VdOk k0 k1 rate buf jit who ratio ∧ 0 ≤ n ∧ n ≤ jit ∧ (∀ j, 0 ≤ j → j < n → vFin k0 k1 rate buf j ≠ none ∧ vBd k0 k1 rate buf j who ratio) ∧ vFin k0 k1 rate buf n ≠ none ∧ ¬ vBd k0 k1 rate buf n who ratio) ∨
    (er = 3 ∧ VdOk k0 k1 rate buf jit who ratio ∧ ∀ j, 0 ≤ j → j ≤ jit → vFin k0 k1 rate buf j ≠ none ∧ vBd k0 k1 rate buf j who ratio)
set_option maxRecDepth 20000 in
set_option maxHeartbeats 8000000 in
theorem threshold_all (k0 k1 rate buf jit who ratio : Int) (w : World) :
    Calls Try.prog 24 #[.agg #[.int .i64 k0, .int .i64 k1, .int .i64 rate, .int .i64 buf, .int .i64 jit], .int .i64 who, .int .i64 ratio] w fun e w' => Below w.heap.size w w' ∧ ∃ n er : Int, e = .returned (.tuple #[.int .i64 n, .int .i64 er]) ∧ Hid (TFacts k0 k1 rate buf jit who ratio n er) := by
  go_enter Try.func24, Try.ntmps24
  go_wp2_with fail
  have HM0 : Hid (Below w.heap.size w (w.alloc (.cells #[.int .i64 k0, .int .i64 k1, .int .i64 rate, .int .i64 buf, .int .i64 jit] 24))) := More.below (by repeat (first | (with_reducible assumption) | (with_reducible exact More.refl _) | (with_reducible refine More.alloc ?_ _) | (with_reducible refine More.more ?_ _ _) | (with_reducible refine More.drewN ?_ _) | (with_reducible refine More.drew ?_)))
  have hB : Blk (w.alloc (.cells #[.int .i64 k0, .int .i64 k1, .int .i64 rate, .int .i64 buf, .int .i64 jit] 24)) w.heap.size 24 #[.int .i64 k0, .int .i64 k1, .int .i64 rate, .int .i64 buf, .int .i64 jit] := (by repeat (first | (with_reducible assumption) | ((with_reducible refine Blk.new' ?_); (simp [Nat.add_assoc]; done)) | (with_reducible refine Blk.alloc ?_ _) | (with_reducible refine Blk.more ?_ _ _) | (with_reducible refine Blk.drew ?_) | (with_reducible refine Blk.drewN ?_ _)))
  generalize (w.alloc (.cells #[.int .i64 k0, .int .i64 k1, .int .i64 rate, .int .i64 buf, .int .i64 jit] 24)) = w0 at *
  refine (judge_all k0 k1 rate buf jit who ratio _).mono ?_
  rintro e wj1 ⟨hbj1, kd1, mo1, sa1, sn1, sc1, ta1, tn1, tc1, er1, rfl, HJ1⟩
  have HMj1 : Hid (Below w.heap.size w wj1) := HM0.out.trans (hbj1.mono HM0.out.size)
  replace hB := hB.below hbj1 hB.lt
  clear hbj1
  go_upto_region 2 with (refine wpList_store_row rfl _ _ _ rfl wj1.heap.size #[.int .i64 kd1, .int .i64 mo1, .slice sa1 sn1 sc1, .slice ta1 tn1 tc1] rfl rfl 60 #[.int .i64 0, .int .i64 0, .slice none 0 0, .slice none 0 0] (Blk.new wj1 _ _) (by kernel_rfl) rfl (by simp [Value.oneCell']) ?_)
  have hV1 : Blk ((wj1.alloc (.cells #[.int .i64 0, .int .i64 0, .slice none 0 0, .slice none 0 0] 60)).setRow wj1.heap.size #[.int .i64 kd1, .int .i64 mo1, .slice sa1 sn1 sc1, .slice ta1 tn1 tc1]) wj1.heap.size 60 #[.int .i64 kd1, .int .i64 mo1, .slice sa1 sn1 sc1, .slice ta1 tn1 tc1] := newRow
  have hn1 : Below wj1.heap.size wj1 ((wj1.alloc (.cells #[.int .i64 0, .int .i64 0, .slice none 0 0, .slice none 0 0] 60)).setRow wj1.heap.size #[.int .i64 kd1, .int .i64 mo1, .slice sa1 sn1 sc1, .slice ta1 tn1 tc1]) := newRow_below
  have HM1 : Hid (Below w.heap.size w ((wj1.alloc (.cells #[.int .i64 0, .int .i64 0, .slice none 0 0, .slice none 0 0] 60)).setRow wj1.heap.size #[.int .i64 kd1, .int .i64 mo1, .slice sa1 sn1 sc1, .slice ta1 tn1 tc1])) := HMj1.out.trans (hn1.mono HMj1.out.size)
  replace hB := hB.below hn1 hB.lt
  generalize ((wj1.alloc (.cells #[.int .i64 0, .int .i64 0, .slice none 0 0, .slice none 0 0] 60)).setRow wj1.heap.size #[.int .i64 kd1, .int .i64 mo1, .slice sa1 sn1 sc1, .slice ta1 tn1 tc1]) = w1 at *
  have hVs1 := HMj1.out.size
  clear hn1 HMj1
  generalize wj1.heap.size = V1 at *
  have lB1 := hB.lt
  have f0 : w1.cell? ⟨w.heap.size, 0, none⟩ = _ := hB.cell 0
  have f1 : w1.cell? ⟨w.heap.size, 1, none⟩ = _ := hB.cell 1
  have f2 : w1.cell? ⟨w.heap.size, 2, none⟩ = _ := hB.cell 2
  have f3 : w1.cell? ⟨w.heap.size, 3, none⟩ = _ := hB.cell 3
  have f4 : w1.cell? ⟨w.heap.size, 4, none⟩ = _ := hB.cell 4
  by_cases hq : er1 = 0 ∨ er1 = 4
  case neg =>
    have g0 : (er1 != 0) = true := by simp; omega
    have g1 : (er1 != 4) = true := by simp; omega
    have HT : Hid (TFacts k0 k1 rate buf jit who ratio 0 er1) := by
      rcases HJ1.out with ⟨h, _⟩ | ⟨h, _⟩ | ⟨h, _⟩
      · omega
      · omega
      · exact .inl ⟨by omega, by omega⟩
    clear hq
    go_wp2
    go_ret2
    exact ⟨HM1.out, 0, er1, rfl, HT⟩
  have HOK : Hid (VdOk k0 k1 rate buf jit who ratio) := by
    rcases HJ1.out with ⟨_, h, _⟩ | ⟨_, h, _⟩ | ⟨h, _⟩
    · exact h
    · exact h
    · omega
  obtain ⟨_, _, _, _, j0, j3⟩ := HOK.out.1.2.2
  have wj : IntKind.i64.wrap (jit + 1) = jit + 1 := IntWalk.i64_in _ (by omega)
  have g0 : (er1 != 0) = true ∧ (er1 != 4) = false ∨ (er1 != 0) = false := by
    rcases hq with h | h <;> simp [h]
  have HG := Lib.hid g0
  clear g0 hq hV1 HJ1
  have HR0 : Hid (∀ P : Prop, ((er1 != 0) = true → (er1 != 4) = false → P) → ((er1 != 0) = false → P) → P) := fun P h1 h2 => by
    rcases HG.out with ⟨a, b⟩ | a
    · exact h1 a b
    · exact h2 a
  clear HG
  rcases (HR0.out ((er1 != 0) = true ∧ (er1 != 4) = false ∨ (er1 != 0) = false) (fun a b => .inl ⟨a, b⟩) .inr) with ⟨g0, g1⟩ | g0
  all_goals
    clear HR0
    go_wp2_with fail
    clear f0 f1 f2 f3 f4
    go_loopw [31] (fun q wr => ∃ k : Nat, q = .int .i64 k ∧ (k : Int) ≤ jit + 1 ∧ Hid (∀ j, 0 ≤ j → j < (k : Int) → vFin k0 k1 rate buf j ≠ none ∧ vBd k0 k1 rate buf j who ratio) ∧ Below w1.heap.size w1 wr) (fun q _ => (jit + 1).toNat - (intOf q).toNat)
    case atStart => exact ⟨0, rfl, by omega, fun j h0 h1 => by omega, Below.refl _ _⟩
    case round =>
      obtain ⟨k, rfl, hk, hall, hbw⟩ := hrel
      have hszw := hbw.size
      by_cases hlt : (k : Int) < jit + 1
      · have hBw := hB.below hbw lB1
        have lBw := hBw.lt
        have hk0 : (0 : Int) ≤ (k : Int) := by omega
        have HMw : Hid (Below w.heap.size w wr) := HM1.out.trans (hbw.mono HM1.out.size)
        have f0 : wr.cell? ⟨w.heap.size, 0, none⟩ = _ := hBw.cell 0
        have f1 : wr.cell? ⟨w.heap.size, 1, none⟩ = _ := hBw.cell 1
        have f2 : wr.cell? ⟨w.heap.size, 2, none⟩ = _ := hBw.cell 2
        have f3 : wr.cell? ⟨w.heap.size, 3, none⟩ = _ := hBw.cell 3
        have f4 : wr.cell? ⟨w.heap.size, 4, none⟩ = _ := hBw.cell 4
        go_wp2_with fail
        have HMc : Hid (Below w.heap.size w (wr.alloc (.cells #[.int .i64 k0, .int .i64 k1, .int .i64 rate, .int .i64 buf, .int .i64 (k : Nat)] 24))) := HMw.out.alloc HMw.out.size _
        have hbc : Below w1.heap.size w1 (wr.alloc (.cells #[.int .i64 k0, .int .i64 k1, .int .i64 rate, .int .i64 buf, .int .i64 (k : Nat)] 24)) := hbw.alloc hszw _
        clear f0 f1 f2 f3 f4 lBw hBw
        generalize (wr.alloc (.cells #[.int .i64 k0, .int .i64 k1, .int .i64 rate, .int .i64 buf, .int .i64 (k : Nat)] 24)) = wc at *
        have hbcs := hbc.size
        refine (judge_all k0 k1 rate buf (k : Nat) who ratio _).mono ?_
        rintro e wj2 ⟨hbj, kd, mo, sa, sn, sc, ta, tn, tc, er, rfl, HJ⟩
        have HMj : Hid (Below w.heap.size w wj2) := HMc.out.trans (hbj.mono HMc.out.size)
        have hbj1 : Below w1.heap.size w1 wj2 := hbc.trans (hbj.mono hbcs)
        clear hbj hbc
        go_upto_region 10 with (refine wpList_store_row rfl _ _ _ rfl wj2.heap.size #[.int .i64 kd, .int .i64 mo, .slice sa sn sc, .slice ta tn tc] rfl rfl 60 #[.int .i64 0, .int .i64 0, .slice none 0 0, .slice none 0 0] (Blk.new wj2 _ _) (by kernel_rfl) rfl (by simp [Value.oneCell']) ?_)
        have hV : Blk ((wj2.alloc (.cells #[.int .i64 0, .int .i64 0, .slice none 0 0, .slice none 0 0] 60)).setRow wj2.heap.size #[.int .i64 kd, .int .i64 mo, .slice sa sn sc, .slice ta tn tc]) wj2.heap.size 60 #[.int .i64 kd, .int .i64 mo, .slice sa sn sc, .slice ta tn tc] := newRow
        have hn : Below wj2.heap.size wj2 ((wj2.alloc (.cells #[.int .i64 0, .int .i64 0, .slice none 0 0, .slice none 0 0] 60)).setRow wj2.heap.size #[.int .i64 kd, .int .i64 mo, .slice sa sn sc, .slice ta tn tc]) := newRow_below
        generalize ((wj2.alloc (.cells #[.int .i64 0, .int .i64 0, .slice none 0 0, .slice none 0 0] 60)).setRow wj2.heap.size #[.int .i64 kd, .int .i64 mo, .slice sa sn sc, .slice ta tn tc]) = w9 at *
        have HM9 : Hid (Below w.heap.size w w9) := HMj.out.trans (hn.mono HMj.out.size)
        have hb9 : Below w1.heap.size w1 w9 := hbj1.trans (hn.mono hbj1.size)
        clear hn hbj1
        generalize wj2.heap.size = V at *
        have x0 : w9.cell? ⟨V, 0, none⟩ = some (.int .i64 kd) := hV.cell 0
        clear hV
        by_cases he : er = 0
        · subst he
          have HX : Hid (vFin k0 k1 rate buf k ≠ none ∧ ((kd = 1 ∧ vBd k0 k1 rate buf k who ratio) ∨ (kd = 2 ∧ ¬ vBd k0 k1 rate buf k who ratio))) := by
            rcases HJ.out with ⟨_, _, h1, ⟨h2, h3⟩ | ⟨h2, h3⟩⟩ | ⟨h, _⟩ | ⟨h, _⟩
            · exact ⟨h1, .inl ⟨h2, mo, h3⟩⟩
            · exact ⟨h1, .inr ⟨h2, h3⟩⟩
            · omega
            · omega
          by_cases hkd : kd = 2
          · have k2 : (kd == 2) = true := by simpa using hkd
            have HT : Hid (TFacts k0 k1 rate buf jit who ratio (k : Nat) 0) := .inr (.inl ⟨rfl, HOK.out, hk0, by omega, hall.out, HX.out.1, by rcases HX.out.2 with ⟨h, _⟩ | ⟨_, h⟩; omega; exact h⟩)
            clear hkd
            go_wp2
            go_ret2
            exact ⟨HM9.out, _, _, rfl, HT⟩
          · have k2 : (kd == 2) = false := by simpa using hkd
            have HA : Hid (∀ j, 0 ≤ j → j < ((k + 1 : Nat) : Int) → vFin k0 k1 rate buf j ≠ none ∧ vBd k0 k1 rate buf j who ratio) := fun j q0 q1 => by
              by_cases hj : j < (k : Int)
              · exact hall.out j q0 hj
              · obtain rfl : j = (k : Int) := by omega
                exact ⟨HX.out.1, by rcases HX.out.2 with ⟨_, h⟩ | ⟨h, _⟩; exact h; omega⟩
            clear hkd
            go_wp2
            go_roundw
            case rel => exact ⟨k + 1, by go_num, by omega, HA, hb9⟩
            case measure => simp [intOf]; omega
        · have g9 : (er != 0) = true := by simpa using he
          have HT : Hid (TFacts k0 k1 rate buf jit who ratio 0 er) := .inl (by rcases HJ.out with ⟨h, _⟩ | ⟨h, _⟩ | ⟨h, _⟩; omega; exact ⟨by omega, by omega⟩; exact ⟨by omega, by omega⟩)
          clear he
          go_wp2
          go_ret2
          exact ⟨HM9.out, _, _, rfl, HT⟩
      · have HT : Hid (TFacts k0 k1 rate buf jit who ratio 0 3) := .inr (.inr ⟨rfl, HOK.out, fun j q0 q1 => hall.out j q0 (by omega)⟩)
        have HMw : Hid (Below w.heap.size w wr) := HM1.out.trans (hbw.mono HM1.out.size)
        go_wp2
        go_ret2
        exact ⟨HMw.out, _, _, rfl, HT⟩
end Go.Proofs.Ytehlgomjgmabeaa
