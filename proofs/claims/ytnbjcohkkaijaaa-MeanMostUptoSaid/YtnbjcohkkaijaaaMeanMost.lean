/- MeanMost: for every input of such bulk the law returns true. Conditions: none. -/
import Derived.Test.YtnbjcohkkaijaaaMeRd
import Derived.Test.YtnbjcohkkaijaaaIsFlat
set_option linter.unusedVariables false
set_option linter.unusedSimpArgs false
namespace Go.Proofs.Ytnbjcohkkaijaaa
open Go.RowKit Go.Tide
set_option linter.unusedVariables false
set_option linter.unusedSimpArgs false

theorem mul_in2 {a d : Int} (ha : -1200000000000 ≤ a ∧ a ≤ 1200000000000) (hd : 0 ≤ d ∧ d ≤ 1048576) : -2000000000000000000 ≤ a * d ∧ a * d ≤ 2000000000000000000 := by
  have h1 : a * d ≤ 1200000000000 * d := Int.mul_le_mul_of_nonneg_right ha.2 hd.1
  have h2 : -1200000000000 * d ≤ a * d := Int.mul_le_mul_of_nonneg_right ha.1 hd.1
  omega
theorem mul_in3 {a d : Int} (ha : -1099511627776 ≤ a ∧ a ≤ 1099511627776) (hd : 0 ≤ d ∧ d ≤ 300) : -400000000000000 ≤ a * d ∧ a * d ≤ 400000000000000 := by
  have h1 : a * d ≤ 1099511627776 * d := Int.mul_le_mul_of_nonneg_right ha.2 hd.1
  have h2 : -1099511627776 * d ≤ a * d := Int.mul_le_mul_of_nonneg_right ha.1 hd.1
  omega
theorem wsum_in {N n m : Nat} {f : Nat → Nat → Int} {x : Nat → Int} (hG : GRight N n f) (hm : m ≤ 1048576) (h : WalkOk n f m x) : -1099511627776 ≤ wSum f x m ∧ wSum f x m ≤ 1099511627776 := by
  have := wSum_bound (x := x) hG m (fun k hk => ⟨(h k hk).1, (h k hk).2.1⟩)
  omega
set_option maxRecDepth 20000 in
set_option maxHeartbeats 8000000 in
theorem meanMost_walk (a0_0 : Int) (a0_1 : Option Addr) (len0 cap0 : Nat) (z0 : List Int) (a1 : Option Addr) (len1 cap1 : Nat) (z1 : List Int) (w : World) (b0_0 : InI64 a0_0) (f0 : IsFlat w a0_1 len0 cap0 3 z0) (r0 : cap0 * 24 ≤ 140737488351232) (f1 : IsFlat w a1 len1 cap1 1 z1) (r1 : cap1 * 8 ≤ 140737488351232) (s1 : len1 ≤ 1048576) :
    Calls Try.prog 4 #[.agg #[.int .i64 a0_0, .slice a0_1 len0 cap0], .slice a1 len1 cap1] w fun e w' => e = .returned (.bool true) ∧ Below w.heap.size w w' := by
  have hle : len0 ≤ cap0 := by rcases f0 with ⟨_, h1, h2, _⟩ | ⟨_, _, h, _⟩ <;> omega
  have hs := f0.rowC (by omega)
  generalize (fun k j => z0.getD (k * 3 + j) 0) = f at hs
  obtain ⟨x, hx⟩ : ∃ x, Row w a1 len1 x := ⟨_, f1.row⟩
  clear f0 f1
  by_cases hG : GRight a0_0 len0 f
  · obtain ⟨N, rfl⟩ : ∃ N : Nat, a0_0 = N := ⟨a0_0.toNat, by have := hG.1; omega⟩
    have HG := Lib.hid hG
    have hn := hG.2.2.1
    have hN : N ≤ 300 := by have := hG.2.1; omega
    clear hG
    go_enter Try.func4, Try.ntmps4
    go_wp2_with (refine (mean_alive_more _).mono ?_; rintro e w' ⟨rfl, os0, d0, rfl⟩)
    refine (greatest_one N _ len0 _ f _ (by repeat (first | (with_reducible assumption) | (with_reducible exact RowC.nil) | (with_reducible apply RowC.drewN) | (with_reducible apply RowC.drew) | (with_reducible apply RowC.more) | (with_reducible apply RowC.alloc))) HG.out).mono ?_
    rintro e w1 ⟨p, q, er, rfl, HP, os1, d1, rfl⟩
    go_upto_region 4 with fail
    have hFB : Blk ((((w.alloc (.cells #[.int .i64 N, .slice a0_1 len0 cap0] 24)).more os0 d0).more os1 d1).alloc (.cells #[.int .i64 p, .int .i64 q] 27)) ((w.alloc (.cells #[.int .i64 N, .slice a0_1 len0 cap0] 24)).more os0 d0 |>.more os1 d1).heap.size 27 #[.int .i64 p, .int .i64 q] := Blk.new _ _ _
    have hGB : Blk ((((w.alloc (.cells #[.int .i64 N, .slice a0_1 len0 cap0] 24)).more os0 d0).more os1 d1).alloc (.cells #[.int .i64 p, .int .i64 q] 27)) w.heap.size 24 #[.int .i64 N, .slice a0_1 len0 cap0] := (by repeat (first | (with_reducible assumption) | ((with_reducible refine Blk.new' ?_); (simp [Nat.add_assoc]; done)) | (with_reducible refine Blk.alloc ?_ _) | (with_reducible refine Blk.more ?_ _ _) | (with_reducible refine Blk.drew ?_) | (with_reducible refine Blk.drewN ?_ _)))
    have hs1 : RowC ((((w.alloc (.cells #[.int .i64 N, .slice a0_1 len0 cap0] 24)).more os0 d0).more os1 d1).alloc (.cells #[.int .i64 p, .int .i64 q] 27)) 3 a0_1 len0 f := (by repeat (first | (with_reducible assumption) | (with_reducible exact RowC.nil) | (with_reducible apply RowC.drewN) | (with_reducible apply RowC.drew) | (with_reducible apply RowC.more) | (with_reducible apply RowC.alloc)))
    have hx1 : Row ((((w.alloc (.cells #[.int .i64 N, .slice a0_1 len0 cap0] 24)).more os0 d0).more os1 d1).alloc (.cells #[.int .i64 p, .int .i64 q] 27)) a1 len1 x := (by repeat (first | (with_reducible assumption) | (with_reducible exact Row.nil) | (with_reducible apply Row.drewN) | (with_reducible apply Row.drew) | (with_reducible apply Row.more) | (with_reducible apply Row.alloc)))
    have HM1 : Hid (Below w.heap.size w ((((w.alloc (.cells #[.int .i64 N, .slice a0_1 len0 cap0] 24)).more os0 d0).more os1 d1).alloc (.cells #[.int .i64 p, .int .i64 q] 27))) := More.below (by repeat (first | (with_reducible assumption) | (with_reducible exact More.refl _) | (with_reducible refine More.alloc ?_ _) | (with_reducible refine More.more ?_ _ _) | (with_reducible refine More.drewN ?_ _) | (with_reducible refine More.drew ?_)))
    rw [show w.heap.size + (1 + (os0.size + os1.size)) = ((w.alloc (.cells #[.int .i64 N, .slice a0_1 len0 cap0] 24)).more os0 d0 |>.more os1 d1).heap.size by simp; omega]
    generalize ((((w.alloc (.cells #[.int .i64 N, .slice a0_1 len0 cap0] 24)).more os0 d0).more os1 d1).alloc (.cells #[.int .i64 p, .int .i64 q] 27)) = w1 at *
    generalize ((w.alloc (.cells #[.int .i64 N, .slice a0_1 len0 cap0] 24)).more os0 d0 |>.more os1 d1).heap.size = FB at *
    generalize hGe : w.heap.size = G at *
    have HGe := Lib.hid hGe
    clear hGe hs hx
    have lG1 := hGB.lt
    have lF1 := hFB.lt
    have cG0 : w1.cell? ⟨G, 0, none⟩ = some (.int .i64 N) := hGB.cell 0
    have cG1 : w1.cell? ⟨G, 1, none⟩ = some (.slice a0_1 len0 cap0) := hGB.cell 1
    go_wp2_with fail
    refine (best_one N _ len0 _ f _ hs1 HG.out).mono ?_
    rintro e w2 ⟨ao, no, co, er2, rfl, HB, hm2⟩
    have hGB2 := hGB.below hm2.below lG1
    have hFB2 := hFB.below hm2.below lF1
    have hs2 := hs1.below hm2.below (Nat.le_refl _)
    have hx2 := hx1.below hm2.below (Nat.le_refl _)
    have HM2 : Hid (Below G w w2) := HM1.out.trans (hm2.below.mono (by omega))
    clear hGB hFB hs1 hx1 cG0 cG1 lG1 lF1 hm2
    have lG2 := hGB2.lt
    have lF2 := hFB2.lt
    have cG0 : w2.cell? ⟨G, 0, none⟩ = some (.int .i64 N) := hGB2.cell 0
    have cG1 : w2.cell? ⟨G, 1, none⟩ = some (.slice a0_1 len0 cap0) := hGB2.cell 1
    have cF0 : w2.cell? ⟨FB, 0, none⟩ = some (.int .i64 p) := hFB2.cell 0
    have cF1 : w2.cell? ⟨FB, 1, none⟩ = some (.int .i64 q) := hFB2.cell 1
    go_upto_region 5 with fail
    rcases HP.out with ⟨h1, rfl, rfl, rfl⟩ | ⟨h1, rfl, rfl, rfl⟩
    · have he2 : er2 = 3 := by
        rcases HB.out with ⟨_, h⟩ | ⟨h, _⟩
        · exact h
        · exact absurd h1 h
      subst he2
      have HRF : Hid (gRd len0 f len1 x = false) := gRd_no (most_none HG.out h1)
      have HEQ := Lib.hid (eq_fr0 w2)
      clear h1 HP HB
      go_wp2_with (first | ((refine BigFrame.wpList_want (by rfl) (fun K hK => wp_eql _ _ _ _ rfl #[.int .i64 0, .int .i64 0] #[.int .i64 0, .int .i64 0] rfl rfl guard_fr true HEQ.out (hK _ _ ?_)))) | (go_at_call 10; refine (round_any2 N _ len0 _ f _ len1 _ x _ hs2 hx2 s1 HG.out).mono ?_; rw [HRF.out]; rintro e w' ⟨rfl, os3, d3, rfl⟩))
      go_ret
      rw [HGe.out]
      exact ⟨rfl, HM2.out.trans (below_more w2 os3 d3 G (by omega))⟩
    · rcases HB.out with ⟨h, _⟩ | ⟨h0, rfl, rfl, hrow⟩
      · exact absurd h h1
      have H1 := Lib.hid h1
      have HIS := Lib.hid (most_is HG.out h1)
      have HRT : Hid (gRd len0 f (bestL f len0 N).length (wOf (bestL f len0 N)) = true) := gRd_yes HIS.out.1
      have hbl : (bestL f len0 N).length ≤ N + 1 := bestL_len
      have hPb := low_in HG.out
      obtain ⟨gg, g1, g2, g3, g4, g5⟩ := low_facts hN h1
      have HSB := Lib.hid (wsum_in HG.out (by omega) HIS.out.1.1)
      obtain ⟨L, hL⟩ : ∃ L, Hid ((bestL f len0 N).length = L) := ⟨_, rfl⟩
      obtain ⟨xb, hxb⟩ : ∃ xb, Hid (wOf (bestL f len0 N) = xb) := ⟨_, rfl⟩
      obtain ⟨P, hP⟩ : ∃ P, Hid (bP f len0 N = P) := ⟨_, rfl⟩
      obtain ⟨Q, hQ⟩ : ∃ Q, Hid (bQ f len0 N = Q) := ⟨_, rfl⟩
      have HLE : Hid (GoesRound len0 f len1 x → wSum f x len1 * Q ≤ P * len1) := fun h => by rw [← hP.out, ← hQ.out]; exact most_le HG.out h1 h
      rw [hL.out, hxb.out, hP.out, hQ.out] at HIS
      rw [hL.out, hxb.out] at HRT HSB
      rw [hL.out, hxb.out] at hrow
      rw [hL.out] at hbl ⊢
      rw [hP.out] at hPb cF0 ⊢
      rw [hQ.out] at g4 g5 cF1 ⊢
      rw [hP.out, hQ.out] at hFB2
      have HROW := Lib.hid hrow
      clear h1 h0 HP HB hrow g1 g2 g3
      obtain ⟨sb, hsb⟩ : ∃ sb, Hid (wSum f xb L = sb) := ⟨_, rfl⟩
      rw [hsb.out] at HIS HSB
      obtain ⟨pb, hpb⟩ : ∃ pb, sb * Q = pb := ⟨_, rfl⟩
      have hpb2 : P * (L : Int) = pb := by rw [← hpb]; exact HIS.out.2.symm
      have hsb1 := HSB.out
      have i1 : IntKind.i64.wrap (sb * Q) = pb := by rw [← hpb]; exact IntWalk.i64_in _ (by have := mul_in3 hsb1 (d := Q) ⟨by omega, g5⟩; omega)
      have i2 : IntKind.i64.wrap (P * (L : Int)) = pb := by rw [hpb2, ← hpb]; exact IntWalk.i64_in _ (by have := mul_in3 hsb1 (d := Q) ⟨by omega, g5⟩; omega)
      have d2 : decide (Q < 1) = false := by simp; omega
      clear hpb hpb2 hsb1
      go_upto_region 8 with (go_at_call 11; refine (weigh_any N _ len0 _ f ao L co xb _ hs2 HROW.out (by omega) HG.out).mono ?_; rintro e w3 ⟨he3, hb3⟩; have he4 : e = .returned (.tuple #[.int .i64 sb, .int .i64 0]) := he3.elim (fun h => by rw [h.2, hsb.out]) (fun h => absurd HIS.out.1.1 h.1); subst he4; clear he3)
      have hGB3 := hGB2.below hb3 lG2
      have hFB3 := hFB2.below hb3 lF2
      have hs3 := hs2.below hb3 (Nat.le_refl _)
      have hx3 := hx2.below hb3 (Nat.le_refl _)
      have HROW3 := Lib.hid (HROW.out.below hb3 (Nat.le_refl _))
      have HM3 : Hid (Below G w w3) := HM2.out.trans (hb3.mono (by omega))
      clear hGB2 hFB2 hs2 hx2 HROW HM2 hb3 cG0 cG1 cF0 cF1 lG2 lF2
      have lG3 := hGB3.lt
      have lF3 := hFB3.lt
      have cG0 : w3.cell? ⟨G, 0, none⟩ = some (.int .i64 N) := hGB3.cell 0
      have cG1 : w3.cell? ⟨G, 1, none⟩ = some (.slice a0_1 len0 cap0) := hGB3.cell 1
      have cF0 : w3.cell? ⟨FB, 0, none⟩ = some (.int .i64 P) := hFB3.cell 0
      have cF1 : w3.cell? ⟨FB, 1, none⟩ = some (.int .i64 Q) := hFB3.cell 1
      go_upto_region 10 with (go_at_call 10; refine (round_any2 N _ len0 _ f ao L co xb _ hs3 HROW3.out (by omega) HG.out).mono ?_; rw [HRT.out]; rintro e w' ⟨rfl, os4, d4, rfl⟩)
      have hGB4 := hGB3.more os4 d4
      have hFB4 := hFB3.more os4 d4
      have hs4 := hs3.more os4 d4
      have hx4 := hx3.more os4 d4
      have HM4 : Hid (Below G w (w3.more os4 d4)) := HM3.out.trans (below_more w3 os4 d4 G (by omega))
      clear hGB3 hFB3 hs3 hx3 HROW3 HM3 cG0 cG1 cF0 cF1 lG3 lF3 i1 i2 HIS HRT HSB
      generalize w3.more os4 d4 = w4 at *
      have lG4 := hGB4.lt
      have lF4 := hFB4.lt
      have cG0 : w4.cell? ⟨G, 0, none⟩ = some (.int .i64 N) := hGB4.cell 0
      have cG1 : w4.cell? ⟨G, 1, none⟩ = some (.slice a0_1 len0 cap0) := hGB4.cell 1
      go_wp2_with fail
      refine (weigh_any N _ len0 _ f _ len1 _ x _ hs4 hx4 s1 HG.out).mono ?_
      rintro e w5 ⟨he5, hb5⟩
      have he6 : ∃ y er5 : Int, e = .returned (.tuple #[.int .i64 y, .int .i64 er5]) ∧ Hid (WalkOk len0 f len1 x → y = wSum f x len1) := by
        rcases he5 with ⟨_, h⟩ | ⟨h, h2⟩
        · exact ⟨_, _, h, fun _ => rfl⟩
        · exact ⟨_, _, h2, fun h3 => absurd h3 h⟩
      obtain ⟨y, er5, rfl, HY⟩ := he6
      have hGB5 := hGB4.below hb5 lG4
      have hFB5 := hFB4.below hb5 lF4
      have hs5 := hs4.below hb5 (Nat.le_refl _)
      have hx5 := hx4.below hb5 (Nat.le_refl _)
      have HM5 : Hid (Below G w w5) := HM4.out.trans (hb5.mono (by omega))
      clear hGB4 hFB4 hs4 hx4 HM4 hb5 cG0 cG1 lG4 lF4 he5
      have lG5 := hGB5.lt
      have lF5 := hFB5.lt
      have cG0 : w5.cell? ⟨G, 0, none⟩ = some (.int .i64 N) := hGB5.cell 0
      have cG1 : w5.cell? ⟨G, 1, none⟩ = some (.slice a0_1 len0 cap0) := hGB5.cell 1
      have cF0 : w5.cell? ⟨FB, 0, none⟩ = some (.int .i64 P) := hFB5.cell 0
      have cF1 : w5.cell? ⟨FB, 1, none⟩ = some (.int .i64 Q) := hFB5.cell 1
      by_cases hR : GoesRound len0 f len1 x
      · have HRR : Hid (gRd len0 f len1 x = true) := gRd_yes hR
        have hy : y = wSum f x len1 := HY.out hR.1
        have hyb := wsum_in HG.out s1 hR.1
        have hle2 := HLE.out hR
        rw [← hy] at hyb hle2
        have i1 : IntKind.i64.wrap (y * Q) = y * Q := IntWalk.i64_in _ (by have := mul_in3 hyb (d := Q) ⟨by omega, g5⟩; omega)
        have i2 : IntKind.i64.wrap (P * (len1 : Int)) = P * (len1 : Int) := IntWalk.i64_in _ (by have := mul_in2 (a := P) (d := (len1 : Int)) (by omega) (by omega); omega)
        obtain ⟨yq, hyq⟩ : ∃ yq, y * Q = yq := ⟨_, rfl⟩
        obtain ⟨pl, hpl⟩ : ∃ pl, P * (len1 : Int) = pl := ⟨_, rfl⟩
        rw [hyq, hpl] at hle2
        have i3 : IntKind.i64.wrap (y * Q) = yq := by rw [i1, hyq]
        have i4 : IntKind.i64.wrap (P * (len1 : Int)) = pl := by rw [i2, hpl]
        have d3 : decide (yq ≤ pl) = true := by simpa using hle2
        clear hR hy hyb i1 i2 hyq hpl HLE HY
        go_wp2_with (go_at_call 10; refine (round_any2 N _ len0 _ f _ len1 _ x _ hs5 hx5 s1 HG.out).mono ?_; rw [HRR.out]; rintro e w' ⟨rfl, os6, d6, rfl⟩)
        go_ret
        rw [HGe.out]
        exact ⟨rfl, HM5.out.trans (below_more w5 os6 d6 G (by omega))⟩
      · have HRR : Hid (gRd len0 f len1 x = false) := gRd_no hR
        clear hR HLE HY
        go_wp2_with (go_at_call 10; refine (round_any2 N _ len0 _ f _ len1 _ x _ hs5 hx5 s1 HG.out).mono ?_; rw [HRR.out]; rintro e w' ⟨rfl, os6, d6, rfl⟩)
        go_ret
        rw [HGe.out]
        exact ⟨rfl, HM5.out.trans (below_more w5 os6 d6 G (by omega))⟩
  · have HG := Lib.hid hG
    clear hG hx
    go_enter Try.func4, Try.ntmps4
    go_wp2_with (refine (mean_alive_more _).mono ?_; rintro e w' ⟨rfl, os0, d0, rfl⟩)
    refine (greatest_bad a0_0 _ len0 _ f _ (by repeat (first | (with_reducible assumption) | (with_reducible exact RowC.nil) | (with_reducible apply RowC.drewN) | (with_reducible apply RowC.drew) | (with_reducible apply RowC.more) | (with_reducible apply RowC.alloc))) (by omega) HG.out).mono ?_
    rintro e w1 ⟨rfl, os1, d1, rfl⟩
    go_wp2_with fail
    refine (best_bad a0_0 _ len0 _ f _ (by repeat (first | (with_reducible assumption) | (with_reducible exact RowC.nil) | (with_reducible apply RowC.drewN) | (with_reducible apply RowC.drew) | (with_reducible apply RowC.more) | (with_reducible apply RowC.alloc))) (by omega) HG.out).mono ?_
    rintro e w1 ⟨rfl, hb2⟩
    obtain ⟨os2, d2, rfl⟩ := More.of_below hb2
    clear hb2
    have HEQ := Lib.hid eq_fr0
    go_wp2_with (first | ((refine BigFrame.wpList_want (by rfl) (fun K hK => wp_eql _ _ _ _ rfl #[.int .i64 0, .int .i64 0] #[.int .i64 0, .int .i64 0] rfl rfl guard_fr true (HEQ.out _) (hK _ _ ?_)))) | (go_at_call 10; refine (round_bad a0_0 _ len0 _ f _ len1 _ _ (by repeat (first | (with_reducible assumption) | (with_reducible exact RowC.nil) | (with_reducible apply RowC.drewN) | (with_reducible apply RowC.drew) | (with_reducible apply RowC.more) | (with_reducible apply RowC.alloc))) (by omega) HG.out).mono ?_; rintro e w' ⟨rfl, os3, d3, rfl⟩))
    go_ret
    exact ⟨rfl, (More.below (by repeat (first | (with_reducible assumption) | (with_reducible exact More.refl _) | (with_reducible refine More.alloc ?_ _) | (with_reducible refine More.more ?_ _ _) | (with_reducible refine More.drewN ?_ _) | (with_reducible refine More.drew ?_))))⟩
end Go.Proofs.Ytnbjcohkkaijaaa
