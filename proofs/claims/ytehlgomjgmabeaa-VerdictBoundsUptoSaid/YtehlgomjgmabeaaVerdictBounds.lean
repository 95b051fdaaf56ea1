/- VerdictBounds: for every input of such bulk the law returns true. Conditions: none. -/
import Derived.Test.YtehlgomjgmabeaaVdTb
import Derived.Test.YtehlgomjgmabeaaIsFlat
set_option linter.unusedVariables false
set_option linter.unusedSimpArgs false
namespace Go.Proofs.Ytehlgomjgmabeaa
open Go.RowKit Go.Shelf Go.Tide
set_option linter.unusedVariables false
set_option linter.unusedSimpArgs false
theorem rowC_from {w : World} {C : Nat} {a : Option Addr} {n c i d : Nat} {g : Nat → Nat → Int} (h : RowC w C a n g) (hd : i + d ≤ n) (hc : n ≤ c) : RowC w C (if c = i then a else Option.map (fun x => x.add (i * C)) a) d (fun k => g (i + k)) := by
  intro h0
  obtain ⟨b, off, rfl, hb, hce⟩ := h (by omega)
  refine ⟨b, off + i * C, ?_, hb, fun k j hk hj => ?_⟩
  · rw [if_neg (by omega)]
    show some ((⟨b, off, none⟩ : Addr).add (i * C)) = _
    rw [Addr.add_lit]
  · have h1 := hce (i + k) j (by omega) hj
    rw [show off + i * C + (k * C + j) = off + ((i + k) * C + j) by rw [Nat.add_mul]; omega]
    exact h1
theorem bsum_vsum (r : DRules) (who : Nat) (ratio : Int) (f : Nat → Nat → Int) (i : Nat) : ∀ d, bSum who ratio (fun k => dRows r f (i + k)) d = vSum r who ratio f i d := by
  intro d
  induction d with
  | zero => rfl
  | succ d ih => rw [vsum_succ, ← ih]; rfl
set_option maxRecDepth 20000 in
set_option maxHeartbeats 8000000 in
theorem verdictBounds_ok (a0_0 a0_1 : Int) (rate buf J : Nat) (a1 a2 : Int) (a3 : Option Addr) (len3 cap3 : Nat) (f : Nat → Nat → Int) (a4 a5 : Int) (w : World) (HR : Hid (DRules.ok ⟨a0_0, a0_1, rate, buf, (J : Nat)⟩)) (hf : RowC w 2 a3 len3 f) (s3 : len3 ≤ 1048576) :
    Calls Try.prog 8 #[.agg #[.int .i64 a0_0, .int .i64 a0_1, .int .i64 rate, .int .i64 buf, .int .i64 (J : Nat)], .int .i64 a1, .int .i64 a2, .slice a3 len3 cap3, .int .i64 a4, .int .i64 a5] w fun e w' => e = .returned (.bool true) ∧ Below w.heap.size w w' := by
  go_enter Try.func8, Try.ntmps8
  go_wp2_with (go_at_call 21; refine (verdict_alive _).mono ?_; rintro e w' ⟨rfl, os0, d0, rfl⟩)
  go_wp2_with fail
  have HM0 : Hid (Below w.heap.size w ((w.alloc (.cells #[.int .i64 a0_0, .int .i64 a0_1, .int .i64 rate, .int .i64 buf, .int .i64 (J : Nat)] 24)).more os0 d0)) := More.below (by repeat (first | (with_reducible assumption) | (with_reducible exact More.refl _) | (with_reducible refine More.alloc ?_ _) | (with_reducible refine More.more ?_ _ _) | (with_reducible refine More.drewN ?_ _) | (with_reducible refine More.drew ?_)))
  have hB : Blk ((w.alloc (.cells #[.int .i64 a0_0, .int .i64 a0_1, .int .i64 rate, .int .i64 buf, .int .i64 (J : Nat)] 24)).more os0 d0) w.heap.size 24 #[.int .i64 a0_0, .int .i64 a0_1, .int .i64 rate, .int .i64 buf, .int .i64 (J : Nat)] := (by repeat (first | (with_reducible assumption) | ((with_reducible refine Blk.new' ?_); (simp [Nat.add_assoc]; done)) | (with_reducible refine Blk.alloc ?_ _) | (with_reducible refine Blk.more ?_ _ _) | (with_reducible refine Blk.drew ?_) | (with_reducible refine Blk.drewN ?_ _)))
  have hz : RowC ((w.alloc (.cells #[.int .i64 a0_0, .int .i64 a0_1, .int .i64 rate, .int .i64 buf, .int .i64 (J : Nat)] 24)).more os0 d0) 2 a3 len3 f := (by repeat (first | (with_reducible assumption) | (with_reducible exact RowC.nil) | (with_reducible apply RowC.drewN) | (with_reducible apply RowC.drew) | (with_reducible apply RowC.more) | (with_reducible apply RowC.alloc)))
  generalize ((w.alloc (.cells #[.int .i64 a0_0, .int .i64 a0_1, .int .i64 rate, .int .i64 buf, .int .i64 (J : Nat)] 24)).more os0 d0) = w0 at *
  refine (judge_all a0_0 a0_1 rate buf (J : Nat) a1 a2 _).mono ?_
  rintro e wj1 ⟨hbj1, kd1, mo1, sa1, sn1, sc1, ta1, tn1, tc1, er1, rfl, HJ1⟩
  have HMj1 : Hid (Below w.heap.size w wj1) := HM0.out.trans (hbj1.mono HM0.out.size)
  replace hB := hB.below hbj1 hB.lt
  replace hz := hz.below hbj1 (Nat.le_refl _)
  clear hbj1
  go_upto_region 4 with (refine wpList_store_row rfl _ _ _ rfl wj1.heap.size #[.int .i64 kd1, .int .i64 mo1, .slice sa1 sn1 sc1, .slice ta1 tn1 tc1] rfl rfl 60 #[.int .i64 0, .int .i64 0, .slice none 0 0, .slice none 0 0] (Blk.new wj1 _ _) (by kernel_rfl) rfl (by simp [Value.oneCell']) ?_)
  have hV1 : Blk ((wj1.alloc (.cells #[.int .i64 0, .int .i64 0, .slice none 0 0, .slice none 0 0] 60)).setRow wj1.heap.size #[.int .i64 kd1, .int .i64 mo1, .slice sa1 sn1 sc1, .slice ta1 tn1 tc1]) wj1.heap.size 60 #[.int .i64 kd1, .int .i64 mo1, .slice sa1 sn1 sc1, .slice ta1 tn1 tc1] := newRow
  have hn1 : Below wj1.heap.size wj1 ((wj1.alloc (.cells #[.int .i64 0, .int .i64 0, .slice none 0 0, .slice none 0 0] 60)).setRow wj1.heap.size #[.int .i64 kd1, .int .i64 mo1, .slice sa1 sn1 sc1, .slice ta1 tn1 tc1]) := newRow_below
  have HM1 : Hid (Below w.heap.size w ((wj1.alloc (.cells #[.int .i64 0, .int .i64 0, .slice none 0 0, .slice none 0 0] 60)).setRow wj1.heap.size #[.int .i64 kd1, .int .i64 mo1, .slice sa1 sn1 sc1, .slice ta1 tn1 tc1])) := HMj1.out.trans (hn1.mono HMj1.out.size)
  replace hB := hB.below hn1 hB.lt
  replace hz := hz.below hn1 (Nat.le_refl _)
  generalize ((wj1.alloc (.cells #[.int .i64 0, .int .i64 0, .slice none 0 0, .slice none 0 0] 60)).setRow wj1.heap.size #[.int .i64 kd1, .int .i64 mo1, .slice sa1 sn1 sc1, .slice ta1 tn1 tc1]) = w1 at *
  have hVs1 := HMj1.out.size
  clear hn1 HMj1
  generalize wj1.heap.size = V1 at *
  have lB1 := hB.lt
  have lV1 := hV1.lt
  have hs1 := HM1.out.size
  have f0 : w1.cell? ⟨w.heap.size, 0, none⟩ = _ := hB.cell 0
  have f1 : w1.cell? ⟨w.heap.size, 1, none⟩ = _ := hB.cell 1
  have f2 : w1.cell? ⟨w.heap.size, 2, none⟩ = _ := hB.cell 2
  have f3 : w1.cell? ⟨w.heap.size, 3, none⟩ = _ := hB.cell 3
  have f4 : w1.cell? ⟨w.heap.size, 4, none⟩ = _ := hB.cell 4
  go_wp2_with fail
  by_cases hA : dAll ⟨a0_0, a0_1, rate, buf, (J : Nat)⟩ f len3
  · have HA := Lib.hid hA
    clear hA
    refine (play_ok ⟨a0_0, a0_1, rate, buf, (J : Nat)⟩ a3 len3 cap3 f _ hz s3 HR.out HA.out).mono ?_
    rintro e w5 ⟨ao, co, he, hown, hb5⟩
    obtain ⟨t, ht⟩ : ∃ t, Hid (dRun ⟨a0_0, a0_1, rate, buf, (J : Nat)⟩ f len3 = t) := ⟨_, rfl⟩
    rw [ht.out] at he
    have he' : e = .returned (.tuple #[.slice ao len3 co, .agg (stL t).toArray, .int .i64 0]) := he
    subst he'
    have hro : RowC w5 6 ao len3 (dRows ⟨a0_0, a0_1, rate, buf, (J : Nat)⟩ f) := RowC.of_own (by omega) hown
    have hlc : len3 ≤ co := by
      obtain ⟨a', c', hcc, hcle⟩ := own_sliceC hown
      cases hcc
      exact hcle
    have hV5 := hV1.below hb5 lV1
    have HM5 : Hid (Below w.heap.size w w5) := HM1.out.trans (hb5.mono hs1)
    have hs5 := HM5.out.size
    clear he hown hb5 hz hB hV1 f0 f1 f2 f3 f4 lB1
    go_upto_region 5 with (refine wpList_store_row rfl _ _ _ rfl w5.heap.size (stL t).toArray rfl rfl 32 #[.int .i64 0, .int .i64 0, .int .i64 0, .int .i64 0, .int .i64 0, .int .i64 0, .int .i64 0, .int .i64 0, .int .i64 0, .int .i64 0, .int .i64 0, .int .i64 0, .int .i64 0, .int .i64 0] (Blk.new w5 _ _) (stL_info t) rfl (stL_one t) ?_)
    have hnb : Below w5.heap.size w5 ((w5.alloc (.cells #[.int .i64 0, .int .i64 0, .int .i64 0, .int .i64 0, .int .i64 0, .int .i64 0, .int .i64 0, .int .i64 0, .int .i64 0, .int .i64 0, .int .i64 0, .int .i64 0, .int .i64 0, .int .i64 0] 32)).setRow w5.heap.size (stL t).toArray) := newRow_below
    generalize ((w5.alloc (.cells #[.int .i64 0, .int .i64 0, .int .i64 0, .int .i64 0, .int .i64 0, .int .i64 0, .int .i64 0, .int .i64 0, .int .i64 0, .int .i64 0, .int .i64 0, .int .i64 0, .int .i64 0, .int .i64 0] 32)).setRow w5.heap.size (stL t).toArray) = w6 at *
    have hro6 := hro.below hnb (Nat.le_refl _)
    have hV6 := hV5.below hnb hV5.lt
    have HM6 : Hid (Below w.heap.size w w6) := HM5.out.trans (hnb.mono hs5)
    have lV := hV6.lt
    have xk : w6.cell? ⟨V1, 0, none⟩ = some (.int .i64 kd1) := hV6.cell 0
    have xm : w6.cell? ⟨V1, 1, none⟩ = some (.int .i64 mo1) := hV6.cell 1
    clear hnb hro hV5 hV6
    by_cases h0 : er1 = 0
    case neg =>
      have g0 : (er1 != 0) = true := by simpa using h0
      go_wp2
      go_ret
      exact ⟨rfl, HM6.out⟩
    subst h0
    by_cases h1 : kd1 = 1
    case neg =>
      have g1 : (kd1 != 1) = true := by simpa using h1
      go_wp2
      go_ret
      exact ⟨rfl, HM6.out⟩
    subst h1
    by_cases c0 : a4 < 0
    · have d0 : decide (a4 < 0) = true := by simpa using c0
      go_wp2
      go_ret
      exact ⟨rfl, HM6.out⟩
    have d0 : decide (a4 < 0) = false := by simpa using c0
    by_cases c1 : a5 < a4
    · have d1 : decide (a5 < a4) = true := by simpa using c1
      go_wp2
      go_ret
      exact ⟨rfl, HM6.out⟩
    have d1 : decide (a5 < a4) = false := by simpa using c1
    by_cases c2 : (len3 : Int) < a5
    · have d2 : decide ((len3 : Int) < a5) = true := by simpa using c2
      go_wp2
      go_ret
      exact ⟨rfl, HM6.out⟩
    have d2 : decide ((len3 : Int) < a5) = false := by simpa using c2
    obtain ⟨i, hi4⟩ : ∃ i : Nat, a4 = i := ⟨a4.toNat, by omega⟩
    obtain ⟨d, hi5⟩ : ∃ d : Nat, a5 = i + d := ⟨(a5 - a4).toNat, by omega⟩
    have hid : i + d ≤ len3 := by omega
    have hti : a4.toNat = i := by omega
    have htd : a5.toNat = i + d := by omega
    have HI4 := Lib.hid hi4
    have HI5 := Lib.hid hi5
    have u0 : 0 ≤ a4 := by omega
    have u1 : a4 ≤ a5 := by omega
    have u2 : a5 ≤ (co : Int) := by omega
    clear hi4 hi5
    have HJ := HJ1.out
    obtain ⟨HO, HV⟩ : Hid (VdOk a0_0 a0_1 rate buf (J : Nat) a1 a2) ∧ Hid (VB ⟨a0_0, a0_1, rate, buf, (J : Nat)⟩ a1.toNat a2 mo1) := by
      rcases HJ with ⟨_, h, _, ⟨_, h2⟩ | ⟨h2, _⟩⟩ | ⟨h2, _⟩ | ⟨h2, _⟩
      · exact ⟨h, h2⟩
      · omega
      · omega
      · omega
    obtain ⟨who, hwho⟩ : ∃ who : Nat, a1 = who := ⟨a1.toNat, by have := HO.out.2.1.1; omega⟩
    have HWH : Hid (who = 0 ∨ who = 1) := by have h := HO.out.2.1; show _ ∨ _; omega
    have HRT : Hid (1 ≤ a2 ∧ a2 ≤ 100) := HO.out.2.2
    have HQB : Hid (∀ k, k < d → ∀ j, 0 ≤ dRows ⟨a0_0, a0_1, rate, buf, (J : Nat)⟩ f (i + k) j ∧ dRows ⟨a0_0, a0_1, rate, buf, (J : Nat)⟩ f (i + k) j ≤ 100) := fun k hk j => row_pos HR.out (run_ok HR.out _ (fun q hq => HA.out q (by omega))) j
    have HL : Hid (bSum who a2 (fun k => dRows ⟨a0_0, a0_1, rate, buf, (J : Nat)⟩ f (i + k)) d ≤ mo1) := by
      show _ ≤ _
      rw [bsum_vsum]
      have h := HV.out f len3 HA.out i d (by omega)
      rw [hwho, Int.toNat_natCast] at h
      exact h
    subst hwho
    clear HJ c0 c1 c2 HJ1 HO HV
    obtain ⟨pa, hpa⟩ : ∃ pa, (if co = i then ao else Option.map (fun x => x.add (i * 6)) ao) = pa := ⟨_, rfl⟩
    have hpr : RowC w6 6 pa d (fun k => dRows ⟨a0_0, a0_1, rate, buf, (J : Nat)⟩ f (i + k)) := by
      rw [← hpa]
      exact rowC_from hro6 hid hlc
    obtain ⟨sm, hsm⟩ : ∃ sm, Hid (bSum who a2 (fun k => dRows ⟨a0_0, a0_1, rate, buf, (J : Nat)⟩ f (i + k)) d = sm) := ⟨_, rfl⟩
    have hle : decide (sm ≤ mo1) = true := by
      have h := HL.out
      rw [hsm.out] at h
      simpa using h
    go_wp2_with fail
    refine wp_region_held_drew (S := fun w' => Below w6.heap.size w6 w') (by kernel_rfl) ?_ (fun hHeld => ?_)
    · exact (Below.refl _ _).drew
    refine tk0 0 rfl ?_; try simp only [lay]
    refine tk0 1 rfl ?_; try simp only [lay]
    refine tk0 2 rfl ?_; try simp only [lay]
    refine tk0 3 rfl ?_; try simp only [lay]
    refine tk0 4 rfl ?_; try simp only [lay]
    refine tk0 5 rfl ?_; try simp only [lay]
    refine tk0 7 rfl ?_; try simp only [lay]
    refine tk 8 (.int .i64 mo1) rfl ⟨by rfl, fun w' hSw => by have hl := (hSw.cell (p := ⟨V1, 1, none⟩) lV).trans xm; clear hSw; go_simp; try (with_reducible rfl)⟩ ?_; try simp only [lay]
    refine wpAnyH_ready (rs := [6]) (by kernel_rfl) (by simp) ?_
    refine AllReadyH.cons rfl (fun K hK => ?_) AllReadyH.nil
    go_simp
    refine (tbrings_any pa d (co - i) (fun k => dRows ⟨a0_0, a0_1, rate, buf, (J : Nat)⟩ f (i + k)) who a2 _ (hpr.below hHeld (Nat.le_refl _)) (by omega) HWH HRT HQB).mono ?_
    rintro e w7 ⟨rfl, hm7⟩
    rw [hsm.out]
    have hH7 : Below w6.heap.size w6 w7 := hHeld.trans (hm7.below.mono hHeld.size)
    clear hHeld
    refine hK.out _ _ ?_ (fun hHeld => ?_)
    · exact hH7
    clear hK K hH7
    try simp only [lay]
    refine tk0 9 rfl ?_; try simp only [lay]
    refine tk0 10 rfl ?_; try simp only [lay]
    refine wpAnyH_done (by kernel_rfl) ?_ _
    go_wp2
    go_ret
    exact ⟨rfl, HM6.out.trans (hHeld.mono HM6.out.size)⟩
  · have HA := Lib.hid hA
    clear hA
    refine (play_any ⟨a0_0, a0_1, rate, buf, (J : Nat)⟩ a3 len3 cap3 f _ hz s3 HR.out HA.out).mono ?_
    rintro e w5 ⟨he, hm5⟩
    obtain ⟨t, ht⟩ : ∃ t : DSt, Hid (stL t = [.int .i64 0, .int .i64 0, .int .i64 0, .int .i64 0, .int .i64 0, .int .i64 0, .int .i64 0, .int .i64 0, .int .i64 0, .int .i64 0, .int .i64 0, .int .i64 0, .int .i64 0, .int .i64 0]) := ⟨⟨⟨0, 0, 0, 0, 0, 0⟩, ⟨0, 0, 0, 0, 0, 0⟩, 0, 0⟩, rfl⟩
    have he' : e = .returned (.tuple #[.slice none 0 0, .agg (stL t).toArray, .int .i64 2]) := by rw [ht.out]; exact he
    clear he
    subst he'
    have HM5 : Hid (Below w.heap.size w w5) := below_then HM1.out hs1 hm5
    clear hm5 hz hB hV1 f0 f1 f2 f3 f4 lB1
    have HM6 : Hid (Below w.heap.size w ((w5.alloc (.cells #[.int .i64 0, .int .i64 0, .int .i64 0, .int .i64 0, .int .i64 0, .int .i64 0, .int .i64 0, .int .i64 0, .int .i64 0, .int .i64 0, .int .i64 0, .int .i64 0, .int .i64 0, .int .i64 0] 32)).setRow w5.heap.size (stL t).toArray)) := HM5.out.trans (newRow_below.mono HM5.out.size)
    go_upto_region 5 with (refine wpList_store_row rfl _ _ _ rfl w5.heap.size (stL t).toArray rfl rfl 32 #[.int .i64 0, .int .i64 0, .int .i64 0, .int .i64 0, .int .i64 0, .int .i64 0, .int .i64 0, .int .i64 0, .int .i64 0, .int .i64 0, .int .i64 0, .int .i64 0, .int .i64 0, .int .i64 0] (Blk.new w5 _ _) (stL_info t) rfl (stL_one t) ?_)
    generalize ((w5.alloc (.cells #[.int .i64 0, .int .i64 0, .int .i64 0, .int .i64 0, .int .i64 0, .int .i64 0, .int .i64 0, .int .i64 0, .int .i64 0, .int .i64 0, .int .i64 0, .int .i64 0, .int .i64 0, .int .i64 0] 32)).setRow w5.heap.size (stL t).toArray) = w6 at *
    by_cases h0 : er1 = 0
    · subst h0
      go_wp2
      go_ret
      exact ⟨rfl, HM6.out⟩
    · have g0 : (er1 != 0) = true := by simpa using h0
      go_wp2
      go_ret
      exact ⟨rfl, HM6.out⟩
set_option maxRecDepth 20000 in
set_option maxHeartbeats 8000000 in
theorem verdictBounds_w (a0_0 a0_1 a0_2 a0_3 a0_4 : Int) (a1 a2 : Int) (a3 : Option Addr) (len3 cap3 : Nat) (a4 a5 : Int) (w : World) (erw : Int) (HE : Hid (erw ≠ 0)) (HCW : Hid (∀ W, Calls Try.prog 26 #[.agg #[.int .i64 a0_0, .int .i64 a0_1, .int .i64 a0_2, .int .i64 a0_3, .int .i64 a0_4]] W fun e w' => e = .returned (.int .i64 erw) ∧ More W w')) :
    Calls Try.prog 8 #[.agg #[.int .i64 a0_0, .int .i64 a0_1, .int .i64 a0_2, .int .i64 a0_3, .int .i64 a0_4], .int .i64 a1, .int .i64 a2, .slice a3 len3 cap3, .int .i64 a4, .int .i64 a5] w fun e w' => e = .returned (.bool true) ∧ Below w.heap.size w w' := by
  have g1 : (erw != 0) = true := by simpa using HE.out
  go_enter Try.func8, Try.ntmps8
  go_wp2_with (go_at_call 21; refine (verdict_alive _).mono ?_; rintro e w' ⟨rfl, os0, d0, rfl⟩)
  go_wp2_with fail
  have HM0 : Hid (Below w.heap.size w ((w.alloc (.cells #[.int .i64 a0_0, .int .i64 a0_1, .int .i64 a0_2, .int .i64 a0_3, .int .i64 a0_4] 24)).more os0 d0)) := More.below (by repeat (first | (with_reducible assumption) | (with_reducible exact More.refl _) | (with_reducible refine More.alloc ?_ _) | (with_reducible refine More.more ?_ _ _) | (with_reducible refine More.drewN ?_ _) | (with_reducible refine More.drew ?_)))
  have hB : Blk ((w.alloc (.cells #[.int .i64 a0_0, .int .i64 a0_1, .int .i64 a0_2, .int .i64 a0_3, .int .i64 a0_4] 24)).more os0 d0) w.heap.size 24 #[.int .i64 a0_0, .int .i64 a0_1, .int .i64 a0_2, .int .i64 a0_3, .int .i64 a0_4] := (by repeat (first | (with_reducible assumption) | ((with_reducible refine Blk.new' ?_); (simp [Nat.add_assoc]; done)) | (with_reducible refine Blk.alloc ?_ _) | (with_reducible refine Blk.more ?_ _ _) | (with_reducible refine Blk.drew ?_) | (with_reducible refine Blk.drewN ?_ _)))
  generalize ((w.alloc (.cells #[.int .i64 a0_0, .int .i64 a0_1, .int .i64 a0_2, .int .i64 a0_3, .int .i64 a0_4] 24)).more os0 d0) = w0 at *
  refine (judge_all a0_0 a0_1 a0_2 a0_3 a0_4 a1 a2 _).mono ?_
  rintro e wj1 ⟨hbj1, kd1, mo1, sa1, sn1, sc1, ta1, tn1, tc1, er1, rfl, HJ1⟩
  have HMj1 : Hid (Below w.heap.size w wj1) := HM0.out.trans (hbj1.mono HM0.out.size)
  replace hB := hB.below hbj1 hB.lt
  clear hbj1
  go_upto_region 4 with (refine wpList_store_row rfl _ _ _ rfl wj1.heap.size #[.int .i64 kd1, .int .i64 mo1, .slice sa1 sn1 sc1, .slice ta1 tn1 tc1] rfl rfl 60 #[.int .i64 0, .int .i64 0, .slice none 0 0, .slice none 0 0] (Blk.new wj1 _ _) (by kernel_rfl) rfl (by simp [Value.oneCell']) ?_)
  have hV1 : Blk ((wj1.alloc (.cells #[.int .i64 0, .int .i64 0, .slice none 0 0, .slice none 0 0] 60)).setRow wj1.heap.size #[.int .i64 kd1, .int .i64 mo1, .slice sa1 sn1 sc1, .slice ta1 tn1 tc1]) wj1.heap.size 60 #[.int .i64 kd1, .int .i64 mo1, .slice sa1 sn1 sc1, .slice ta1 tn1 tc1] := newRow
  have hn1 : Below wj1.heap.size wj1 ((wj1.alloc (.cells #[.int .i64 0, .int .i64 0, .slice none 0 0, .slice none 0 0] 60)).setRow wj1.heap.size #[.int .i64 kd1, .int .i64 mo1, .slice sa1 sn1 sc1, .slice ta1 tn1 tc1]) := newRow_below
  have HM1 : Hid (Below w.heap.size w ((wj1.alloc (.cells #[.int .i64 0, .int .i64 0, .slice none 0 0, .slice none 0 0] 60)).setRow wj1.heap.size #[.int .i64 kd1, .int .i64 mo1, .slice sa1 sn1 sc1, .slice ta1 tn1 tc1])) := HMj1.out.trans (hn1.mono HMj1.out.size)
  replace hB := hB.below hn1 hB.lt
  generalize ((wj1.alloc (.cells #[.int .i64 0, .int .i64 0, .slice none 0 0, .slice none 0 0] 60)).setRow wj1.heap.size #[.int .i64 kd1, .int .i64 mo1, .slice sa1 sn1 sc1, .slice ta1 tn1 tc1]) = w1 at *
  have hVs1 := HMj1.out.size
  clear hn1 HMj1
  generalize wj1.heap.size = V1 at *
  have lB1 := hB.lt
  have hs1 := HM1.out.size
  have f0 : w1.cell? ⟨w.heap.size, 0, none⟩ = _ := hB.cell 0
  have f1 : w1.cell? ⟨w.heap.size, 1, none⟩ = _ := hB.cell 1
  have f2 : w1.cell? ⟨w.heap.size, 2, none⟩ = _ := hB.cell 2
  have f3 : w1.cell? ⟨w.heap.size, 3, none⟩ = _ := hB.cell 3
  have f4 : w1.cell? ⟨w.heap.size, 4, none⟩ = _ := hB.cell 4
  go_wp2_with fail
  refine (play_w a0_0 a0_1 a0_2 a0_3 a0_4 erw a3 len3 cap3 _ HE HCW.out).mono ?_
  rintro e w5 ⟨he, hm5⟩
  obtain ⟨t, ht⟩ : ∃ t : DSt, Hid (stL t = [.int .i64 0, .int .i64 0, .int .i64 0, .int .i64 0, .int .i64 0, .int .i64 0, .int .i64 0, .int .i64 0, .int .i64 0, .int .i64 0, .int .i64 0, .int .i64 0, .int .i64 0, .int .i64 0]) := ⟨⟨⟨0, 0, 0, 0, 0, 0⟩, ⟨0, 0, 0, 0, 0, 0⟩, 0, 0⟩, rfl⟩
  have he' : e = .returned (.tuple #[.slice none 0 0, .agg (stL t).toArray, .int .i64 erw]) := by rw [ht.out]; exact he
  clear he
  subst he'
  have HM5 : Hid (Below w.heap.size w w5) := below_then HM1.out hs1 hm5
  clear hm5 hB hV1 f0 f1 f2 f3 f4 lB1
  have HM6 : Hid (Below w.heap.size w ((w5.alloc (.cells #[.int .i64 0, .int .i64 0, .int .i64 0, .int .i64 0, .int .i64 0, .int .i64 0, .int .i64 0, .int .i64 0, .int .i64 0, .int .i64 0, .int .i64 0, .int .i64 0, .int .i64 0, .int .i64 0] 32)).setRow w5.heap.size (stL t).toArray)) := HM5.out.trans (newRow_below.mono HM5.out.size)
  go_upto_region 5 with (refine wpList_store_row rfl _ _ _ rfl w5.heap.size (stL t).toArray rfl rfl 32 #[.int .i64 0, .int .i64 0, .int .i64 0, .int .i64 0, .int .i64 0, .int .i64 0, .int .i64 0, .int .i64 0, .int .i64 0, .int .i64 0, .int .i64 0, .int .i64 0, .int .i64 0, .int .i64 0] (Blk.new w5 _ _) (stL_info t) rfl (stL_one t) ?_)
  generalize ((w5.alloc (.cells #[.int .i64 0, .int .i64 0, .int .i64 0, .int .i64 0, .int .i64 0, .int .i64 0, .int .i64 0, .int .i64 0, .int .i64 0, .int .i64 0, .int .i64 0, .int .i64 0, .int .i64 0, .int .i64 0] 32)).setRow w5.heap.size (stL t).toArray) = w6 at *
  by_cases h0 : er1 = 0
  · subst h0
    go_wp2
    go_ret
    exact ⟨rfl, HM6.out⟩
  · have g0 : (er1 != 0) = true := by simpa using h0
    go_wp2
    go_ret
    exact ⟨rfl, HM6.out⟩
theorem verdictBounds_walk (a0_0 a0_1 a0_2 a0_3 a0_4 : Int) (a1 : Int) (a2 : Int) (a3 : Option Addr) (len3 cap3 : Nat) (z3 : List Int) (a4 : Int) (a5 : Int) (w : World) (b0_0 : InI64 a0_0) (b0_1 : InI64 a0_1) (b0_2 : InI64 a0_2) (b0_3 : InI64 a0_3) (b0_4 : InI64 a0_4) (b1 : InI64 a1) (b2 : InI64 a2) (f3 : IsFlat w a3 len3 cap3 2 z3) (r3 : cap3 * 16 ≤ 140737488351232) (b4 : InI64 a4) (b5 : InI64 a5) (s3 : len3 ≤ 1048576) :
    Calls Try.prog 8 #[.agg #[.int .i64 a0_0, .int .i64 a0_1, .int .i64 a0_2, .int .i64 a0_3, .int .i64 a0_4], .int .i64 a1, .int .i64 a2, .slice a3 len3 cap3, .int .i64 a4, .int .i64 a5] w fun e w' => e = .returned (.bool true) ∧ Below w.heap.size w w' := by
  have hf := f3.rowC (by omega)
  generalize (fun k j => z3.getD (k * 2 + j) 0) = f at hf
  clear f3 b0_0 b0_1 b0_2 b0_3 b0_4 b1 b2 b4 b5
  by_cases hK : dKind a0_0 ∧ dKind a0_1 ∧ dNums a0_2 a0_3 a0_4
  · obtain ⟨k0, k1, hn⟩ := hK
    have hnn := hn
    obtain ⟨n1, n2, n3, n4, n5, n6⟩ := hnn
    obtain ⟨rate, rfl⟩ : ∃ n : Nat, a0_2 = n := ⟨a0_2.toNat, by omega⟩
    obtain ⟨buf, rfl⟩ : ∃ n : Nat, a0_3 = n := ⟨a0_3.toNat, by omega⟩
    obtain ⟨J, rfl⟩ : ∃ n : Nat, a0_4 = n := ⟨a0_4.toNat, by omega⟩
    exact verdictBounds_ok a0_0 a0_1 rate buf J a1 a2 a3 len3 cap3 f a4 a5 w (Lib.hid ⟨k0, k1, hn⟩) hf s3
  · obtain ⟨er, HE, hcw⟩ := wrong_er a0_0 a0_1 a0_2 a0_3 a0_4 hK
    exact verdictBounds_w a0_0 a0_1 a0_2 a0_3 a0_4 a1 a2 a3 len3 cap3 a4 a5 w er HE (Lib.hid hcw)
end Go.Proofs.Ytehlgomjgmabeaa
