/- slices.Reverse at [][2]int. Conditions: none. -/
import Derived.Test.YtgmljgcmfooniaaGreatDoorSq
import Derived.Test.YtgmljgcmfooniaaGreatDoorKitC
import Derived.Test.YtgmljgcmfooniaaGreatDoorTwo
import Derived.IntWalk
set_option linter.unusedVariables false
set_option linter.unusedSimpArgs false
namespace Go.Proofs.YtgmljgcmfooniaaGreatDoor
open Go.RowKit Go.Tide
set_option linter.unusedVariables false
set_option linter.unusedSimpArgs false
/-- The first p and the last p are changed over. -/
def revd2 (m p : Nat) (x : Nat → Nat → Int) (k j : Nat) : Int := if k < p ∨ m < k + p + 1 then x (m - 1 - k) j else x k j
def RC2 (w : World) (g m : Nat) (x : Nat → Nat → Int) : Prop := ∀ k, k < m → w.cell? ⟨g, k * 2, none⟩ = some (.int .i64 (x k 0)) ∧ w.cell? ⟨g, k * 2 + 1, none⟩ = some (.int .i64 (x k 1))
theorem set2 {w : World} {g o : Nat} {u v v0 v1 : Value} (h0 : w.cell? ⟨g, o, none⟩ = some v0) (h1 : w.cell? ⟨g, o + 1, none⟩ = some v1) :
    ((w.setCell ⟨g, o, none⟩ u).setCell ⟨g, o + 1, none⟩ v).cell? ⟨g, o, none⟩ = some u ∧ ((w.setCell ⟨g, o, none⟩ u).setCell ⟨g, o + 1, none⟩ v).cell? ⟨g, o + 1, none⟩ = some v ∧
      ∀ i, i ≠ o → i ≠ o + 1 → ((w.setCell ⟨g, o, none⟩ u).setCell ⟨g, o + 1, none⟩ v).cell? ⟨g, i, none⟩ = w.cell? ⟨g, i, none⟩ := by
  have e1 : (w.setCell ⟨g, o, none⟩ u).cell? ⟨g, o + 1, none⟩ = some v1 := by
    rw [World.cell?_setCell_other _ _ _ _ (by first | (simp; done) | (simp; omega))]; exact h1
  refine ⟨?_, World.cell?_setCell_same _ _ _ e1, fun i a b => ?_⟩
  · rw [World.cell?_setCell_other _ _ _ _ (by first | (simp; done) | (simp; omega))]
    exact World.cell?_setCell_same _ _ _ h0
  · rw [World.cell?_setCell_other _ _ _ _ (by first | (simp; done) | (simp; omega)), World.cell?_setCell_other _ _ _ _ (by first | (simp; done) | (simp; omega))]
theorem revd2_q {m p q : Nat} {x : Nat → Nat → Int} {j : Nat} (h : m = q + p + 1) (hp : p < q) : revd2 m (p + 1) x q j = revd2 m p x p j := by
  unfold revd2
  rw [if_pos (by omega), if_neg (by omega), show m - 1 - q = p from by omega]
theorem revd2_p {m p q : Nat} {x : Nat → Nat → Int} {j : Nat} (h : m = q + p + 1) (hp : p < q) : revd2 m (p + 1) x p j = revd2 m p x q j := by
  unfold revd2
  rw [if_pos (by omega), if_neg (by omega), show m - 1 - p = q from by omega]
theorem revd2_o {m p q k : Nat} {x : Nat → Nat → Int} {j : Nat} (h : m = q + p + 1) (hk : k < m) (h1 : k ≠ q) (h2 : k ≠ p) : revd2 m (p + 1) x k j = revd2 m p x k j := by
  unfold revd2
  by_cases e : k < p ∨ m < k + p + 1
  · rw [if_pos e, if_pos (by omega)]
  · rw [if_neg e, if_neg (by omega)]
theorem revd2_e {m p k : Nat} {x : Nat → Nat → Int} {j : Nat} (h : 2 * p ≤ m) (hn : ¬ (p : Int) < (m : Int) - 1 - p) (hk : k < m) : revd2 m p x k j = x (m - 1 - k) j := by
  unfold revd2
  by_cases e : k < p ∨ m < k + p + 1
  · rw [if_pos e]
  · rw [if_neg e, show m - 1 - k = k from by omega]
theorem rev2_nil (w : World) : Calls Tryz.prog 67 #[.slice none 0 0] w fun e w' => e = .returned (.tuple #[]) ∧ w = w' := by
  have i0 : IntKind.i64.wrap ((0 : Int) - 1) = -1 := by decide
  have d0 : decide ((0 : Int) < -1) = false := by decide
  go_enter Tryz.func67, Tryz.ntmps67
  go_wp2_with fail
  go_loopw [2, 3] (fun i j wr => i = .int .i64 0 ∧ j = .int .i64 (-1) ∧ w = wr) (fun _ _ _ => 0)
  case atStart => exact ⟨rfl, by go_num, rfl⟩
  case round =>
    obtain ⟨rfl, rfl, rfl⟩ := hrel
    go_wp2
    go_end0
    exact ⟨rfl, rfl⟩
set_option maxRecDepth 20000 in
set_option maxHeartbeats 2000000 in
theorem rev2_any (B g m c : Nat) (x : Nat → Nat → Int) (w : World) (hm : 1 ≤ m ∧ m ≤ 1048576) (hc : RC2 w g m x) (hf : ∀ k, w.frozen? ⟨g, k, none⟩ = false) (hB : B ≤ g) (hg : g < w.heap.size) :
    Calls Tryz.prog 67 #[.slice (some ⟨g, 0, none⟩) m c] w fun e w' => e = .returned (.tuple #[]) ∧ RC2 w' g m (fun k => x (m - 1 - k)) ∧ Below B w w' ∧ g < w'.heap.size := by
  have HC := Lib.hid hc
  have HF := Lib.hid hf
  obtain ⟨hm1, hm2⟩ := hm
  clear hc hf
  have i0 : IntKind.i64.wrap ((m : Int) - 1) = (m : Int) - 1 := IntWalk.i64_in _ (by omega)
  go_enter Tryz.func67, Tryz.ntmps67
  go_wp2_with fail
  go_loopw [2, 3] (fun i j wr => ∃ p : Nat, i = .int .i64 p ∧ j = .int .i64 ((m : Int) - 1 - p) ∧ 2 * p ≤ m ∧ Hid (RC2 wr g m (revd2 m p x)) ∧ Hid (∀ k, wr.frozen? ⟨g, k, none⟩ = false) ∧ Below B w wr ∧ g < wr.heap.size) (fun i _ _ => m - (intOf i).toNat)
  case atStart => exact ⟨0, rfl, by go_num, by omega, fun k hk => by have h := HC.out k hk; simp [revd2, show ¬ (m < k + 1) from by omega]; exact h, HF, Below.refl _ _, hg⟩
  case round =>
    obtain ⟨p, rfl, rfl, hp, hcw, hfw, hbe, hgw⟩ := hrel
    by_cases hlt : (p : Int) < (m : Int) - 1 - p
    · have d1 : decide ((p : Int) < (m : Int) - 1 - p) = true := by simpa using hlt
      obtain ⟨q, hq⟩ : ∃ q : Nat, (m : Int) - 1 - p = q := ⟨m - 1 - p, by omega⟩
      have hq2 : Hid (m = q + p + 1) := by
        show m = q + p + 1
        omega
      rw [hq] at d1
      have hpq : p < q := by omega
      have hqm : q < m := by omega
      have hpm : p < m := by omega
      obtain ⟨X0, hX0⟩ : ∃ X, Hid (revd2 m p x p 0 = X) := ⟨_, rfl⟩
      obtain ⟨X1, hX1⟩ : ∃ X, Hid (revd2 m p x p 1 = X) := ⟨_, rfl⟩
      obtain ⟨Y0, hY0⟩ : ∃ Y, Hid (revd2 m p x q 0 = Y) := ⟨_, rfl⟩
      obtain ⟨Y1, hY1⟩ : ∃ Y, Hid (revd2 m p x q 1 = Y) := ⟨_, rfl⟩
      obtain ⟨c1, c2⟩ := hcw.out p hpm
      obtain ⟨c3, c4⟩ := hcw.out q hqm
      rw [hX0.out] at c1
      rw [hX1.out] at c2
      rw [hY0.out] at c3
      rw [hY1.out] at c4
      obtain ⟨s1, s2, s3⟩ := set2 (u := .int .i64 Y0) (v := .int .i64 Y1) c1 c2
      have c5 := (s3 (q * 2) (by omega) (by omega)).trans c3
      have c6 := (s3 (q * 2 + 1) (by omega) (by omega)).trans c4
      obtain ⟨t1, t2, t3⟩ := set2 (u := .int .i64 X0) (v := .int .i64 X1) c5 c6
      have k0 : (0 : Int) ≤ (p : Int) := by omega
      have k1 : (p : Int) < (m : Int) := by omega
      have k2 : (0 : Int) ≤ (q : Int) := by omega
      have k3 : (q : Int) < (m : Int) := by omega
      have hfin : Hid (RC2 ((((wr.setCell ⟨g, p * 2, none⟩ (.int .i64 Y0)).setCell ⟨g, p * 2 + 1, none⟩ (.int .i64 Y1)).setCell ⟨g, q * 2, none⟩ (.int .i64 X0)).setCell ⟨g, q * 2 + 1, none⟩ (.int .i64 X1)) g m (revd2 m (p + 1) x)) := fun k hk => by
        have hm' := hq2.out
        by_cases e1 : k = q
        · subst e1
          rw [t1, t2, revd2_q hm' hpq, revd2_q hm' hpq, hX0.out, hX1.out]
          exact ⟨rfl, rfl⟩
        · rw [t3 _ (by omega) (by omega), t3 _ (by omega) (by omega)]
          by_cases e2 : k = p
          · subst e2
            rw [s1, s2, revd2_p hm' hpq, revd2_p hm' hpq, hY0.out, hY1.out]
            exact ⟨rfl, rfl⟩
          · rw [s3 _ (by omega) (by omega), s3 _ (by omega) (by omega), revd2_o hm' hk e1 e2, revd2_o hm' hk e1 e2]
            exact hcw.out k hk
      have hfz : Hid (∀ k, ((((wr.setCell ⟨g, p * 2, none⟩ (.int .i64 Y0)).setCell ⟨g, p * 2 + 1, none⟩ (.int .i64 Y1)).setCell ⟨g, q * 2, none⟩ (.int .i64 X0)).setCell ⟨g, q * 2 + 1, none⟩ (.int .i64 X1)).frozen? ⟨g, k, none⟩ = false) := fun k => by
        rw [World.frozen?_setCell, World.frozen?_setCell, World.frozen?_setCell, World.frozen?_setCell]
        exact hfw.out k
      have hbz := (((hbe.setCell (p := ⟨g, p * 2, none⟩) hB (.int .i64 Y0)).setCell (p := ⟨g, p * 2 + 1, none⟩) hB (.int .i64 Y1)).setCell (p := ⟨g, q * 2, none⟩) hB (.int .i64 X0)).setCell (p := ⟨g, q * 2 + 1, none⟩) hB (.int .i64 X1)
      have f1 := hfw.out (p * 2)
      have f2 := hfw.out (p * 2 + 1)
      have f3 : ((wr.setCell ⟨g, p * 2, none⟩ (.int .i64 Y0)).setCell ⟨g, p * 2 + 1, none⟩ (.int .i64 Y1)).frozen? ⟨g, q * 2, none⟩ = false := by
        rw [World.frozen?_setCell, World.frozen?_setCell]
        exact hfw.out _
      have f4 : ((wr.setCell ⟨g, p * 2, none⟩ (.int .i64 Y0)).setCell ⟨g, p * 2 + 1, none⟩ (.int .i64 Y1)).frozen? ⟨g, q * 2 + 1, none⟩ = false := by
        rw [World.frozen?_setCell, World.frozen?_setCell]
        exact hfw.out _
      have i1 : IntKind.i64.wrap ((p : Int) + 1) = (p : Int) + 1 := IntWalk.i64_in _ (by omega)
      have i2 : IntKind.i64.wrap ((q : Int) - 1) = (q : Int) - 1 := IntWalk.i64_in _ (by omega)
      have HS3 := Lib.hid s3
      have HT3 := Lib.hid t3
      clear hcw hfw hlt s1 s2 s3 t1 t2 t3
      rw [hq]
      go_wp2_with fail
      refine wp_region_two (S := (fun w' => w'.cell? ⟨g, p * 2, none⟩ = some (.int .i64 X0) ∧ w'.cell? ⟨g, p * 2 + 1, none⟩ = some (.int .i64 X1) ∧ w'.cell? ⟨g, q * 2, none⟩ = some (.int .i64 Y0) ∧ w'.cell? ⟨g, q * 2 + 1, none⟩ = some (.int .i64 Y1))) 13 (by kernel_rfl) ?_ (fun hHeld => ?_)
      · exact ⟨c1, c2, c3, c4⟩
      refine t2 0 ?_ rfl ⟨by rfl, ?_⟩ ?_
      rotate_left 1
      · intro w' hSw
        obtain ⟨hl0, hl1, hl2, hl3⟩ := hSw
        go_simp
        try (with_reducible rfl)
      try simp only [lay]
      refine t2 1 ?_ rfl ⟨by rfl, ?_⟩ ?_
      rotate_left 1
      · intro w' hSw
        obtain ⟨hl0, hl1, hl2, hl3⟩ := hSw
        go_simp
        try (with_reducible rfl)
      try simp only [lay]
      refine p20 2 rfl ?_; try simp only [lay]
      refine p20 3 rfl ?_; try simp only [lay]
      refine t2 4 ?_ rfl ⟨by rfl, ?_⟩ ?_
      rotate_left 1
      · intro w' hSw
        obtain ⟨hl0, hl1, hl2, hl3⟩ := hSw
        go_simp
        try (with_reducible rfl)
      try simp only [lay]
      refine t2 5 ?_ rfl ⟨by rfl, ?_⟩ ?_
      rotate_left 1
      · intro w' hSw
        obtain ⟨hl0, hl1, hl2, hl3⟩ := hSw
        go_simp
        try (with_reducible rfl)
      try simp only [lay]
      refine t2 6 ?_ rfl ⟨by rfl, ?_⟩ ?_
      rotate_left 1
      · intro w' hSw
        obtain ⟨hl0, hl1, hl2, hl3⟩ := hSw
        go_simp
        try (with_reducible rfl)
      try simp only [lay]
      refine t2 7 ?_ rfl ⟨by rfl, ?_⟩ ?_
      rotate_left 1
      · intro w' hSw
        obtain ⟨hl0, hl1, hl2, hl3⟩ := hSw
        go_simp
        try (with_reducible rfl)
      try simp only [lay]
      refine t2 8 ?_ rfl ⟨by rfl, ?_⟩ ?_
      rotate_left 1
      · intro w' hSw
        obtain ⟨hl0, hl1, hl2, hl3⟩ := hSw
        go_simp
        try (with_reducible rfl)
      try simp only [lay]
      refine t2 9 ?_ rfl ⟨by rfl, ?_⟩ ?_
      rotate_left 1
      · intro w' hSw
        obtain ⟨hl0, hl1, hl2, hl3⟩ := hSw
        go_simp
        try (with_reducible rfl)
      try simp only [lay]
      refine t2 10 ?_ rfl ⟨by rfl, ?_⟩ ?_
      rotate_left 1
      · intro w' hSw
        obtain ⟨hl0, hl1, hl2, hl3⟩ := hSw
        go_simp
        try (with_reducible rfl)
      try simp only [lay]
      refine t2 11 ?_ rfl ⟨by rfl, ?_⟩ ?_
      rotate_left 1
      · intro w' hSw
        obtain ⟨hl0, hl1, hl2, hl3⟩ := hSw
        go_simp
        try (with_reducible rfl)
      try simp only [lay]
      refine t2 12 ?_ rfl ⟨by rfl, ?_⟩ ?_
      rotate_left 1
      · intro w' hSw
        obtain ⟨hl0, hl1, hl2, hl3⟩ := hSw
        go_simp
        try (with_reducible rfl)
      try simp only [lay]
      refine two_ready (rs := [13]) (by kernel_rfl) (by kernel_rfl) (by simp) ?_
      refine AllReadyB.last rfl (fun K hK => ?_)
      go_simp
      refine hK.out _ _ ?_
      clear hK K
      try simp only [lay]
      refine two_late (by kernel_rfl) ?_
      refine la0 14 rfl ?_; try simp only [lay]
      refine wpAny_ready (rs := [15]) (by kernel_rfl) (by simp) ?_
      refine AllReady.cons' rfl (fun K hK => ?_) AllReady.nil
      go_simp
      refine hK.out _ _ ?_
      clear hK K
      try simp only [lay]
      refine wpAny_done (by kernel_rfl) ?_ _
      go_wp2
      go_roundw
      case rel => exact ⟨p + 1, by go_num, by rw [show (m : Int) - 1 - ((p + 1 : Nat) : Int) = (q : Int) - 1 from by have := hq2.out; omega], by have := hq2.out; omega, hfin, hfz, hbz.drewN 1, by simpa [World.setCell] using hgw⟩
      case measure => simp [intOf]; omega
    · have d1 : decide ((p : Int) < (m : Int) - 1 - p) = false := by simpa using hlt
      have HE : Hid (RC2 wr g m (fun k => x (m - 1 - k))) := fun k hk => by
        have h := hcw.out k hk
        rw [revd2_e hp hlt hk, revd2_e hp hlt hk] at h
        exact h
      go_wp2
      go_end0
      exact ⟨rfl, HE.out, hbe, hgw⟩
end Go.Proofs.YtgmljgcmfooniaaGreatDoor
