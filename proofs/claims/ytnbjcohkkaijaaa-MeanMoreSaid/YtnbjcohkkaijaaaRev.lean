/- slices.Reverse at []int. Conditions: at least one number. -/
import Derived.Test.YtnbjcohkkaijaaaNum
import Derived.Test.YtnbjcohkkaijaaaTwo
set_option linter.unusedVariables false
set_option linter.unusedSimpArgs false
namespace Go.Proofs.Ytnbjcohkkaijaaa
open Go.RowKit Go.Tide
set_option linter.unusedVariables false
set_option linter.unusedSimpArgs false
/-- The first p and the last p are changed over. -/
def revd (m p : Nat) (x : Nat → Int) (k : Nat) : Int := if k < p ∨ m < k + p + 1 then x (m - 1 - k) else x k
set_option maxRecDepth 20000 in
set_option maxHeartbeats 2000000 in
theorem reverse_any (B g off m c : Nat) (x : Nat → Int) (w : World) (hm : 1 ≤ m ∧ m ≤ 1048576) (hc : ∀ k, k < m → w.cell? ⟨g, off + k, none⟩ = some (.int .i64 (x k))) (hf : ∀ k, w.frozen? ⟨g, k, none⟩ = false) (hB : B ≤ g) (hg : g < w.heap.size) :
    Calls Try.prog 19 #[.slice (some ⟨g, off, none⟩) m c] w fun e w' => e = .returned (.tuple #[]) ∧ (∀ k, k < m → w'.cell? ⟨g, off + k, none⟩ = some (.int .i64 (x (m - 1 - k)))) ∧ Below B w w' ∧ g < w'.heap.size := by
  have HC := Lib.hid hc
  have HF := Lib.hid hf
  obtain ⟨hm1, hm2⟩ := hm
  clear hc hf
  have i0 : IntKind.i64.wrap ((m : Int) - 1) = (m : Int) - 1 := IntWalk.i64_in _ (by omega)
  go_enter Try.func19, Try.ntmps19
  go_wp2_with fail
  go_loopw [2, 3] (fun i j wr => ∃ p : Nat, i = .int .i64 p ∧ j = .int .i64 ((m : Int) - 1 - p) ∧ 2 * p ≤ m ∧ Hid (∀ k, k < m → wr.cell? ⟨g, off + k, none⟩ = some (.int .i64 (revd m p x k))) ∧ Hid (∀ k, wr.frozen? ⟨g, k, none⟩ = false) ∧ Below B w wr ∧ g < wr.heap.size) (fun i _ _ => m - (intOf i).toNat)
  case atStart => exact ⟨0, rfl, by go_num, by omega, fun k hk => by rw [HC.out k hk]; simp [revd, show ¬ (m < k + 1) from by omega], HF, Below.refl _ _, hg⟩
  case round =>
    obtain ⟨p, rfl, rfl, hp, hcw, hfw, hbe, hgw⟩ := hrel
    by_cases hlt : (p : Int) < (m : Int) - 1 - p
    · have d1 : decide ((p : Int) < (m : Int) - 1 - p) = true := by simpa using hlt
      obtain ⟨q, hq⟩ : ∃ q : Nat, (m : Int) - 1 - p = q := ⟨m - 1 - p, by omega⟩
      have hq2 : Hid (m = q + p + 1) := by
        show m = q + p + 1
        omega
      rw [hq] at d1
      have hpq : p < q := by omega
      have hqm : q < m := by omega
      have hpm : p < m := by omega
      obtain ⟨X, hX⟩ : ∃ X, Hid (revd m p x p = X) := ⟨_, rfl⟩
      obtain ⟨Y, hY⟩ : ∃ Y, Hid (revd m p x q = Y) := ⟨_, rfl⟩
      have c1 := hcw.out p hpm
      have c2 := hcw.out q hqm
      rw [hX.out] at c1
      rw [hY.out] at c2
      have f1 := hfw.out (off + p)
      have f2 := hfw.out (off + q)
      have f3 : (wr.setCell ⟨g, off + p, none⟩ (.int .i64 Y)).frozen? ⟨g, off + q, none⟩ = false := by
        rw [World.frozen?_setCell]
        exact f2
      have c3 : (wr.setCell ⟨g, off + p, none⟩ (.int .i64 Y)).cell? ⟨g, off + q, none⟩ = some (.int .i64 Y) := by
        rw [World.cell?_setCell_other _ _ _ _ (by first | (simp; done) | (simp; omega))]
        exact c2
      have k0 : (0 : Int) ≤ (p : Int) := by omega
      have k1 : (p : Int) < (m : Int) := by omega
      have k2 : (0 : Int) ≤ (q : Int) := by omega
      have k3 : (q : Int) < (m : Int) := by omega
      have i1 : IntKind.i64.wrap ((p : Int) + 1) = (p : Int) + 1 := IntWalk.i64_in _ (by omega)
      have i2 : IntKind.i64.wrap ((q : Int) - 1) = (q : Int) - 1 := IntWalk.i64_in _ (by omega)
      have hfin : Hid (∀ k, k < m → ((wr.setCell ⟨g, off + p, none⟩ (.int .i64 Y)).setCell ⟨g, off + q, none⟩ (.int .i64 X)).cell? ⟨g, off + k, none⟩ = some (.int .i64 (revd m (p + 1) x k))) := fun k hk => by
        have hm' := hq2.out
        by_cases e1 : k = q
        · subst e1
          rw [World.cell?_setCell_same _ _ _ c3, ← hX.out]
          unfold revd
          rw [if_neg (by omega), if_pos (by omega), show m - 1 - k = p from by omega]
        · rw [World.cell?_setCell_other _ _ _ _ (by first | (simp; done) | (simp; omega))]
          by_cases e2 : k = p
          · subst e2
            rw [World.cell?_setCell_same _ _ _ c1, ← hY.out]
            unfold revd
            rw [if_neg (by omega), if_pos (by omega), show m - 1 - k = q from by omega]
          · rw [World.cell?_setCell_other _ _ _ _ (by first | (simp; done) | (simp; omega)), hcw.out k hk]
            unfold revd
            by_cases e3 : k < p ∨ m < k + p + 1
            · rw [if_pos e3, if_pos (by omega)]
            · rw [if_neg e3, if_neg (by omega)]
      have hfz : Hid (∀ k, ((wr.setCell ⟨g, off + p, none⟩ (.int .i64 Y)).setCell ⟨g, off + q, none⟩ (.int .i64 X)).frozen? ⟨g, k, none⟩ = false) := fun k => by
        rw [World.frozen?_setCell, World.frozen?_setCell]
        exact hfw.out k
      have hbz := (hbe.setCell (p := ⟨g, off + p, none⟩) hB (.int .i64 Y)).setCell (p := ⟨g, off + q, none⟩) hB (.int .i64 X)
      clear hcw hfw hlt
      rw [hq]
      go_wp2_with fail
      refine wp_region_two (S := (fun w' => w'.cell? ⟨g, off + p, none⟩ = some (.int .i64 X) ∧ w'.cell? ⟨g, off + q, none⟩ = some (.int .i64 Y))) 13 (by kernel_rfl) ?_ (fun hHeld => ?_)
      · exact ⟨c1, c2⟩
      refine two_take (i := 0) (v := ?_) rfl (by kernel_rfl) (by kernel_rfl) (fun _ _ _ h => h) (Or.inl ⟨by rfl, ?_⟩) (by assumption) ?_
      rotate_left 1
      · intro w' hSw
        have hl0 := hSw.1
        have hl1 := hSw.2
        go_simp
        try (with_reducible rfl)
      try simp only [List.getElem_toArray, List.getElem_cons_zero, List.getElem_cons_succ, Act.put, List.setIfInBounds_toArray, List.set_cons_zero, List.set_cons_succ]
      refine two_take (i := 1) (v := ?_) rfl (by kernel_rfl) (by kernel_rfl) (fun _ _ _ h => h) (Or.inl ⟨by rfl, ?_⟩) (by assumption) ?_
      rotate_left 1
      · intro w' hSw
        have hl0 := hSw.1
        have hl1 := hSw.2
        go_simp
        try (with_reducible rfl)
      try simp only [List.getElem_toArray, List.getElem_cons_zero, List.getElem_cons_succ, Act.put, List.setIfInBounds_toArray, List.set_cons_zero, List.set_cons_succ]
      refine two_pure (i := 2) (v := ?_) rfl (by kernel_rfl) (by kernel_rfl) (fun _ _ _ h => h) (Or.inl ⟨by rfl, ?_⟩) (by assumption) ?_
      rotate_left 1
      · intro w'
        go_simp
        try (with_reducible rfl)
      try simp only [List.getElem_toArray, List.getElem_cons_zero, List.getElem_cons_succ, Act.put, List.setIfInBounds_toArray, List.set_cons_zero, List.set_cons_succ]
      refine two_pure (i := 3) (v := ?_) rfl (by kernel_rfl) (by kernel_rfl) (fun _ _ _ h => h) (Or.inl ⟨by rfl, ?_⟩) (by assumption) ?_
      rotate_left 1
      · intro w'
        go_simp
        try (with_reducible rfl)
      try simp only [List.getElem_toArray, List.getElem_cons_zero, List.getElem_cons_succ, Act.put, List.setIfInBounds_toArray, List.set_cons_zero, List.set_cons_succ]
      refine two_take (i := 4) (v := ?_) rfl (by kernel_rfl) (by kernel_rfl) (fun _ _ _ h => h) (Or.inl ⟨by rfl, ?_⟩) (by assumption) ?_
      rotate_left 1
      · intro w' hSw
        have hl0 := hSw.1
        have hl1 := hSw.2
        go_simp
        try (with_reducible rfl)
      try simp only [List.getElem_toArray, List.getElem_cons_zero, List.getElem_cons_succ, Act.put, List.setIfInBounds_toArray, List.set_cons_zero, List.set_cons_succ]
      refine two_take (i := 5) (v := ?_) rfl (by kernel_rfl) (by kernel_rfl) (fun _ _ _ h => h) (Or.inl ⟨by rfl, ?_⟩) (by assumption) ?_
      rotate_left 1
      · intro w' hSw
        have hl0 := hSw.1
        have hl1 := hSw.2
        go_simp
        try (with_reducible rfl)
      try simp only [List.getElem_toArray, List.getElem_cons_zero, List.getElem_cons_succ, Act.put, List.setIfInBounds_toArray, List.set_cons_zero, List.set_cons_succ]
      refine two_take (i := 6) (v := ?_) rfl (by kernel_rfl) (by kernel_rfl) (fun _ _ _ h => h) (Or.inl ⟨by rfl, ?_⟩) (by assumption) ?_
      rotate_left 1
      · intro w' hSw
        have hl0 := hSw.1
        have hl1 := hSw.2
        go_simp
        try (with_reducible rfl)
      try simp only [List.getElem_toArray, List.getElem_cons_zero, List.getElem_cons_succ, Act.put, List.setIfInBounds_toArray, List.set_cons_zero, List.set_cons_succ]
      refine two_take (i := 7) (v := ?_) rfl (by kernel_rfl) (by kernel_rfl) (fun _ _ _ h => h) (Or.inl ⟨by rfl, ?_⟩) (by assumption) ?_
      rotate_left 1
      · intro w' hSw
        have hl0 := hSw.1
        have hl1 := hSw.2
        go_simp
        try (with_reducible rfl)
      try simp only [List.getElem_toArray, List.getElem_cons_zero, List.getElem_cons_succ, Act.put, List.setIfInBounds_toArray, List.set_cons_zero, List.set_cons_succ]
      refine two_take (i := 8) (v := ?_) rfl (by kernel_rfl) (by kernel_rfl) (fun _ _ _ h => h) (Or.inl ⟨by rfl, ?_⟩) (by assumption) ?_
      rotate_left 1
      · intro w' hSw
        have hl0 := hSw.1
        have hl1 := hSw.2
        go_simp
        try (with_reducible rfl)
      try simp only [List.getElem_toArray, List.getElem_cons_zero, List.getElem_cons_succ, Act.put, List.setIfInBounds_toArray, List.set_cons_zero, List.set_cons_succ]
      refine two_take (i := 9) (v := ?_) rfl (by kernel_rfl) (by kernel_rfl) (fun _ _ _ h => h) (Or.inl ⟨by rfl, ?_⟩) (by assumption) ?_
      rotate_left 1
      · intro w' hSw
        have hl0 := hSw.1
        have hl1 := hSw.2
        go_simp
        try (with_reducible rfl)
      try simp only [List.getElem_toArray, List.getElem_cons_zero, List.getElem_cons_succ, Act.put, List.setIfInBounds_toArray, List.set_cons_zero, List.set_cons_succ]
      refine two_take (i := 10) (v := ?_) rfl (by kernel_rfl) (by kernel_rfl) (fun _ _ _ h => h) (Or.inl ⟨by rfl, ?_⟩) (by assumption) ?_
      rotate_left 1
      · intro w' hSw
        have hl0 := hSw.1
        have hl1 := hSw.2
        go_simp
        try (with_reducible rfl)
      try simp only [List.getElem_toArray, List.getElem_cons_zero, List.getElem_cons_succ, Act.put, List.setIfInBounds_toArray, List.set_cons_zero, List.set_cons_succ]
      refine two_take (i := 11) (v := ?_) rfl (by kernel_rfl) (by kernel_rfl) (fun _ _ _ h => h) (Or.inl ⟨by rfl, ?_⟩) (by assumption) ?_
      rotate_left 1
      · intro w' hSw
        have hl0 := hSw.1
        have hl1 := hSw.2
        go_simp
        try (with_reducible rfl)
      try simp only [List.getElem_toArray, List.getElem_cons_zero, List.getElem_cons_succ, Act.put, List.setIfInBounds_toArray, List.set_cons_zero, List.set_cons_succ]
      refine two_take (i := 12) (v := ?_) rfl (by kernel_rfl) (by kernel_rfl) (fun _ _ _ h => h) (Or.inl ⟨by rfl, ?_⟩) (by assumption) ?_
      rotate_left 1
      · intro w' hSw
        have hl0 := hSw.1
        have hl1 := hSw.2
        go_simp
        try (with_reducible rfl)
      try simp only [List.getElem_toArray, List.getElem_cons_zero, List.getElem_cons_succ, Act.put, List.setIfInBounds_toArray, List.set_cons_zero, List.set_cons_succ]
      refine two_ready (rs := [13]) (by kernel_rfl) (by kernel_rfl) (by simp) ?_
      refine AllReadyB.last rfl (fun K hK => ?_)
      go_simp
      refine hK.out _ _ ?_
      clear hK K
      try simp only [List.getElem_toArray, List.getElem_cons_zero, List.getElem_cons_succ, Act.put, List.setIfInBounds_toArray, List.set_cons_zero, List.set_cons_succ]
      refine two_late (by kernel_rfl) ?_
      refine wpAny_take (i := 14) (v := ?_) rfl (by kernel_rfl) (by kernel_rfl) (by kernel_rfl) (fun _ _ _ h => h) (Or.inl ⟨by rfl, ?_⟩) ?_
      rotate_left 1
      · intro w'
        go_simp
        try (with_reducible rfl)
      try simp only [List.getElem_toArray, List.getElem_cons_zero, List.getElem_cons_succ, Act.put, List.setIfInBounds_toArray, List.set_cons_zero, List.set_cons_succ]
      refine wpAny_ready (rs := [15]) (by kernel_rfl) (by simp) ?_
      refine AllReady.cons' rfl (fun K hK => ?_) AllReady.nil
      go_simp
      refine hK.out _ _ ?_
      clear hK K
      try simp only [List.getElem_toArray, List.getElem_cons_zero, List.getElem_cons_succ, Act.put, List.setIfInBounds_toArray, List.set_cons_zero, List.set_cons_succ]
      refine wpAny_done (by kernel_rfl) ?_ _
      go_wp2
      go_roundw
      case rel => exact ⟨p + 1, by go_num, by rw [show (m : Int) - 1 - ((p + 1 : Nat) : Int) = (q : Int) - 1 from by have := hq2.out; omega], by have := hq2.out; omega, hfin, hfz, hbz.drewN 1, by simpa [World.setCell] using hgw⟩
      case measure => simp [intOf]; omega
    · have d1 : decide ((p : Int) < (m : Int) - 1 - p) = false := by simpa using hlt
      have HE : Hid (∀ k, k < m → wr.cell? ⟨g, off + k, none⟩ = some (.int .i64 (x (m - 1 - k)))) := fun k hk => by
        rw [hcw.out k hk]
        unfold revd
        by_cases e3 : k < p ∨ m < k + p + 1
        · rw [if_pos e3]
        · rw [if_neg e3, show m - 1 - k = k from by omega]
      go_wp2
      go_end0
      exact ⟨rfl, HE.out, hbe, hgw⟩
end Go.Proofs.Ytnbjcohkkaijaaa
