/- What share.Even answers, for every input. Conditions: lengths within the form's reach. -/
import Derived.Test.YtmlkebemkibipaaShare
set_option linter.unusedVariables false
set_option linter.unusedSimpArgs false
namespace Go.Tide
/-- The sum of squares. -/
def sqTo (x : Nat → Int) (k : Nat) : Int := isum (fun j => x j * x j) k
theorem sq_bounds {n : Nat} {x : Nat → Int} (h : SRight n x) : ∀ k, k ≤ n → 0 ≤ sqTo x k ∧ sqTo x k ≤ 329853488332800 := by
  intro k hk
  have h1 := isum_bd (n := n) (x := fun j => x j * x j) (M := 1099511627776) (fun j hj => by
    have := h.2 j hj
    exact ⟨Int.mul_nonneg this.1 this.1, by
      have h2 : x j * x j ≤ 1048576 * 1048576 := Int.mul_le_mul this.2 this.2 this.1 (by omega)
      omega⟩) k hk
  have h2 := h.1
  unfold sqTo
  omega
theorem sum_bounds {n : Nat} {x : Nat → Int} (h : SRight n x) : ∀ k, k ≤ n → 0 ≤ isum x k ∧ isum x k ≤ 314572800 := by
  intro k hk
  have h1 := isum_bd (n := n) (x := x) (M := 1048576) h.2 k hk
  have h2 := h.1
  omega
theorem frac_facts (A B : Nat) (hA : 0 < A) : ∃ (G : Nat) (X Y : Int), Nat.gcd A B = G ∧ (A : Int) / (G : Int) = X ∧ (B : Int) / (G : Int) = Y ∧ 0 < G ∧ 0 ≤ X ∧ X ≤ (A : Int) ∧ 0 ≤ Y ∧ Y ≤ (B : Int) ∧ (A : Int).tdiv (G : Int) = X ∧ (B : Int).tdiv (G : Int) = Y := by
  have hg := Nat.gcd_pos_of_pos_left B hA
  refine ⟨_, _, _, rfl, rfl, rfl, hg, ?_⟩
  generalize Nat.gcd A B = G at *
  exact ⟨Int.ediv_nonneg (Int.natCast_nonneg _) (Int.natCast_nonneg _), Int.ediv_le_self _ (Int.natCast_nonneg _), Int.ediv_nonneg (Int.natCast_nonneg _) (Int.natCast_nonneg _), Int.ediv_le_self _ (Int.natCast_nonneg _), Int.tdiv_eq_ediv_of_nonneg (Int.natCast_nonneg _), Int.tdiv_eq_ediv_of_nonneg (Int.natCast_nonneg _)⟩
end Go.Tide
namespace Go.Proofs.Ytmlkebemkibipaa
open Go.RowKit Go.Tide
set_option linter.unusedVariables false
set_option linter.unusedSimpArgs false

theorem wrap_small {z : Int} (h0 : 0 ≤ z) (h1 : z ≤ 98956046499840000) : IntKind.i64.wrap z = z := IntWalk.i64_in _ (by omega)
theorem wrap_small2 {z : Int} (h0 : 0 ≤ z) (h1 : z ≤ 98956046499840000) : wrap64 z = z := IntWalk.wrap64_in _ (by omega)

set_option maxHeartbeats 1000000 in
theorem even_any (a : Option Addr) (n c : Nat) (x : Nat → Int) (w : World) (hx : Row w a n x) (h : SRight n x) :
    Calls Try.prog 31 #[.slice a n c] w fun e w' => ((isum x n = 0 ∧ e = .returned (.tuple #[.agg #[.int .i64 0, .int .i64 0], .int .i64 3])) ∨
      (isum x n ≠ 0 ∧ e = .returned (.tuple #[.agg #[.int .i64 (isum x n * isum x n / (Nat.gcd (isum x n * isum x n).toNat ((n : Int) * sqTo x n).toNat : Nat)), .int .i64 ((n : Int) * sqTo x n / (Nat.gcd (isum x n * isum x n).toNat ((n : Int) * sqTo x n).toNat : Nat))], .int .i64 0]))) ∧ More w w' := by
  have E := Lib.hid (sRight_iff.2 h)
  have hn := h.1
  go_enter Try.func31, Try.ntmps31
  go_wp2_with fail
  refine (sright_any a n c x _ (by repeat (first | (with_reducible assumption) | (with_reducible exact Row.nil) | (with_reducible apply Row.drewN) | (with_reducible apply Row.drew) | (with_reducible apply Row.more) | (with_reducible apply Row.alloc))) (by omega)).mono ?_
  rintro e w1 ⟨rfl, rfl⟩
  rw [E.out]
  go_wp2_with fail
  go_loop [4, 5, 16] (fun s q i => ∃ k : Nat, i = .int .i64 k ∧ k ≤ n ∧ s = .int .i64 (isum x k) ∧ q = .int .i64 (sqTo x k)) (fun _ _ i => n - (intOf i).toNat)
  case atStart => exact ⟨0, rfl, Nat.zero_le _, rfl, rfl⟩
  case round =>
    obtain ⟨k, rfl, hk, rfl, rfl⟩ := hrel
    by_cases hlt : k < n
    · obtain ⟨b, off, xv, rfl, hb, hc, hxv⟩ := hx.at_ hlt
      have h1 := sum_bounds h k hk
      have h2 := sq_bounds h k hk
      have h3 := h.2 k hlt
      have e1 : Hid (isum x (k + 1) = isum x k + xv) := by rw [hxv.out]; rfl
      have e2 : Hid (sqTo x (k + 1) = sqTo x k + xv * xv) := by rw [hxv.out]; rfl
      rw [← hxv.out] at h3
      have h4 : 0 ≤ xv * xv := Int.mul_nonneg h3.1 h3.1
      have h5 : xv * xv ≤ 1048576 * 1048576 := Int.mul_le_mul h3.2 h3.2 h3.1 (by omega)
      generalize isum x k = S at *
      generalize sqTo x k = Q at *
      obtain ⟨P, hP⟩ : ∃ P, xv * xv = P := ⟨_, rfl⟩
      rw [hP] at h4 h5 e2
      have kw1 : IntKind.i64.wrap (S + xv) = S + xv := IntWalk.i64_in _ (by omega)
      have kw2 : IntKind.i64.wrap P = P := IntWalk.i64_in _ (by omega)
      have kx2 : wrap64 P = P := IntWalk.wrap64_in _ (by omega)
      have kw3 : IntKind.i64.wrap (Q + P) = Q + P := IntWalk.i64_in _ (by omega)
      go_wp2
      go_round
      case rel => exact ⟨k + 1, by go_num, by omega, by rw [e1.out], by rw [e2.out]⟩
      case measure => simp [intOf]; omega
    · obtain rfl : k = n := by omega
      have h1 := sum_bounds h k hk
      have h2 := sq_bounds h k hk
      by_cases hz : isum x k = 0
      · have hz2 : Hid (isum x k = 0) := hz
        rw [hz]
        clear hz
        go_wp2_with fail
        exact bodyPost_ret (v := .tuple #[.agg #[.int .i64 0, .int .i64 0], .int .i64 3]) (by simp [results, Try.results31, go_sem]) rfl ⟨.inl ⟨hz2.out, rfl⟩, (by repeat (first | (with_reducible exact More.refl _) | (with_reducible refine More.alloc ?_ _) | (with_reducible refine More.more ?_ _ _) | (with_reducible refine More.drewN ?_ _) | (with_reducible refine More.drew ?_)))⟩
      · have HZ := Lib.hid hz
        have hzb : (isum x k == 0) = false := by simpa using hz
        have h4 : 0 ≤ isum x k * isum x k := Int.mul_nonneg h1.1 h1.1
        have h5 : isum x k * isum x k ≤ 314572800 * 314572800 := Int.mul_le_mul h1.2 h1.2 h1.1 (by omega)
        have h6 : 0 ≤ (k : Int) * sqTo x k := Int.mul_nonneg (by omega) h2.1
        have h7 : (k : Int) * sqTo x k ≤ 300 * 329853488332800 := Int.mul_le_mul (by omega) h2.2 h2.1 (by omega)
        obtain ⟨A, hA⟩ : ∃ A : Nat, isum x k * isum x k = A := ⟨(isum x k * isum x k).toNat, by omega⟩
        obtain ⟨B, hB⟩ : ∃ B : Nat, (k : Int) * sqTo x k = B := ⟨((k : Int) * sqTo x k).toNat, by omega⟩
        have hAp : 0 < A := by
          rcases Nat.eq_zero_or_pos A with h0 | h0
          · rw [h0] at hA
            exact absurd (Int.mul_eq_zero.1 hA) (by intro hc; rcases hc with hc | hc <;> exact hz hc)
          · exact h0
        rw [hA] at h4 h5
        rw [hB] at h6 h7
        have HA := Lib.hid hA
        have HB := Lib.hid hB
        clear h1 h2
        obtain ⟨S, hSe⟩ : ∃ S, Hid (isum x k = S) := ⟨_, rfl⟩
        obtain ⟨Q, hQe⟩ : ∃ Q, Hid (sqTo x k = Q) := ⟨_, rfl⟩
        rw [hSe.out] at hA hzb ⊢
        rw [hQe.out] at hB ⊢
        have kw1 : IntKind.i64.wrap (A : Int) = (A : Int) := IntWalk.i64_in _ (by omega)
        have kx1 : wrap64 (A : Int) = (A : Int) := IntWalk.wrap64_in _ (by omega)
        have kw2 : IntKind.i64.wrap (B : Int) = (B : Int) := IntWalk.i64_in _ (by omega)
        have kx2 : wrap64 (B : Int) = (B : Int) := IntWalk.wrap64_in _ (by omega)
        clear hz
        obtain ⟨G, X, Y, hG, hX, hY, hg, x1, x2, y1, y2, tX, tY⟩ := frac_facts A B hAp
        have HG := Lib.hid hG
        have hXh := Lib.hid hX
        have hYh := Lib.hid hY
        have HtX := Lib.hid tX
        have HtY := Lib.hid tY
        clear hX hY hG tX tY
        have gz : ((G : Int) == 0) = false := by simp; omega
        have gz2 : (G == 0) = false := by simp; omega
        have hA64 : A ≤ 1152921504606846976 := Int.ofNat_le.1 (Int.le_trans h5 (by decide))
        have hB64 : B ≤ 1152921504606846976 := Int.ofNat_le.1 (Int.le_trans h7 (by decide))
        have gz3 : (G = 0) = False := eq_false (Nat.pos_iff_ne_zero.1 hg)
        have xb : X ≤ 98956046499840000 := Int.le_trans x2 (Int.le_trans h5 (by decide))
        have yb : Y ≤ 98956046499840000 := Int.le_trans y2 (Int.le_trans h7 (by decide))
        have kw3 := wrap_small x1 xb
        have kx3 := wrap_small2 x1 xb
        have kw4 := wrap_small y1 yb
        have kx4 := wrap_small2 y1 yb
        have tX := HtX.out
        have tY := HtY.out
        go_wp2_with fail
        refine wp_region_held_drew (S := (fun _ => True)) (by kernel_rfl) ?_ (fun hHeld => ?_)
        · exact trivial
        refine wpAnyH_take (i := 0) (v := ?_) rfl (by kernel_rfl) (by kernel_rfl) (by kernel_rfl) (fun _ _ _ h => h) (Or.inl ⟨by rfl, ?_⟩) (by assumption) ?_
        rotate_left 1
        · intro w' hSw
          (try dsimp only at hSw)
          go_simp
          try (with_reducible rfl)
        try simp only [List.getElem_toArray, List.getElem_cons_zero, List.getElem_cons_succ, Act.put, List.setIfInBounds_toArray, List.set_cons_zero, List.set_cons_succ]
        refine wpAnyH_take (i := 1) (v := ?_) rfl (by kernel_rfl) (by kernel_rfl) (by kernel_rfl) (fun _ _ _ h => h) (Or.inl ⟨by rfl, ?_⟩) (by assumption) ?_
        rotate_left 1
        · intro w' hSw
          (try dsimp only at hSw)
          go_simp
          try (with_reducible rfl)
        try simp only [List.getElem_toArray, List.getElem_cons_zero, List.getElem_cons_succ, Act.put, List.setIfInBounds_toArray, List.set_cons_zero, List.set_cons_succ]
        refine wpAnyH_take (i := 2) (v := ?_) rfl (by kernel_rfl) (by kernel_rfl) (by kernel_rfl) (fun _ _ _ h => h) (Or.inl ⟨by rfl, ?_⟩) (by assumption) ?_
        rotate_left 1
        · intro w' hSw
          (try dsimp only at hSw)
          go_simp
          try (with_reducible rfl)
        try simp only [List.getElem_toArray, List.getElem_cons_zero, List.getElem_cons_succ, Act.put, List.setIfInBounds_toArray, List.set_cons_zero, List.set_cons_succ]
        refine wpAnyH_take (i := 5) (v := ?_) rfl (by kernel_rfl) (by kernel_rfl) (by kernel_rfl) (fun _ _ _ h => h) (Or.inl ⟨by rfl, ?_⟩) (by assumption) ?_
        rotate_left 1
        · intro w' hSw
          (try dsimp only at hSw)
          go_simp
          try (with_reducible rfl)
        try simp only [List.getElem_toArray, List.getElem_cons_zero, List.getElem_cons_succ, Act.put, List.setIfInBounds_toArray, List.set_cons_zero, List.set_cons_succ]
        refine wpAnyH_take (i := 6) (v := ?_) rfl (by kernel_rfl) (by kernel_rfl) (by kernel_rfl) (fun _ _ _ h => h) (Or.inl ⟨by rfl, ?_⟩) (by assumption) ?_
        rotate_left 1
        · intro w' hSw
          (try dsimp only at hSw)
          go_simp
          try (with_reducible rfl)
        try simp only [List.getElem_toArray, List.getElem_cons_zero, List.getElem_cons_succ, Act.put, List.setIfInBounds_toArray, List.set_cons_zero, List.set_cons_succ]
        refine wpAnyH_take (i := 7) (v := ?_) rfl (by kernel_rfl) (by kernel_rfl) (by kernel_rfl) (fun _ _ _ h => h) (Or.inl ⟨by rfl, ?_⟩) (by assumption) ?_
        rotate_left 1
        · intro w' hSw
          (try dsimp only at hSw)
          go_simp
          try (with_reducible rfl)
        try simp only [List.getElem_toArray, List.getElem_cons_zero, List.getElem_cons_succ, Act.put, List.setIfInBounds_toArray, List.set_cons_zero, List.set_cons_succ]
        refine wpAnyH_ready (rs := [3]) (by kernel_rfl) (by simp) ?_
        refine AllReadyH.cons rfl (fun K hK => ?_) AllReadyH.nil
        go_simp
        go_wp2_with (refine (gcd_any A B _ hA64 hB64).mono ?_; rw [HG.out]; rintro e w' ⟨rfl, m1, rfl⟩)
        refine hK.out _ _ ?_ (fun hHeld => ?_)
        · exact trivial
        clear hK K
        refine wpAnyH_take (i := 4) (v := ?_) rfl (by kernel_rfl) (by kernel_rfl) (by kernel_rfl) (fun _ _ _ h => h) (Or.inl ⟨by rfl, ?_⟩) (by assumption) ?_
        rotate_left 1
        · intro w' hSw
          (try dsimp only at hSw)
          go_simp
          try (with_reducible rfl)
        try simp only [List.getElem_toArray, List.getElem_cons_zero, List.getElem_cons_succ, Act.put, List.setIfInBounds_toArray, List.set_cons_zero, List.set_cons_succ]
        refine wpAnyH_ready (rs := [8]) (by kernel_rfl) (by simp) ?_
        refine AllReadyH.cons rfl (fun K hK => ?_) AllReadyH.nil
        go_simp
        go_wp2_with (refine (gcd_any A B _ hA64 hB64).mono ?_; rw [HG.out]; rintro e w' ⟨rfl, m1, rfl⟩)
        refine hK.out _ _ ?_ (fun hHeld => ?_)
        · exact trivial
        clear hK K
        refine wpAnyH_take (i := 9) (v := ?_) rfl (by kernel_rfl) (by kernel_rfl) (by kernel_rfl) (fun _ _ _ h => h) (Or.inl ⟨by rfl, ?_⟩) (by assumption) ?_
        rotate_left 1
        · intro w' hSw
          (try dsimp only at hSw)
          go_simp
          try (with_reducible rfl)
        try simp only [List.getElem_toArray, List.getElem_cons_zero, List.getElem_cons_succ, Act.put, List.setIfInBounds_toArray, List.set_cons_zero, List.set_cons_succ]
        refine wpAnyH_take (i := 10) (v := ?_) rfl (by kernel_rfl) (by kernel_rfl) (by kernel_rfl) (fun _ _ _ h => h) (Or.inl ⟨by rfl, ?_⟩) (by assumption) ?_
        rotate_left 1
        · intro w' hSw
          (try dsimp only at hSw)
          go_simp
          try (with_reducible rfl)
        try simp only [List.getElem_toArray, List.getElem_cons_zero, List.getElem_cons_succ, Act.put, List.setIfInBounds_toArray, List.set_cons_zero, List.set_cons_succ]
        refine wpAnyH_ready (rs := [11]) (by kernel_rfl) (by simp) ?_
        refine AllReadyH.cons rfl (fun K hK => ?_) AllReadyH.nil
        go_simp
        refine hK.out _ _ ?_ (fun hHeld => ?_)
        · exact trivial
        clear hK K
        refine wpAnyH_take (i := 12) (v := ?_) rfl (by kernel_rfl) (by kernel_rfl) (by kernel_rfl) (fun _ _ _ h => h) (Or.inl ⟨by rfl, ?_⟩) (by assumption) ?_
        rotate_left 1
        · intro w' hSw
          (try dsimp only at hSw)
          go_simp
          try (with_reducible rfl)
        try simp only [List.getElem_toArray, List.getElem_cons_zero, List.getElem_cons_succ, Act.put, List.setIfInBounds_toArray, List.set_cons_zero, List.set_cons_succ]
        refine wpAnyH_done (by kernel_rfl) ?_ _
        go_wp2_with fail
        refine bodyPost_ret (v := .tuple #[.agg #[.int .i64 X, .int .i64 Y], .int .i64 0]) (by simp [results, Try.results31, go_sem]) rfl ⟨.inr ⟨HZ.out, ?_⟩, (by repeat (first | (with_reducible exact More.refl _) | (with_reducible refine More.alloc ?_ _) | (with_reducible refine More.more ?_ _ _) | (with_reducible refine More.drewN ?_ _) | (with_reducible refine More.drew ?_)))⟩
        rw [HA.out, HB.out, Int.toNat_natCast, Int.toNat_natCast, HG.out, hXh.out, hYh.out]
end Go.Proofs.Ytmlkebemkibipaa
