/- slices.Clone at [][2]int; rows behind rows. Conditions: lengths that fit. -/
import Derived.Test.YtehlgomjgmabeaaVdTb
import Derived.Lib.SliceRun
set_option linter.unusedVariables false
set_option linter.unusedSimpArgs false
namespace Go.Proofs.Ytehlgomjgmabeaa
open Go.RowKit Go.Shelf Go.Tide
set_option linter.unusedVariables false
set_option linter.unusedSimpArgs false
theorem cellsC_add (C n : Nat) (F : Nat → Nat → Int) : ∀ m, cellsC C (n + m) F = cellsC C n F ++ cellsC C m (fun q => F (n + q)) := by
  intro m
  induction m with
  | zero => simp [cellsC]
  | succ m ih => rw [← Nat.add_assoc, cellsC_succ, cellsC_succ, ih, List.append_assoc]
theorem newsC {w : World} {C b off n : Nat} {f : Nat → Nat → Int} (hC : 0 < C) (hf : RowC w C (some ⟨b, off, none⟩) n f) (i : Nat) (u : Value) (hi : (cellsC C n f)[i]? = some u) : w.cell? ⟨b, off + i, none⟩ = some u := by
  have hl : i < n * C := by
    have := (List.getElem?_eq_some_iff.1 hi).1
    rwa [cellsC_length] at this
  obtain ⟨k, j, hj, rfl⟩ : ∃ k r, r < C ∧ i = k * C + r := ⟨i / C, i % C, Nat.mod_lt _ hC, by rw [Nat.mul_comm]; exact (Nat.div_add_mod i C).symm⟩
  have hk : k < n := by
    rcases Nat.lt_or_ge k n with h | h
    · exact h
    · have := Nat.mul_le_mul_right C h
      omega
  obtain ⟨b', off', e, hb, hc⟩ := hf (by omega)
  injection e with e
  injection e with e1 e2
  subst e1 e2
  rw [cellsC_get f hk hj] at hi
  rw [hc k j hk hj]
  exact hi
set_option maxHeartbeats 400000 in
theorem clone2_nil (c : Nat) (w : World) :
    Calls Try.prog 25 #[.slice none 0 c] w fun e w' => e = .returned (.slice none 0 0) ∧ w = w' := by
  have hq := fun (wx : World) => Lib.run_eql_slice_nil (P := Try.prog) wx 25 22 none 0 c 0 0 Try.underlying25
  go_enter Try.func25, Try.ntmps25
  go_wp2
  go_ret
  exact ⟨rfl, rfl⟩
set_option maxHeartbeats 400000 in
theorem clone2_some (p : Addr) (n c : Nat) (f : Nat → Nat → Int) (w : World) (hp : 0 < n → ∃ b off, p = ⟨b, off, none⟩) (hf : RowC w 2 (some p) n f) (hn : n ≤ 1048576) :
    Calls Try.prog 25 #[.slice (some p) n c] w fun e w' => ∃ v, e = .returned v ∧ w'.ownsRow w.heap.size 22 2 v n (cellsC 2 n f) ∧ Below w.heap.size w w' := by
  obtain ⟨i0_, hi, hz0, hz1, hz2⟩ := info_parts twoInfo
  have hq := fun (wx : World) => Lib.run_eql_slice_nil (P := Try.prog) wx 25 22 (some p) n c 0 0 Try.underlying25
  have hnews : ∀ (o : Obj) (j : Nat) (u : Value), (cellsC 2 n f)[j]? = some u → (w.alloc o).cell? (p.add j) = some u := fun o j u hj => by
    have h0 : 0 < n := by
      rcases Nat.eq_zero_or_pos n with h | h
      · subst h; simp [cellsC] at hj
      · exact h
    obtain ⟨b, off, rfl⟩ := hp h0
    rw [Addr.add_lit]
    exact newsC (by omega) (hf.alloc o) j u hj
  have HN := Lib.hid hnews
  clear hnews
  have hown0 : (w.alloc (.cells #[] 22)).ownsRow w.heap.size 22 2 (.slice (some ⟨w.heap.size, 0, none⟩) 0 0) 0 [] := World.ownsRow_lit w #[] 0 (Nat.le_refl _) (Nat.zero_le _) (by simp)
  go_enter Try.func25, Try.ntmps25
  go_wp2_with (at_builtin; refine wpList_append_own _ rfl (.tmp 5) (.tmp 6) 25 rfl w.heap.size 22 i0_ (.agg #[.int .i64 0, .int .i64 0]) 2 16 Try.underlying25 hi hz0 hz1 hz2 rfl (by decide) (.slice (some ⟨w.heap.size, 0, none⟩) 0 0) 0 [] rfl hown0 p n c (cellsC 2 n f) rfl (cellsC_length 2 n f) (HN.out _) (cellsC_one 2 n f) (by simp only [maxLen]; omega) (by omega) (by simp) ?_; intro v' w5 hown5 hgrow5 hnil; clear hnil; rw [Nat.zero_add, List.nil_append] at hown5)
  have hbe : Below w.heap.size w w5 := ((Below.refl _ _).alloc (Nat.le_refl _) _).grown hgrow5 (by simp) fun k hk => by
    have : w.heap.size = k := by simpa [Value.ownBlock] using hk
    omega
  go_ret
  exact ⟨v', rfl, hown5, hbe⟩
theorem clone2_any (a : Option Addr) (n c : Nat) (f : Nat → Nat → Int) (w : World) (hf : RowC w 2 a n f) (hn : n ≤ 1048576) :
    Calls Try.prog 25 #[.slice a n c] w fun e w' => ∃ v, e = .returned v ∧ w'.ownsRow w.heap.size 22 2 v n (cellsC 2 n f) ∧ Below w.heap.size w w' := by
  cases a with
  | none =>
    have h0 : n = 0 := by
      rcases Nat.eq_zero_or_pos n with h | h
      · exact h
      · obtain ⟨b, off, e, _⟩ := hf h
        cases e
    subst h0
    refine (clone2_nil c w).mono ?_
    rintro e w' ⟨rfl, rfl⟩
    exact ⟨_, rfl, by simpa [cellsC] using World.ownsRow_nil _ _ _ _, Below.refl _ _⟩
  | some p =>
    refine clone2_some p n c f w (fun h0 => ?_) hf hn
    obtain ⟨b, off, e, _⟩ := hf h0
    injection e with e
    exact ⟨b, off, e⟩
end Go.Proofs.Ytehlgomjgmabeaa
