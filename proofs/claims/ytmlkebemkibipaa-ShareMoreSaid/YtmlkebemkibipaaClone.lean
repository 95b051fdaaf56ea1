/- slices.Clone at []int, of slices that hold something: a row of its own with the same numbers. Conditions: lengths that fit. -/
import Derived.Test.YtmlkebemkibipaaKitC
import Derived.Lib.SliceRun
set_option linter.unusedVariables false
set_option linter.unusedSimpArgs false
namespace Go.Proofs.Ytmlkebemkibipaa
open Go.RowKit Go.Tide
set_option linter.unusedVariables false
set_option linter.unusedSimpArgs false

theorem cellsOf_one (n : Nat) (f : Nat → Int) : ∀ u ∈ cellsOf n f, u.oneCell' = true := by
  intro u hu
  simp only [cellsOf, List.mem_map] at hu
  obtain ⟨i, _, rfl⟩ := hu
  rfl
theorem clone_news {w : World} {b off n : Nat} {f : Nat → Int} (hf : Row w (some ⟨b, off, none⟩) n f) (o : Obj) (j : Nat) (u : Value) (hj : (cellsOf n f)[j]? = some u) : (w.alloc o).cell? ⟨b, off + j, none⟩ = some u := by
  have hl : j < n := by
    have := (List.getElem?_eq_some_iff.1 hj).1
    rwa [cellsOf_length] at this
  obtain ⟨b', off', e, hb, hc⟩ := hf.alloc o (by omega)
  injection e with e
  injection e with e1 e2
  subst e1 e2
  rw [cellsOf_get f hl] at hj
  rw [hc j hl]
  exact hj
theorem clone_newsC {w : World} {C b off n : Nat} {f : Nat → Nat → Int} (hC : 0 < C) (hf : RowC w C (some ⟨b, off, none⟩) n f) (o : Obj) (i : Nat) (u : Value) (hi : (cellsC C n f)[i]? = some u) : (w.alloc o).cell? ⟨b, off + i, none⟩ = some u := by
  have hl : i < n * C := by
    have := (List.getElem?_eq_some_iff.1 hi).1
    rwa [cellsC_length] at this
  obtain ⟨k, j, hj, rfl⟩ : ∃ k r, r < C ∧ i = k * C + r := ⟨i / C, i % C, Nat.mod_lt _ hC, by rw [Nat.mul_comm]; exact (Nat.div_add_mod i C).symm⟩
  have hk : k < n := by
    rcases Nat.lt_or_ge k n with h | h
    · exact h
    · have := Nat.mul_le_mul_right C h
      omega
  obtain ⟨b', off', e, hb, hc⟩ := hf.alloc o (by omega)
  injection e with e
  injection e with e1 e2
  subst e1 e2
  rw [cellsC_get f hk hj] at hi
  rw [hc k j hk hj]
  exact hi

set_option maxHeartbeats 400000 in
theorem clone_any (b off : Nat) (n c : Nat) (f : Nat → Int) (w : World) (hf : Row w (some ⟨b, off, none⟩) n f) (hn : n ≤ 8796093022208) (h0 : 0 < n) :
    Calls Try.prog 30 #[.slice (some ⟨b, off, none⟩) n c] w fun e w' => ∃ g cap, e = .returned (.slice (some ⟨g, 0, none⟩) n cap) ∧ n ≤ cap ∧ w'.ownsRow w.heap.size 3 1 (.slice (some ⟨g, 0, none⟩) n cap) n (cellsOf n f) ∧ Below w.heap.size w w' := by
  obtain ⟨i0_, hi, hz0, hz1, hz2⟩ := info_parts intInfo
  have hq := fun (wx : World) => Lib.run_eql_slice_nil (P := Try.prog) wx 22 3 (some ⟨b, off, none⟩) n c 0 0 Try.underlying22
  have hnews : ∀ (o : Obj) (j : Nat) (u : Value), (cellsOf n f)[j]? = some u → (w.alloc o).cell? ((⟨b, off, none⟩ : Addr).add j) = some u := fun o j u hj => by
    rw [Addr.add_lit]
    exact clone_news hf o j u hj
  have HN := Lib.hid hnews
  clear hnews
  have hown0 : (w.alloc (.cells #[] 3)).ownsRow w.heap.size 3 1 (.slice (some ⟨w.heap.size, 0, none⟩) 0 0) 0 [] := World.ownsRow_lit w #[] 0 (Nat.le_refl _) (Nat.zero_le _) (by simp)
  go_enter Try.func30, Try.ntmps30
  go_wp2_with (at_builtin; refine wpList_append_own _ rfl (.tmp 5) (.tmp 6) 22 rfl w.heap.size 3 i0_ (.int .i64 0) 1 8 Try.underlying22 hi hz0 hz1 hz2 rfl (by decide) (.slice (some ⟨w.heap.size, 0, none⟩) 0 0) 0 [] rfl hown0 ⟨b, off, none⟩ n c (cellsOf n f) rfl (by rw [cellsOf_length, Nat.mul_one]) (HN.out _) (cellsOf_one n f) (by simp only [maxLen]; omega) (by omega) (by simp) ?_; intro v' w5 hown5 hgrow5 hnil; clear hnil; rw [Nat.zero_add, List.nil_append] at hown5)
  have hbe : Below w.heap.size w w5 := ((Below.refl _ _).alloc (Nat.le_refl _) _).grown hgrow5 (by simp) fun k hk => by
    have : w.heap.size = k := by simpa [Value.ownBlock] using hk
    omega
  obtain ⟨g, cap, rfl, _, _⟩ := hown5.form h0
  have hcap : n ≤ cap := by
    obtain ⟨a', c', he, hc⟩ := own_sliceC hown5
    injection he with h1 h2 h3
    omega
  go_ret
  exact ⟨g, cap, rfl, hcap, hown5, hbe⟩

end Go.Proofs.Ytmlkebemkibipaa
