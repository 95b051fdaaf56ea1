/- slices.Clone at []api.Packet, of slices that hold something: a row of its own with the same numbers. Conditions: lengths that fit. -/
import Derived.Test.YtmlkebemkibipaaClone
import Derived.Test.YtmlkebemkibipaaClockB
import Derived.Lib.SliceRun
set_option linter.unusedVariables false
set_option linter.unusedSimpArgs false
namespace Go.Proofs.Ytmlkebemkibipaa
open Go.RowKit Go.Tide
set_option linter.unusedVariables false
set_option linter.unusedSimpArgs false

set_option maxHeartbeats 400000 in
theorem clonep_any (b off : Nat) (n c : Nat) (f : Nat → Nat → Int) (w : World) (hf : RowC w 2 (some ⟨b, off, none⟩) n f) (hn : n ≤ 8796093022208) (h0 : 0 < n) :
    Calls Try.prog 28 #[.slice (some ⟨b, off, none⟩) n c] w fun e w' => ∃ g cap, e = .returned (.slice (some ⟨g, 0, none⟩) n cap) ∧ n ≤ cap ∧ w'.ownsRow w.heap.size 32 2 (.slice (some ⟨g, 0, none⟩) n cap) n (cellsC 2 n f) ∧ Below w.heap.size w w' := by
  obtain ⟨i0_, hi, hz0, hz1, hz2⟩ := info_parts pktInfo
  have hq := fun (wx : World) => Lib.run_eql_slice_nil (P := Try.prog) wx 29 32 (some ⟨b, off, none⟩) n c 0 0 Try.underlying29
  have hnews : ∀ (o : Obj) (j : Nat) (u : Value), (cellsC 2 n f)[j]? = some u → (w.alloc o).cell? ((⟨b, off, none⟩ : Addr).add j) = some u := fun o j u hj => by
    rw [Addr.add_lit]
    exact clone_newsC (by omega) hf o j u hj
  have HN := Lib.hid hnews
  clear hnews
  have hown0 : (w.alloc (.cells #[] 32)).ownsRow w.heap.size 32 2 (.slice (some ⟨w.heap.size, 0, none⟩) 0 0) 0 [] := World.ownsRow_lit w #[] 0 (Nat.le_refl _) (Nat.zero_le _) (by simp)
  go_enter Try.func28, Try.ntmps28
  go_wp2_with (at_builtin; refine wpList_append_own _ rfl (.tmp 5) (.tmp 6) 29 rfl w.heap.size 32 i0_ (.agg #[.int .i64 0, .int .i64 0]) 2 16 Try.underlying29 hi hz0 hz1 hz2 rfl (by decide) (.slice (some ⟨w.heap.size, 0, none⟩) 0 0) 0 [] rfl hown0 ⟨b, off, none⟩ n c (cellsC 2 n f) rfl (cellsC_length 2 n f) (HN.out _) (cellsC_one 2 n f) (by simp only [maxLen]; omega) (by omega) (by simp) ?_; intro v' w5 hown5 hgrow5 hnil; clear hnil; rw [Nat.zero_add, List.nil_append] at hown5)
  have hbe : Below w.heap.size w w5 := ((Below.refl _ _).alloc (Nat.le_refl _) _).grown hgrow5 (by simp) fun k hk => by
    have : w.heap.size = k := by simpa [Value.ownBlock] using hk
    omega
  obtain ⟨g, cap, rfl, _, _⟩ := hown5.form h0
  have hcap : n ≤ cap := by
    obtain ⟨a', c', he, hc⟩ := own_sliceC hown5
    injection he with h1 h2 h3
    omega
  go_ret
  exact ⟨g, cap, rfl, hcap, hown5, hbe⟩

end Go.Proofs.Ytmlkebemkibipaa
