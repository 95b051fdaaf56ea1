/- DuelParts: for every input of such bulk the law returns true. Conditions: none. -/
import Derived.Test.YtehlgomjgmabeaaDpOk
import Derived.Test.YtehlgomjgmabeaaDpW
set_option linter.unusedVariables false
set_option linter.unusedSimpArgs false
namespace Go.Proofs.Ytehlgomjgmabeaa
open Go.RowKit Go.Shelf Go.Tide
set_option linter.unusedVariables false
set_option linter.unusedSimpArgs false
theorem duelParts_walk (a0_0 a0_1 a0_2 a0_3 a0_4 : Int) (a1 : Option Addr) (len1 cap1 : Nat) (z1 : List Int) (a2 : Option Addr) (len2 cap2 : Nat) (z2 : List Int) (w : World) (b0_0 : InI64 a0_0) (b0_1 : InI64 a0_1) (b0_2 : InI64 a0_2) (b0_3 : InI64 a0_3) (b0_4 : InI64 a0_4) (f1 : IsFlat w a1 len1 cap1 2 z1) (r1 : cap1 * 16 ≤ 140737488351232) (f2 : IsFlat w a2 len2 cap2 2 z2) (r2 : cap2 * 16 ≤ 140737488351232) (s12 : len1 + len2 ≤ 1048576) :
    Calls Try.prog 3 #[.agg #[.int .i64 a0_0, .int .i64 a0_1, .int .i64 a0_2, .int .i64 a0_3, .int .i64 a0_4], .slice a1 len1 cap1, .slice a2 len2 cap2] w fun e w' => e = .returned (.bool true) ∧ Below w.heap.size w w' := by
  have h1 := f1.rowC (by omega)
  have h2 := f2.rowC (by omega)
  generalize (fun k j => z1.getD (k * 2 + j) 0) = f at h1
  generalize (fun k j => z2.getD (k * 2 + j) 0) = g at h2
  clear f1 f2 b0_0 b0_1 b0_2 b0_3 b0_4
  by_cases hK : dKind a0_0 ∧ dKind a0_1 ∧ dNums a0_2 a0_3 a0_4
  · obtain ⟨k0, k1, hn⟩ := hK
    have hnn := hn
    obtain ⟨n1, n2, n3, n4, n5, n6⟩ := hnn
    obtain ⟨rate, rfl⟩ : ∃ n : Nat, a0_2 = n := ⟨a0_2.toNat, by omega⟩
    obtain ⟨buf, rfl⟩ : ∃ n : Nat, a0_3 = n := ⟨a0_3.toNat, by omega⟩
    exact duelParts_ok a0_0 a0_1 a0_4 rate buf a1 len1 cap1 f a2 len2 cap2 g w (Lib.hid ⟨k0, k1, hn⟩) h1 h2 s12
  · obtain ⟨er, HE, hcw⟩ := wrong_er a0_0 a0_1 a0_2 a0_3 a0_4 hK
    exact duelParts_w a0_0 a0_1 a0_2 a0_3 a0_4 a1 len1 cap1 f a2 len2 cap2 g w er HE (Lib.hid hcw) h1 h2 s12
end Go.Proofs.Ytehlgomjgmabeaa
