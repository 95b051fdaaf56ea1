/- What the package-level variables hold that the texts of a duel are read and written by; it stands behind whatever leaves the elder blocks alone. Conditions: none. -/
import Derived.Test.YtgmljgcmfooniaaDoorProg
import Derived.Lib.LaidTab
import Derived.Lib.Fields
import Derived.Lib.ItoaNum
import Derived.Lib.Space
import Derived.Below
import Derived.WalkKit
import Derived.ProofKit
set_option linter.unusedVariables false
set_option linter.unusedSimpArgs false
namespace Go.Proofs.YtgmljgcmfooniaaDoor
open Go.RowKit
theorem gSpace : Tryd.prog.globalNamed "strings.asciiSpace" = some 0 := by kernel_rfl
theorem gPow : Tryd.prog.globalNamed "internal/strconv.uint64pow10" = some 4 := by kernel_rfl
theorem gSyn : Tryd.prog.globalNamed "strconv.ErrSyntax" = some 2 := by kernel_rfl
theorem gRan : Tryd.prog.globalNamed "strconv.ErrRange" = some 3 := by kernel_rfl
/-- The variables. -/
structure BTabs (w : World) : Prop where
  sp : Lib.TabIs Tryd.prog w "strings.asciiSpace" .u8 Lib.asciiSpaceTab
  pw : Lib.TabIs Tryd.prog w "internal/strconv.uint64pow10" .u64 Lib.pow10Tab
  es : ∃ tp p, w.var? Tryd.prog "strconv.ErrSyntax" = some #[.iface tp p]
  er : ∃ tp p, w.var? Tryd.prog "strconv.ErrRange" = some #[.iface tp p]
  ml : ∃ m, w.cell? ⟨5, 0, none⟩ = some (.int .i64 m)
theorem var_same {P : Program} {w w' : World} {n : String} {g B : Nat} {cs : Array Value} (h : w.var? P n = some cs) (hg : P.globalNamed n = some g) (hb : Below B w w') (hlt : g < B) : w'.var? P n = some cs := by
  unfold World.var? at h ⊢
  rw [hg] at h ⊢
  simp only [Option.bind_some] at h ⊢
  rw [hb.block g hlt]
  exact h
theorem var_lt {P : Program} {w : World} {n : String} {g : Nat} {cs : Array Value} (h : w.var? P n = some cs) (hg : P.globalNamed n = some g) : g < w.heap.size := by
  unfold World.var? at h
  rw [hg] at h
  simp only [Option.bind_some] at h
  rcases Nat.lt_or_ge g w.heap.size with h' | h'
  · exact h'
  · simp [Array.getElem?_eq_none h'] at h
theorem BTabs.below {w w' : World} (h : BTabs w) (hb : Below w.heap.size w w') : BTabs w' := by
  obtain ⟨sp, pw, ⟨t1, p1, es⟩, ⟨t2, p2, er⟩, ⟨m, ml⟩⟩ := h
  refine ⟨var_same sp gSpace hb (var_lt sp gSpace), var_same pw gPow hb (var_lt pw gPow), ⟨t1, p1, var_same es gSyn hb (var_lt es gSyn)⟩, ⟨t2, p2, var_same er gRan hb (var_lt er gRan)⟩, ⟨m, ?_⟩⟩
  rw [hb.cell (World.block_lt_of_cell? _ _ ml)]
  exact ml
end Go.Proofs.YtgmljgcmfooniaaDoor
