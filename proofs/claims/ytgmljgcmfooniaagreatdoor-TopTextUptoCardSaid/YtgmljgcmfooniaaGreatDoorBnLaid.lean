/- From a row's list of package-level variables to what the walks ask of the world. Conditions: none. -/
import Derived.Test.YtgmljgcmfooniaaGreatDoorRows
import Derived.Test.YtgmljgcmfooniaaGreatDoorBnM
import Derived.Test.YtgmljgcmfooniaaGreatDoorBnShelf2
import Derived.Stop.LaidErr
import Derived.MakeChecks
import Derived.Shelf.Lay
set_option linter.unusedVariables false
set_option linter.unusedSimpArgs false
namespace Go.Proofs.YtgmljgcmfooniaaGreatDoor
open Go.RowKit Go.ChangeShapes Go.Shelf
def bLaid : List (String × DataW Unit) := [("math/bits.deBruijn32tab", Rows.laid_math_bits_deBruijn32tab), ("math/bits.deBruijn64tab", Rows.laid_math_bits_deBruijn64tab), ("internal/strconv.uint64pow10", Rows.laid_internal_strconv_uint64pow10), ("unicode/utf8.acceptRanges", Rows.laid_unicode_utf8_acceptRanges), ("strconv.ErrRange", Rows.laid_strconv_ErrRange), ("strconv.ErrSyntax", Rows.laid_strconv_ErrSyntax), ("unicode.White_Space", Rows.laid_unicode_White_Space), ("strings.asciiSpace", Rows.laid_strings_asciiSpace), ("unicode/utf8.first", Rows.laid_unicode_utf8_first)]
theorem pow_data : (Rows.laid_internal_strconv_uint64pow10 : DataW Unit) = Lib.tabData .u64 Lib.pow10Tab := by kernel_rfl
theorem space_data : (Rows.laid_strings_asciiSpace : DataW Unit) = Lib.tabData .u8 Lib.asciiSpaceTab := by kernel_rfl
theorem type_err : ∀ u, Tryz.prog.typeName? 3 u = some "*errors.errorString" → u = 221 :=
  fun u hu => typeName_ptr_named (nm := "errors.errorString") (by kernel_rfl) (by kernel_rfl) (by decide) u hu
theorem tabs_of_laid {W : World} (hL0 : laidMetH Tryz.prog bLaid W) (hS : W.ShapedOpen Tryz.prog) : BTabs W := by
  have hm : ∃ m, W.cell? ⟨5, 0, none⟩ = some (.int .i64 m) := Tryz.laysM146.s1_3 W hS
  rw [MakeChecks.laidMetH_plain _ _ _ (by kernel_rfl)] at hL0
  have h2 := hL0.tail.tail
  rw [pow_data] at h2
  have h4 := h2.tail.tail
  have h5 := h4.tail
  have h7 := h5.tail.tail
  rw [space_data] at h7
  obtain ⟨a4, s4, hv4, _⟩ := laid_sentinel (n := "strconv.ErrRange") (g := 3) (ti := 75) (tp := 221) (te := 223) (ts := 9) h4 gRan (by kernel_rfl) Tryz.underlying75 type_err Tryz.underlying221 Tryz.underlying223 rfl rfl Tryz.underlying9 (by kernel_rfl) (by kernel_rfl)
  obtain ⟨a5, s5, hv5, _⟩ := laid_sentinel (n := "strconv.ErrSyntax") (g := 2) (ti := 75) (tp := 221) (te := 223) (ts := 9) h5 gSyn (by kernel_rfl) Tryz.underlying75 type_err Tryz.underlying221 Tryz.underlying223 rfl rfl Tryz.underlying9 (by kernel_rfl) (by kernel_rfl)
  exact ⟨Lib.tabIs_of_head (t := 110) (e := 5) (n := 256) gSpace (by kernel_rfl) (by kernel_rfl) (by kernel_rfl) (by kernel_rfl) (by kernel_rfl) h7, Lib.tabIs_of_head (t := 214) (e := 179) (n := 20) gPow (by kernel_rfl) (by kernel_rfl) (by kernel_rfl) (by kernel_rfl) (by kernel_rfl) h2, ⟨_, _, hv5⟩, ⟨_, _, hv4⟩, hm⟩
end Go.Proofs.YtgmljgcmfooniaaGreatDoor
