/-
  No cell of these rows narrows 'for every input' (looked for: loops, veiled, ifaces, maps, wideKeys, modest, calm, conditions, laid).
  DERIVED. THE GIVEN ROWS OF THIS SEAT. 10 by the template 'for every input the law returns true; each argument reads behind the call as it read before'; 0 by the template 'total and deterministic' (their statements: YtiojkmnkpcgdfaaTotals.lean).
  GIVEN WITH THE SEED: the statements are not yours to turn. If you find one false, say at which input.
  Laid BY PROGRAM, IN A SANDBOX (cutbox-rows.mjs): the forced cells as the released guide's own fill.sh prints them over the translation c48ac80be1d213ad… (all of the seat's roots in one cut). By AI agents, Wed Nov 11 2026. No macro, syntax, notation, axiom, sorry.
-/
import Derived.Test.YtiojkmnkpcgdfaaChecked
import GoSem.Claim
import GoSem.ClaimJoined
import GoSem.ClaimMapViews
import Derived.JoinedTies
import Derived.KernelRfl
namespace Go.Proofs.Ytiojkmnkpcgdfaa
/- THE CELL 'sum', in the pinned program and in every row, IS THE sha256 OF THE DUMP (.gsa) THAT YtiojkmnkpcgdfaaProg.lean LOADS. Nothing in Lean hashes anything: it is a label: what it is worth is what the hold of that sum in a sandbox is worth. -/
noncomputable def Try.pinned : Pinned := { name := "ytiojkmnkpcgdfaa", sum := "c48ac80be1d213ad5a052b90e35e4672db3558265476a26bb9f049a1320bc533", checked := Try.checked }
namespace Rows
def none {H : Type} : Left H := { results := [], args := [] }

/-- 'tidewaitkeep.LedbatStays': WHATEVER THE INPUT: true; the input reads as it did. -/
def ledbatStaysSpec : ChangeSpec := { name := "ledbatStays", fn := fun _ => fun
  | [d1, d2] => { results := [.lit (.bool true)], args := [d1, d2] }
  | _ => none }
def ledbatStaysRow : OpenClaim := { program := "ytiojkmnkpcgdfaa", sum := "c48ac80be1d213ad5a052b90e35e4672db3558265476a26bb9f049a1320bc533", func := "tidewait/tidewaitkeep.LedbatStays", spec := "ledbatStays", apart := false }
def LedbatStaysSaid : Prop := ledbatStaysRow.holds Try.pinned (OpenSpec.ofChange ledbatStaysSpec)

/-- ITS FALSE NEIGHBOUR: 'it returns false'. Refute it at one input. -/
def ledbatStaysWrong : ChangeSpec := { name := "ledbatStays", fn := fun _ => fun
  | [d1, d2] => { results := [.lit (.bool false)], args := [d1, d2] }
  | _ => none }
def LedbatStaysWrongFalsely : Prop := ledbatStaysRow.holds Try.pinned (OpenSpec.ofChange ledbatStaysWrong)

/-- 'tidewaitkeep.LedbatLess': WHATEVER THE INPUT: true; the input reads as it did. -/
def ledbatLessSpec : ChangeSpec := { name := "ledbatLess", fn := fun _ => fun
  | [d1, d2, d3] => { results := [.lit (.bool true)], args := [d1, d2, d3] }
  | _ => none }
def ledbatLessRow : OpenClaim := { program := "ytiojkmnkpcgdfaa", sum := "c48ac80be1d213ad5a052b90e35e4672db3558265476a26bb9f049a1320bc533", func := "tidewait/tidewaitkeep.LedbatLess", spec := "ledbatLess", apart := false }
def LedbatLessSaid : Prop := ledbatLessRow.holds Try.pinned (OpenSpec.ofChange ledbatLessSpec)

/-- ITS FALSE NEIGHBOUR: 'it returns false'. Refute it at one input. -/
def ledbatLessWrong : ChangeSpec := { name := "ledbatLess", fn := fun _ => fun
  | [d1, d2, d3] => { results := [.lit (.bool false)], args := [d1, d2, d3] }
  | _ => none }
def LedbatLessWrongFalsely : Prop := ledbatLessRow.holds Try.pinned (OpenSpec.ofChange ledbatLessWrong)

/-- 'tidewaitkeep.LedbatOff': WHATEVER THE INPUT: true; the input reads as it did. -/
def ledbatOffSpec : ChangeSpec := { name := "ledbatOff", fn := fun _ => fun
  | [d1, d2, d3] => { results := [.lit (.bool true)], args := [d1, d2, d3] }
  | _ => none }
def ledbatOffRow : OpenClaim := { program := "ytiojkmnkpcgdfaa", sum := "c48ac80be1d213ad5a052b90e35e4672db3558265476a26bb9f049a1320bc533", func := "tidewait/tidewaitkeep.LedbatOff", spec := "ledbatOff", apart := false }
def LedbatOffSaid : Prop := ledbatOffRow.holds Try.pinned (OpenSpec.ofChange ledbatOffSpec)

/-- ITS FALSE NEIGHBOUR: 'it returns false'. Refute it at one input. -/
def ledbatOffWrong : ChangeSpec := { name := "ledbatOff", fn := fun _ => fun
  | [d1, d2, d3] => { results := [.lit (.bool false)], args := [d1, d2, d3] }
  | _ => none }
def LedbatOffWrongFalsely : Prop := ledbatOffRow.holds Try.pinned (OpenSpec.ofChange ledbatOffWrong)

/-- 'tidewaitkeep.LedbatYields': WHATEVER THE INPUT: true; the input reads as it did. -/
def ledbatYieldsSpec : ChangeSpec := { name := "ledbatYields", fn := fun _ => fun
  | [d1, d2] => { results := [.lit (.bool true)], args := [d1, d2] }
  | _ => none }
def ledbatYieldsRow : OpenClaim := { program := "ytiojkmnkpcgdfaa", sum := "c48ac80be1d213ad5a052b90e35e4672db3558265476a26bb9f049a1320bc533", func := "tidewait/tidewaitkeep.LedbatYields", spec := "ledbatYields", apart := false }
def LedbatYieldsSaid : Prop := ledbatYieldsRow.holds Try.pinned (OpenSpec.ofChange ledbatYieldsSpec)

/-- ITS FALSE NEIGHBOUR: 'it returns false'. Refute it at one input. -/
def ledbatYieldsWrong : ChangeSpec := { name := "ledbatYields", fn := fun _ => fun
  | [d1, d2] => { results := [.lit (.bool false)], args := [d1, d2] }
  | _ => none }
def LedbatYieldsWrongFalsely : Prop := ledbatYieldsRow.holds Try.pinned (OpenSpec.ofChange ledbatYieldsWrong)

/-- 'tidewaitkeep.VegasStays': WHATEVER THE INPUT: true; the input reads as it did. -/
def vegasStaysSpec : ChangeSpec := { name := "vegasStays", fn := fun _ => fun
  | [d1, d2] => { results := [.lit (.bool true)], args := [d1, d2] }
  | _ => none }
def vegasStaysRow : OpenClaim := { program := "ytiojkmnkpcgdfaa", sum := "c48ac80be1d213ad5a052b90e35e4672db3558265476a26bb9f049a1320bc533", func := "tidewait/tidewaitkeep.VegasStays", spec := "vegasStays", apart := false }
def VegasStaysSaid : Prop := vegasStaysRow.holds Try.pinned (OpenSpec.ofChange vegasStaysSpec)

/-- ITS FALSE NEIGHBOUR: 'it returns false'. Refute it at one input. -/
def vegasStaysWrong : ChangeSpec := { name := "vegasStays", fn := fun _ => fun
  | [d1, d2] => { results := [.lit (.bool false)], args := [d1, d2] }
  | _ => none }
def VegasStaysWrongFalsely : Prop := vegasStaysRow.holds Try.pinned (OpenSpec.ofChange vegasStaysWrong)

/-- 'tidewaitkeep.VegasYields': WHATEVER THE INPUT: true; the input reads as it did. -/
def vegasYieldsSpec : ChangeSpec := { name := "vegasYields", fn := fun _ => fun
  | [d1, d2, d3] => { results := [.lit (.bool true)], args := [d1, d2, d3] }
  | _ => none }
def vegasYieldsRow : OpenClaim := { program := "ytiojkmnkpcgdfaa", sum := "c48ac80be1d213ad5a052b90e35e4672db3558265476a26bb9f049a1320bc533", func := "tidewait/tidewaitkeep.VegasYields", spec := "vegasYields", apart := false }
def VegasYieldsSaid : Prop := vegasYieldsRow.holds Try.pinned (OpenSpec.ofChange vegasYieldsSpec)

/-- ITS FALSE NEIGHBOUR: 'it returns false'. Refute it at one input. -/
def vegasYieldsWrong : ChangeSpec := { name := "vegasYields", fn := fun _ => fun
  | [d1, d2, d3] => { results := [.lit (.bool false)], args := [d1, d2, d3] }
  | _ => none }
def VegasYieldsWrongFalsely : Prop := vegasYieldsRow.holds Try.pinned (OpenSpec.ofChange vegasYieldsWrong)

/-- 'tidewaitkeep.VegasRests': WHATEVER THE INPUT: true; the input reads as it did. -/
def vegasRestsSpec : ChangeSpec := { name := "vegasRests", fn := fun _ => fun
  | [d1, d2] => { results := [.lit (.bool true)], args := [d1, d2] }
  | _ => none }
def vegasRestsRow : OpenClaim := { program := "ytiojkmnkpcgdfaa", sum := "c48ac80be1d213ad5a052b90e35e4672db3558265476a26bb9f049a1320bc533", func := "tidewait/tidewaitkeep.VegasRests", spec := "vegasRests", apart := false }
def VegasRestsSaid : Prop := vegasRestsRow.holds Try.pinned (OpenSpec.ofChange vegasRestsSpec)

/-- ITS FALSE NEIGHBOUR: 'it returns false'. Refute it at one input. -/
def vegasRestsWrong : ChangeSpec := { name := "vegasRests", fn := fun _ => fun
  | [d1, d2] => { results := [.lit (.bool false)], args := [d1, d2] }
  | _ => none }
def VegasRestsWrongFalsely : Prop := vegasRestsRow.holds Try.pinned (OpenSpec.ofChange vegasRestsWrong)

/-- 'tidewaitkeep.CopaStays': WHATEVER THE INPUT: true; the input reads as it did. -/
def copaStaysSpec : ChangeSpec := { name := "copaStays", fn := fun _ => fun
  | [d1, d2] => { results := [.lit (.bool true)], args := [d1, d2] }
  | _ => none }
def copaStaysRow : OpenClaim := { program := "ytiojkmnkpcgdfaa", sum := "c48ac80be1d213ad5a052b90e35e4672db3558265476a26bb9f049a1320bc533", func := "tidewait/tidewaitkeep.CopaStays", spec := "copaStays", apart := false }
def CopaStaysSaid : Prop := copaStaysRow.holds Try.pinned (OpenSpec.ofChange copaStaysSpec)

/-- ITS FALSE NEIGHBOUR: 'it returns false'. Refute it at one input. -/
def copaStaysWrong : ChangeSpec := { name := "copaStays", fn := fun _ => fun
  | [d1, d2] => { results := [.lit (.bool false)], args := [d1, d2] }
  | _ => none }
def CopaStaysWrongFalsely : Prop := copaStaysRow.holds Try.pinned (OpenSpec.ofChange copaStaysWrong)

/-- 'tidewaitkeep.CopaYields': WHATEVER THE INPUT: true; the input reads as it did. -/
def copaYieldsSpec : ChangeSpec := { name := "copaYields", fn := fun _ => fun
  | [d1, d2, d3] => { results := [.lit (.bool true)], args := [d1, d2, d3] }
  | _ => none }
def copaYieldsRow : OpenClaim := { program := "ytiojkmnkpcgdfaa", sum := "c48ac80be1d213ad5a052b90e35e4672db3558265476a26bb9f049a1320bc533", func := "tidewait/tidewaitkeep.CopaYields", spec := "copaYields", apart := false }
def CopaYieldsSaid : Prop := copaYieldsRow.holds Try.pinned (OpenSpec.ofChange copaYieldsSpec)

/-- ITS FALSE NEIGHBOUR: 'it returns false'. Refute it at one input. -/
def copaYieldsWrong : ChangeSpec := { name := "copaYields", fn := fun _ => fun
  | [d1, d2, d3] => { results := [.lit (.bool false)], args := [d1, d2, d3] }
  | _ => none }
def CopaYieldsWrongFalsely : Prop := copaYieldsRow.holds Try.pinned (OpenSpec.ofChange copaYieldsWrong)

/-- 'tidewaitkeep.CopaFaster': WHATEVER THE INPUT: true; the input reads as it did. -/
def copaFasterSpec : ChangeSpec := { name := "copaFaster", fn := fun _ => fun
  | [d1, d2] => { results := [.lit (.bool true)], args := [d1, d2] }
  | _ => none }
def copaFasterRow : OpenClaim := { program := "ytiojkmnkpcgdfaa", sum := "c48ac80be1d213ad5a052b90e35e4672db3558265476a26bb9f049a1320bc533", func := "tidewait/tidewaitkeep.CopaFaster", spec := "copaFaster", apart := false }
def CopaFasterSaid : Prop := copaFasterRow.holds Try.pinned (OpenSpec.ofChange copaFasterSpec)

/-- ITS FALSE NEIGHBOUR: 'it returns false'. Refute it at one input. -/
def copaFasterWrong : ChangeSpec := { name := "copaFaster", fn := fun _ => fun
  | [d1, d2] => { results := [.lit (.bool false)], args := [d1, d2] }
  | _ => none }
def CopaFasterWrongFalsely : Prop := copaFasterRow.holds Try.pinned (OpenSpec.ofChange copaFasterWrong)

/- THE SECOND FORM. 'bulk': how many values and letters a reading holds, each counted each time it is reached (what is shared counts as often as it is met; a slice's spare places count too). A statement '..UptoSaid' is the law's where the arguments, and the package variables that the reading takes, are together of bulk at most 1048576: NARROWER than '..Said'. Prove '..Said' where nothing that the law and all that it calls make is longer than what came in: it says more and counts as full. Else prove '..UptoSaid'. A law counts once. -/
mutual
def uptoBulk {H : Type} : DataW H → Nat
  | .lit (.string bytes) => bytes.length + 1
  | .lit _ => 1
  | .nil => 1
  | .ptr d => uptoBulk d + 1
  | .slice elems spare => uptoBulkAll elems + uptoBulkAll spare + 1
  | .agg parts => uptoBulkAll parts + 1
  | .iface _ d => uptoBulk d + 1
  | .map entries => uptoBulkEntries entries + 1
  | .held _ => 1
def uptoBulkAll {H : Type} : List (DataW H) → Nat
  | [] => 0
  | d :: r => uptoBulk d + uptoBulkAll r
def uptoBulkEntries {H : Type} : List (Lit × DataW H) → Nat
  | [] => 0
  | x :: r => uptoBulkEntry x + uptoBulkEntries r
def uptoBulkEntry {H : Type} : Lit × DataW H → Nat
  | (.string bytes, d) => bytes.length + uptoBulk d + 1
  | (_, d) => uptoBulk d + 1
 end
def uptoSmall : (H : Type) → List (DataW H) → Bool := fun _ ds => decide (uptoBulkAll ds ≤ 1048576)
def OpenSpec.upto (s : _root_.Go.ChangeSpec) : _root_.Go.OpenSpec := { _root_.Go.OpenSpec.ofChange s with cond := some uptoSmall }

/-- 'tidewaitkeep.LedbatStays', WHERE WHAT IT READS IS OF BULK AT MOST 1048576: true; the input reads as it did. -/
def ledbatStaysUptoRow : OpenClaim := { program := "ytiojkmnkpcgdfaa", sum := "c48ac80be1d213ad5a052b90e35e4672db3558265476a26bb9f049a1320bc533", func := "tidewait/tidewaitkeep.LedbatStays", spec := "ledbatStays", apart := false, narrowed := true }
def LedbatStaysUptoSaid : Prop := ledbatStaysUptoRow.holds Try.pinned (OpenSpec.upto ledbatStaysSpec)

/-- 'tidewaitkeep.LedbatLess', WHERE WHAT IT READS IS OF BULK AT MOST 1048576: true; the input reads as it did. -/
def ledbatLessUptoRow : OpenClaim := { program := "ytiojkmnkpcgdfaa", sum := "c48ac80be1d213ad5a052b90e35e4672db3558265476a26bb9f049a1320bc533", func := "tidewait/tidewaitkeep.LedbatLess", spec := "ledbatLess", apart := false, narrowed := true }
def LedbatLessUptoSaid : Prop := ledbatLessUptoRow.holds Try.pinned (OpenSpec.upto ledbatLessSpec)

/-- 'tidewaitkeep.LedbatOff', WHERE WHAT IT READS IS OF BULK AT MOST 1048576: true; the input reads as it did. -/
def ledbatOffUptoRow : OpenClaim := { program := "ytiojkmnkpcgdfaa", sum := "c48ac80be1d213ad5a052b90e35e4672db3558265476a26bb9f049a1320bc533", func := "tidewait/tidewaitkeep.LedbatOff", spec := "ledbatOff", apart := false, narrowed := true }
def LedbatOffUptoSaid : Prop := ledbatOffUptoRow.holds Try.pinned (OpenSpec.upto ledbatOffSpec)

/-- 'tidewaitkeep.LedbatYields', WHERE WHAT IT READS IS OF BULK AT MOST 1048576: true; the input reads as it did. -/
def ledbatYieldsUptoRow : OpenClaim := { program := "ytiojkmnkpcgdfaa", sum := "c48ac80be1d213ad5a052b90e35e4672db3558265476a26bb9f049a1320bc533", func := "tidewait/tidewaitkeep.LedbatYields", spec := "ledbatYields", apart := false, narrowed := true }
def LedbatYieldsUptoSaid : Prop := ledbatYieldsUptoRow.holds Try.pinned (OpenSpec.upto ledbatYieldsSpec)

/-- 'tidewaitkeep.VegasStays', WHERE WHAT IT READS IS OF BULK AT MOST 1048576: true; the input reads as it did. -/
def vegasStaysUptoRow : OpenClaim := { program := "ytiojkmnkpcgdfaa", sum := "c48ac80be1d213ad5a052b90e35e4672db3558265476a26bb9f049a1320bc533", func := "tidewait/tidewaitkeep.VegasStays", spec := "vegasStays", apart := false, narrowed := true }
def VegasStaysUptoSaid : Prop := vegasStaysUptoRow.holds Try.pinned (OpenSpec.upto vegasStaysSpec)

/-- 'tidewaitkeep.VegasYields', WHERE WHAT IT READS IS OF BULK AT MOST 1048576: true; the input reads as it did. -/
def vegasYieldsUptoRow : OpenClaim := { program := "ytiojkmnkpcgdfaa", sum := "c48ac80be1d213ad5a052b90e35e4672db3558265476a26bb9f049a1320bc533", func := "tidewait/tidewaitkeep.VegasYields", spec := "vegasYields", apart := false, narrowed := true }
def VegasYieldsUptoSaid : Prop := vegasYieldsUptoRow.holds Try.pinned (OpenSpec.upto vegasYieldsSpec)

/-- 'tidewaitkeep.VegasRests', WHERE WHAT IT READS IS OF BULK AT MOST 1048576: true; the input reads as it did. -/
def vegasRestsUptoRow : OpenClaim := { program := "ytiojkmnkpcgdfaa", sum := "c48ac80be1d213ad5a052b90e35e4672db3558265476a26bb9f049a1320bc533", func := "tidewait/tidewaitkeep.VegasRests", spec := "vegasRests", apart := false, narrowed := true }
def VegasRestsUptoSaid : Prop := vegasRestsUptoRow.holds Try.pinned (OpenSpec.upto vegasRestsSpec)

/-- 'tidewaitkeep.CopaStays', WHERE WHAT IT READS IS OF BULK AT MOST 1048576: true; the input reads as it did. -/
def copaStaysUptoRow : OpenClaim := { program := "ytiojkmnkpcgdfaa", sum := "c48ac80be1d213ad5a052b90e35e4672db3558265476a26bb9f049a1320bc533", func := "tidewait/tidewaitkeep.CopaStays", spec := "copaStays", apart := false, narrowed := true }
def CopaStaysUptoSaid : Prop := copaStaysUptoRow.holds Try.pinned (OpenSpec.upto copaStaysSpec)

/-- 'tidewaitkeep.CopaYields', WHERE WHAT IT READS IS OF BULK AT MOST 1048576: true; the input reads as it did. -/
def copaYieldsUptoRow : OpenClaim := { program := "ytiojkmnkpcgdfaa", sum := "c48ac80be1d213ad5a052b90e35e4672db3558265476a26bb9f049a1320bc533", func := "tidewait/tidewaitkeep.CopaYields", spec := "copaYields", apart := false, narrowed := true }
def CopaYieldsUptoSaid : Prop := copaYieldsUptoRow.holds Try.pinned (OpenSpec.upto copaYieldsSpec)

/-- 'tidewaitkeep.CopaFaster', WHERE WHAT IT READS IS OF BULK AT MOST 1048576: true; the input reads as it did. -/
def copaFasterUptoRow : OpenClaim := { program := "ytiojkmnkpcgdfaa", sum := "c48ac80be1d213ad5a052b90e35e4672db3558265476a26bb9f049a1320bc533", func := "tidewait/tidewaitkeep.CopaFaster", spec := "copaFaster", apart := false, narrowed := true }
def CopaFasterUptoSaid : Prop := copaFasterUptoRow.holds Try.pinned (OpenSpec.upto copaFasterSpec)

end Rows
end Go.Proofs.Ytiojkmnkpcgdfaa
