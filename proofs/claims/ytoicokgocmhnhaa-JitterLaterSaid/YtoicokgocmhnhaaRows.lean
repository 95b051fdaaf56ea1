/-
  No cell of these rows narrows 'for every input' (looked for: loops, veiled, ifaces, maps, wideKeys, modest, calm, conditions, laid).
  DERIVED. THE GIVEN ROWS OF THIS SEAT. 12 by the template 'for every input the law returns true; each argument reads behind the call as it read before'; 0 by the template 'total and deterministic' (their statements: YtoicokgocmhnhaaTotals.lean).
  GIVEN WITH THE SEED: the statements are not yours to turn. If you find one false, say at which input.
  Laid BY PROGRAM, IN A SANDBOX (cutbox-rows.mjs): the forced cells as the released guide's own fill.sh prints them over the translation 95d4675c06ccb187… (all of the seat's roots in one cut). By AI agents, Wed Nov 11 2026. No macro, syntax, notation, axiom, sorry.
-/
import Derived.Test.YtoicokgocmhnhaaChecked
import GoSem.Claim
import GoSem.ClaimJoined
import GoSem.ClaimMapViews
import Derived.JoinedTies
import Derived.KernelRfl
namespace Go.Proofs.Ytoicokgocmhnhaa
/- THE CELL 'sum', in the pinned program and in every row, IS THE sha256 OF THE DUMP (.gsa) THAT YtoicokgocmhnhaaProg.lean LOADS. Nothing in Lean hashes anything: it is a label: what it is worth is what the hold of that sum in a sandbox is worth. -/
noncomputable def Try.pinned : Pinned := { name := "ytoicokgocmhnhaa", sum := "95d4675c06ccb18739644a78ffb3907a50c5cdd7d3f6a5310f6245973c388edc", checked := Try.checked }
namespace Rows
def none {H : Type} : Left H := { results := [], args := [] }

/-- 'tidewaitkeep.FilterBetween': WHATEVER THE INPUT: true; the input reads as it did. -/
def filterBetweenSpec : ChangeSpec := { name := "filterBetween", fn := fun _ => fun
  | [d1, d2] => { results := [.lit (.bool true)], args := [d1, d2] }
  | _ => none }
def filterBetweenRow : OpenClaim := { program := "ytoicokgocmhnhaa", sum := "95d4675c06ccb18739644a78ffb3907a50c5cdd7d3f6a5310f6245973c388edc", func := "tidewait/tidewaitkeep.FilterBetween", spec := "filterBetween", apart := false }
def FilterBetweenSaid : Prop := filterBetweenRow.holds Try.pinned (OpenSpec.ofChange filterBetweenSpec)

/-- ITS FALSE NEIGHBOUR: 'it returns false'. Refute it at one input. -/
def filterBetweenWrong : ChangeSpec := { name := "filterBetween", fn := fun _ => fun
  | [d1, d2] => { results := [.lit (.bool false)], args := [d1, d2] }
  | _ => none }
def FilterBetweenWrongFalsely : Prop := filterBetweenRow.holds Try.pinned (OpenSpec.ofChange filterBetweenWrong)

/-- 'tidewaitkeep.FilterRises': WHATEVER THE INPUT: true; the input reads as it did. -/
def filterRisesSpec : ChangeSpec := { name := "filterRises", fn := fun _ => fun
  | [d1, d2, d3] => { results := [.lit (.bool true)], args := [d1, d2, d3] }
  | _ => none }
def filterRisesRow : OpenClaim := { program := "ytoicokgocmhnhaa", sum := "95d4675c06ccb18739644a78ffb3907a50c5cdd7d3f6a5310f6245973c388edc", func := "tidewait/tidewaitkeep.FilterRises", spec := "filterRises", apart := false }
def FilterRisesSaid : Prop := filterRisesRow.holds Try.pinned (OpenSpec.ofChange filterRisesSpec)

/-- ITS FALSE NEIGHBOUR: 'it returns false'. Refute it at one input. -/
def filterRisesWrong : ChangeSpec := { name := "filterRises", fn := fun _ => fun
  | [d1, d2, d3] => { results := [.lit (.bool false)], args := [d1, d2, d3] }
  | _ => none }
def FilterRisesWrongFalsely : Prop := filterRisesRow.holds Try.pinned (OpenSpec.ofChange filterRisesWrong)

/-- 'tidewaitkeep.LinkSums': WHATEVER THE INPUT: true; the input reads as it did. -/
def linkSumsSpec : ChangeSpec := { name := "linkSums", fn := fun _ => fun
  | [d1, d2, d3, d4] => { results := [.lit (.bool true)], args := [d1, d2, d3, d4] }
  | _ => none }
def linkSumsRow : OpenClaim := { program := "ytoicokgocmhnhaa", sum := "95d4675c06ccb18739644a78ffb3907a50c5cdd7d3f6a5310f6245973c388edc", func := "tidewait/tidewaitkeep.LinkSums", spec := "linkSums", unfollowed := true, recurses := true, apart := false }
def LinkSumsSaid : Prop := linkSumsRow.holds Try.pinned (OpenSpec.ofChange linkSumsSpec)

/-- ITS FALSE NEIGHBOUR: 'it returns false'. Refute it at one input. -/
def linkSumsWrong : ChangeSpec := { name := "linkSums", fn := fun _ => fun
  | [d1, d2, d3, d4] => { results := [.lit (.bool false)], args := [d1, d2, d3, d4] }
  | _ => none }
def LinkSumsWrongFalsely : Prop := linkSumsRow.holds Try.pinned (OpenSpec.ofChange linkSumsWrong)

/-- 'tidewaitkeep.LinkFair': WHATEVER THE INPUT: true; the input reads as it did. -/
def linkFairSpec : ChangeSpec := { name := "linkFair", fn := fun _ => fun
  | [d1, d2, d3] => { results := [.lit (.bool true)], args := [d1, d2, d3] }
  | _ => none }
def linkFairRow : OpenClaim := { program := "ytoicokgocmhnhaa", sum := "95d4675c06ccb18739644a78ffb3907a50c5cdd7d3f6a5310f6245973c388edc", func := "tidewait/tidewaitkeep.LinkFair", spec := "linkFair", unfollowed := true, recurses := true, apart := false }
def LinkFairSaid : Prop := linkFairRow.holds Try.pinned (OpenSpec.ofChange linkFairSpec)

/-- ITS FALSE NEIGHBOUR: 'it returns false'. Refute it at one input. -/
def linkFairWrong : ChangeSpec := { name := "linkFair", fn := fun _ => fun
  | [d1, d2, d3] => { results := [.lit (.bool false)], args := [d1, d2, d3] }
  | _ => none }
def LinkFairWrongFalsely : Prop := linkFairRow.holds Try.pinned (OpenSpec.ofChange linkFairWrong)

/-- 'tidewaitkeep.LinkMore': WHATEVER THE INPUT: true; the input reads as it did. -/
def linkMoreSpec : ChangeSpec := { name := "linkMore", fn := fun _ => fun
  | [d1, d2, d3, d4, d5] => { results := [.lit (.bool true)], args := [d1, d2, d3, d4, d5] }
  | _ => none }
def linkMoreRow : OpenClaim := { program := "ytoicokgocmhnhaa", sum := "95d4675c06ccb18739644a78ffb3907a50c5cdd7d3f6a5310f6245973c388edc", func := "tidewait/tidewaitkeep.LinkMore", spec := "linkMore", unfollowed := true, recurses := true, apart := false }
def LinkMoreSaid : Prop := linkMoreRow.holds Try.pinned (OpenSpec.ofChange linkMoreSpec)

/-- ITS FALSE NEIGHBOUR: 'it returns false'. Refute it at one input. -/
def linkMoreWrong : ChangeSpec := { name := "linkMore", fn := fun _ => fun
  | [d1, d2, d3, d4, d5] => { results := [.lit (.bool false)], args := [d1, d2, d3, d4, d5] }
  | _ => none }
def LinkMoreWrongFalsely : Prop := linkMoreRow.holds Try.pinned (OpenSpec.ofChange linkMoreWrong)

/-- 'tidewaitkeep.JitterTwice': WHATEVER THE INPUT: true; the input reads as it did. -/
def jitterTwiceSpec : ChangeSpec := { name := "jitterTwice", fn := fun _ => fun
  | [d1, d2, d3] => { results := [.lit (.bool true)], args := [d1, d2, d3] }
  | _ => none }
def jitterTwiceRow : OpenClaim := { program := "ytoicokgocmhnhaa", sum := "95d4675c06ccb18739644a78ffb3907a50c5cdd7d3f6a5310f6245973c388edc", func := "tidewait/tidewaitkeep.JitterTwice", spec := "jitterTwice", unfollowed := true, recurses := true, apart := false }
def JitterTwiceSaid : Prop := jitterTwiceRow.holds Try.pinned (OpenSpec.ofChange jitterTwiceSpec)

/-- ITS FALSE NEIGHBOUR: 'it returns false'. Refute it at one input. -/
def jitterTwiceWrong : ChangeSpec := { name := "jitterTwice", fn := fun _ => fun
  | [d1, d2, d3] => { results := [.lit (.bool false)], args := [d1, d2, d3] }
  | _ => none }
def JitterTwiceWrongFalsely : Prop := jitterTwiceRow.holds Try.pinned (OpenSpec.ofChange jitterTwiceWrong)

/-- 'tidewaitkeep.JitterLater': WHATEVER THE INPUT: true; the input reads as it did. -/
def jitterLaterSpec : ChangeSpec := { name := "jitterLater", fn := fun _ => fun
  | [d1, d2, d3] => { results := [.lit (.bool true)], args := [d1, d2, d3] }
  | _ => none }
def jitterLaterRow : OpenClaim := { program := "ytoicokgocmhnhaa", sum := "95d4675c06ccb18739644a78ffb3907a50c5cdd7d3f6a5310f6245973c388edc", func := "tidewait/tidewaitkeep.JitterLater", spec := "jitterLater", unfollowed := true, recurses := true, apart := false }
def JitterLaterSaid : Prop := jitterLaterRow.holds Try.pinned (OpenSpec.ofChange jitterLaterSpec)

/-- ITS FALSE NEIGHBOUR: 'it returns false'. Refute it at one input. -/
def jitterLaterWrong : ChangeSpec := { name := "jitterLater", fn := fun _ => fun
  | [d1, d2, d3] => { results := [.lit (.bool false)], args := [d1, d2, d3] }
  | _ => none }
def JitterLaterWrongFalsely : Prop := jitterLaterRow.holds Try.pinned (OpenSpec.ofChange jitterLaterWrong)

/-- 'tidewaitkeep.JitterOrder': WHATEVER THE INPUT: true; the input reads as it did. -/
def jitterOrderSpec : ChangeSpec := { name := "jitterOrder", fn := fun _ => fun
  | [d1, d2] => { results := [.lit (.bool true)], args := [d1, d2] }
  | _ => none }
def jitterOrderRow : OpenClaim := { program := "ytoicokgocmhnhaa", sum := "95d4675c06ccb18739644a78ffb3907a50c5cdd7d3f6a5310f6245973c388edc", func := "tidewait/tidewaitkeep.JitterOrder", spec := "jitterOrder", unfollowed := true, recurses := true, apart := false }
def JitterOrderSaid : Prop := jitterOrderRow.holds Try.pinned (OpenSpec.ofChange jitterOrderSpec)

/-- ITS FALSE NEIGHBOUR: 'it returns false'. Refute it at one input. -/
def jitterOrderWrong : ChangeSpec := { name := "jitterOrder", fn := fun _ => fun
  | [d1, d2] => { results := [.lit (.bool false)], args := [d1, d2] }
  | _ => none }
def JitterOrderWrongFalsely : Prop := jitterOrderRow.holds Try.pinned (OpenSpec.ofChange jitterOrderWrong)

/-- 'tidewaitkeep.FilterStill': WHATEVER THE INPUT: true; the input reads as it did. -/
def filterStillSpec : ChangeSpec := { name := "filterStill", fn := fun _ => fun
  | [d1, d2, d3] => { results := [.lit (.bool true)], args := [d1, d2, d3] }
  | _ => none }
def filterStillRow : OpenClaim := { program := "ytoicokgocmhnhaa", sum := "95d4675c06ccb18739644a78ffb3907a50c5cdd7d3f6a5310f6245973c388edc", func := "tidewait/tidewaitkeep.FilterStill", spec := "filterStill", apart := false }
def FilterStillSaid : Prop := filterStillRow.holds Try.pinned (OpenSpec.ofChange filterStillSpec)

/-- ITS FALSE NEIGHBOUR: 'it returns false'. Refute it at one input. -/
def filterStillWrong : ChangeSpec := { name := "filterStill", fn := fun _ => fun
  | [d1, d2, d3] => { results := [.lit (.bool false)], args := [d1, d2, d3] }
  | _ => none }
def FilterStillWrongFalsely : Prop := filterStillRow.holds Try.pinned (OpenSpec.ofChange filterStillWrong)

/-- 'tidewaitkeep.NumSums': WHATEVER THE INPUT: true; the input reads as it did. -/
def numSumsSpec : ChangeSpec := { name := "numSums", fn := fun _ => fun
  | [d1, d2, d3] => { results := [.lit (.bool true)], args := [d1, d2, d3] }
  | _ => none }
def numSumsRow : OpenClaim := { program := "ytoicokgocmhnhaa", sum := "95d4675c06ccb18739644a78ffb3907a50c5cdd7d3f6a5310f6245973c388edc", func := "tidewait/tidewaitkeep.NumSums", spec := "numSums", named := ["math/bits.divideError", "math/bits.overflowError"], apart := false }
def NumSumsSaid : Prop := numSumsRow.holds Try.pinned (OpenSpec.ofChange numSumsSpec)

/-- ITS FALSE NEIGHBOUR: 'it returns false'. Refute it at one input. -/
def numSumsWrong : ChangeSpec := { name := "numSums", fn := fun _ => fun
  | [d1, d2, d3] => { results := [.lit (.bool false)], args := [d1, d2, d3] }
  | _ => none }
def NumSumsWrongFalsely : Prop := numSumsRow.holds Try.pinned (OpenSpec.ofChange numSumsWrong)

/-- 'tidewaitkeep.NumLess': WHATEVER THE INPUT: true; the input reads as it did. -/
def numLessSpec : ChangeSpec := { name := "numLess", fn := fun _ => fun
  | [d1, d2, d3] => { results := [.lit (.bool true)], args := [d1, d2, d3] }
  | _ => none }
def numLessRow : OpenClaim := { program := "ytoicokgocmhnhaa", sum := "95d4675c06ccb18739644a78ffb3907a50c5cdd7d3f6a5310f6245973c388edc", func := "tidewait/tidewaitkeep.NumLess", spec := "numLess", named := ["math/bits.divideError", "math/bits.overflowError"], apart := false }
def NumLessSaid : Prop := numLessRow.holds Try.pinned (OpenSpec.ofChange numLessSpec)

/-- ITS FALSE NEIGHBOUR: 'it returns false'. Refute it at one input. -/
def numLessWrong : ChangeSpec := { name := "numLess", fn := fun _ => fun
  | [d1, d2, d3] => { results := [.lit (.bool false)], args := [d1, d2, d3] }
  | _ => none }
def NumLessWrongFalsely : Prop := numLessRow.holds Try.pinned (OpenSpec.ofChange numLessWrong)

/-- 'tidewaitkeep.NumMulDiv': WHATEVER THE INPUT: true; the input reads as it did. -/
def numMulDivSpec : ChangeSpec := { name := "numMulDiv", fn := fun _ => fun
  | [d1, d2, d3] => { results := [.lit (.bool true)], args := [d1, d2, d3] }
  | _ => none }
def numMulDivRow : OpenClaim := { program := "ytoicokgocmhnhaa", sum := "95d4675c06ccb18739644a78ffb3907a50c5cdd7d3f6a5310f6245973c388edc", func := "tidewait/tidewaitkeep.NumMulDiv", spec := "numMulDiv", named := ["math/bits.divideError", "math/bits.overflowError"], apart := false }
def NumMulDivSaid : Prop := numMulDivRow.holds Try.pinned (OpenSpec.ofChange numMulDivSpec)

/-- ITS FALSE NEIGHBOUR: 'it returns false'. Refute it at one input. -/
def numMulDivWrong : ChangeSpec := { name := "numMulDiv", fn := fun _ => fun
  | [d1, d2, d3] => { results := [.lit (.bool false)], args := [d1, d2, d3] }
  | _ => none }
def NumMulDivWrongFalsely : Prop := numMulDivRow.holds Try.pinned (OpenSpec.ofChange numMulDivWrong)

/- THE SECOND FORM. 'bulk': how many values and letters a reading holds, each counted each time it is reached (what is shared counts as often as it is met; a slice's spare places count too). A statement '..UptoSaid' is the law's where the arguments, and the package variables that the reading takes, are together of bulk at most 1048576: NARROWER than '..Said'. Prove '..Said' where nothing that the law and all that it calls make is longer than what came in: it says more and counts as full. Else prove '..UptoSaid'. A law counts once. -/
mutual
def uptoBulk {H : Type} : DataW H → Nat
  | .lit (.string bytes) => bytes.length + 1
  | .lit _ => 1
  | .nil => 1
  | .ptr d => uptoBulk d + 1
  | .slice elems spare => uptoBulkAll elems + uptoBulkAll spare + 1
  | .agg parts => uptoBulkAll parts + 1
  | .iface _ d => uptoBulk d + 1
  | .map entries => uptoBulkEntries entries + 1
  | .held _ => 1
def uptoBulkAll {H : Type} : List (DataW H) → Nat
  | [] => 0
  | d :: r => uptoBulk d + uptoBulkAll r
def uptoBulkEntries {H : Type} : List (Lit × DataW H) → Nat
  | [] => 0
  | x :: r => uptoBulkEntry x + uptoBulkEntries r
def uptoBulkEntry {H : Type} : Lit × DataW H → Nat
  | (.string bytes, d) => bytes.length + uptoBulk d + 1
  | (_, d) => uptoBulk d + 1
 end
def uptoSmall : (H : Type) → List (DataW H) → Bool := fun _ ds => decide (uptoBulkAll ds ≤ 1048576)
def OpenSpec.upto (s : _root_.Go.ChangeSpec) : _root_.Go.OpenSpec := { _root_.Go.OpenSpec.ofChange s with cond := some uptoSmall }

/-- 'tidewaitkeep.FilterBetween', WHERE WHAT IT READS IS OF BULK AT MOST 1048576: true; the input reads as it did. -/
def filterBetweenUptoRow : OpenClaim := { program := "ytoicokgocmhnhaa", sum := "95d4675c06ccb18739644a78ffb3907a50c5cdd7d3f6a5310f6245973c388edc", func := "tidewait/tidewaitkeep.FilterBetween", spec := "filterBetween", apart := false, narrowed := true }
def FilterBetweenUptoSaid : Prop := filterBetweenUptoRow.holds Try.pinned (OpenSpec.upto filterBetweenSpec)

/-- 'tidewaitkeep.FilterRises', WHERE WHAT IT READS IS OF BULK AT MOST 1048576: true; the input reads as it did. -/
def filterRisesUptoRow : OpenClaim := { program := "ytoicokgocmhnhaa", sum := "95d4675c06ccb18739644a78ffb3907a50c5cdd7d3f6a5310f6245973c388edc", func := "tidewait/tidewaitkeep.FilterRises", spec := "filterRises", apart := false, narrowed := true }
def FilterRisesUptoSaid : Prop := filterRisesUptoRow.holds Try.pinned (OpenSpec.upto filterRisesSpec)

/-- 'tidewaitkeep.LinkSums', WHERE WHAT IT READS IS OF BULK AT MOST 1048576: true; the input reads as it did. -/
def linkSumsUptoRow : OpenClaim := { program := "ytoicokgocmhnhaa", sum := "95d4675c06ccb18739644a78ffb3907a50c5cdd7d3f6a5310f6245973c388edc", func := "tidewait/tidewaitkeep.LinkSums", spec := "linkSums", unfollowed := true, recurses := true, apart := false, narrowed := true }
def LinkSumsUptoSaid : Prop := linkSumsUptoRow.holds Try.pinned (OpenSpec.upto linkSumsSpec)

/-- 'tidewaitkeep.LinkFair', WHERE WHAT IT READS IS OF BULK AT MOST 1048576: true; the input reads as it did. -/
def linkFairUptoRow : OpenClaim := { program := "ytoicokgocmhnhaa", sum := "95d4675c06ccb18739644a78ffb3907a50c5cdd7d3f6a5310f6245973c388edc", func := "tidewait/tidewaitkeep.LinkFair", spec := "linkFair", unfollowed := true, recurses := true, apart := false, narrowed := true }
def LinkFairUptoSaid : Prop := linkFairUptoRow.holds Try.pinned (OpenSpec.upto linkFairSpec)

/-- 'tidewaitkeep.LinkMore', WHERE WHAT IT READS IS OF BULK AT MOST 1048576: true; the input reads as it did. -/
def linkMoreUptoRow : OpenClaim := { program := "ytoicokgocmhnhaa", sum := "95d4675c06ccb18739644a78ffb3907a50c5cdd7d3f6a5310f6245973c388edc", func := "tidewait/tidewaitkeep.LinkMore", spec := "linkMore", unfollowed := true, recurses := true, apart := false, narrowed := true }
def LinkMoreUptoSaid : Prop := linkMoreUptoRow.holds Try.pinned (OpenSpec.upto linkMoreSpec)

/-- 'tidewaitkeep.JitterTwice', WHERE WHAT IT READS IS OF BULK AT MOST 1048576: true; the input reads as it did. -/
def jitterTwiceUptoRow : OpenClaim := { program := "ytoicokgocmhnhaa", sum := "95d4675c06ccb18739644a78ffb3907a50c5cdd7d3f6a5310f6245973c388edc", func := "tidewait/tidewaitkeep.JitterTwice", spec := "jitterTwice", unfollowed := true, recurses := true, apart := false, narrowed := true }
def JitterTwiceUptoSaid : Prop := jitterTwiceUptoRow.holds Try.pinned (OpenSpec.upto jitterTwiceSpec)

/-- 'tidewaitkeep.JitterLater', WHERE WHAT IT READS IS OF BULK AT MOST 1048576: true; the input reads as it did. -/
def jitterLaterUptoRow : OpenClaim := { program := "ytoicokgocmhnhaa", sum := "95d4675c06ccb18739644a78ffb3907a50c5cdd7d3f6a5310f6245973c388edc", func := "tidewait/tidewaitkeep.JitterLater", spec := "jitterLater", unfollowed := true, recurses := true, apart := false, narrowed := true }
def JitterLaterUptoSaid : Prop := jitterLaterUptoRow.holds Try.pinned (OpenSpec.upto jitterLaterSpec)

/-- 'tidewaitkeep.JitterOrder', WHERE WHAT IT READS IS OF BULK AT MOST 1048576: true; the input reads as it did. -/
def jitterOrderUptoRow : OpenClaim := { program := "ytoicokgocmhnhaa", sum := "95d4675c06ccb18739644a78ffb3907a50c5cdd7d3f6a5310f6245973c388edc", func := "tidewait/tidewaitkeep.JitterOrder", spec := "jitterOrder", unfollowed := true, recurses := true, apart := false, narrowed := true }
def JitterOrderUptoSaid : Prop := jitterOrderUptoRow.holds Try.pinned (OpenSpec.upto jitterOrderSpec)

/-- 'tidewaitkeep.FilterStill', WHERE WHAT IT READS IS OF BULK AT MOST 1048576: true; the input reads as it did. -/
def filterStillUptoRow : OpenClaim := { program := "ytoicokgocmhnhaa", sum := "95d4675c06ccb18739644a78ffb3907a50c5cdd7d3f6a5310f6245973c388edc", func := "tidewait/tidewaitkeep.FilterStill", spec := "filterStill", apart := false, narrowed := true }
def FilterStillUptoSaid : Prop := filterStillUptoRow.holds Try.pinned (OpenSpec.upto filterStillSpec)

/-- 'tidewaitkeep.NumSums', WHERE WHAT IT READS IS OF BULK AT MOST 1048576: true; the input reads as it did. -/
def numSumsUptoRow : OpenClaim := { program := "ytoicokgocmhnhaa", sum := "95d4675c06ccb18739644a78ffb3907a50c5cdd7d3f6a5310f6245973c388edc", func := "tidewait/tidewaitkeep.NumSums", spec := "numSums", named := ["math/bits.divideError", "math/bits.overflowError"], apart := false, narrowed := true }
def NumSumsUptoSaid : Prop := numSumsUptoRow.holds Try.pinned (OpenSpec.upto numSumsSpec)

/-- 'tidewaitkeep.NumLess', WHERE WHAT IT READS IS OF BULK AT MOST 1048576: true; the input reads as it did. -/
def numLessUptoRow : OpenClaim := { program := "ytoicokgocmhnhaa", sum := "95d4675c06ccb18739644a78ffb3907a50c5cdd7d3f6a5310f6245973c388edc", func := "tidewait/tidewaitkeep.NumLess", spec := "numLess", named := ["math/bits.divideError", "math/bits.overflowError"], apart := false, narrowed := true }
def NumLessUptoSaid : Prop := numLessUptoRow.holds Try.pinned (OpenSpec.upto numLessSpec)

/-- 'tidewaitkeep.NumMulDiv', WHERE WHAT IT READS IS OF BULK AT MOST 1048576: true; the input reads as it did. -/
def numMulDivUptoRow : OpenClaim := { program := "ytoicokgocmhnhaa", sum := "95d4675c06ccb18739644a78ffb3907a50c5cdd7d3f6a5310f6245973c388edc", func := "tidewait/tidewaitkeep.NumMulDiv", spec := "numMulDiv", named := ["math/bits.divideError", "math/bits.overflowError"], apart := false, narrowed := true }
def NumMulDivUptoSaid : Prop := numMulDivUptoRow.holds Try.pinned (OpenSpec.upto numMulDivSpec)

end Rows
end Go.Proofs.Ytoicokgocmhnhaa
