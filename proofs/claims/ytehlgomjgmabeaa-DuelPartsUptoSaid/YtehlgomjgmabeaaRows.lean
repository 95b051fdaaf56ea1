/-
  No cell of these rows narrows 'for every input' (looked for: loops, veiled, ifaces, maps, wideKeys, modest, calm, conditions, laid).
  DERIVED. THE GIVEN ROWS OF THIS SEAT. 8 by the template 'for every input the law returns true; each argument reads behind the call as it read before'; 0 by the template 'total and deterministic' (their statements: YtehlgomjgmabeaaTotals.lean).
  GIVEN WITH THE SEED: the statements are not yours to turn. If you find one false, say at which input.
  Laid BY PROGRAM, IN A SANDBOX (cutbox-rows.mjs): the forced cells as the released guide's own fill.sh prints them over the translation 6c165b61ee73772f… (all of the seat's roots in one cut). By AI agents, Wed Nov 11 2026. No macro, syntax, notation, axiom, sorry.
-/
import Derived.Test.YtehlgomjgmabeaaChecked
import GoSem.Claim
import GoSem.ClaimJoined
import GoSem.ClaimMapViews
import Derived.JoinedTies
import Derived.KernelRfl
namespace Go.Proofs.Ytehlgomjgmabeaa
/- THE CELL 'sum', in the pinned program and in every row, IS THE sha256 OF THE DUMP (.gsa) THAT YtehlgomjgmabeaaProg.lean LOADS. Nothing in Lean hashes anything: it is a label: what it is worth is what the hold of that sum in a sandbox is worth. -/
noncomputable def Try.pinned : Pinned := { name := "ytehlgomjgmabeaa", sum := "6c165b61ee73772f5631d1ee855d273bd5eafb9a5f12a4f7ec67dc4fe97570e7", checked := Try.checked }
namespace Rows
def none {H : Type} : Left H := { results := [], args := [] }

/-- 'tidewaitkeep.DuelParts': WHATEVER THE INPUT: true; the input reads as it did. -/
def duelPartsSpec : ChangeSpec := { name := "duelParts", fn := fun _ => fun
  | [d1, d2, d3] => { results := [.lit (.bool true)], args := [d1, d2, d3] }
  | _ => none }
def duelPartsRow : OpenClaim := { program := "ytehlgomjgmabeaa", sum := "6c165b61ee73772f5631d1ee855d273bd5eafb9a5f12a4f7ec67dc4fe97570e7", func := "tidewait/tidewaitkeep.DuelParts", spec := "duelParts", unfollowed := true, recurses := true, plainKeys := false, apart := false }
def DuelPartsSaid : Prop := duelPartsRow.holds Try.pinned (OpenSpec.ofChange duelPartsSpec)

/-- ITS FALSE NEIGHBOUR: 'it returns false'. Refute it at one input. -/
def duelPartsWrong : ChangeSpec := { name := "duelParts", fn := fun _ => fun
  | [d1, d2, d3] => { results := [.lit (.bool false)], args := [d1, d2, d3] }
  | _ => none }
def DuelPartsWrongFalsely : Prop := duelPartsRow.holds Try.pinned (OpenSpec.ofChange duelPartsWrong)

/-- 'tidewaitkeep.SteadyClosed': WHATEVER THE INPUT: true; the input reads as it did. -/
def steadyClosedSpec : ChangeSpec := { name := "steadyClosed", fn := fun _ => fun
  | [d1, d2] => { results := [.lit (.bool true)], args := [d1, d2] }
  | _ => none }
def steadyClosedRow : OpenClaim := { program := "ytehlgomjgmabeaa", sum := "6c165b61ee73772f5631d1ee855d273bd5eafb9a5f12a4f7ec67dc4fe97570e7", func := "tidewait/tidewaitkeep.SteadyClosed", spec := "steadyClosed", unfollowed := true, recurses := true, plainKeys := false, apart := false }
def SteadyClosedSaid : Prop := steadyClosedRow.holds Try.pinned (OpenSpec.ofChange steadyClosedSpec)

/-- ITS FALSE NEIGHBOUR: 'it returns false'. Refute it at one input. -/
def steadyClosedWrong : ChangeSpec := { name := "steadyClosed", fn := fun _ => fun
  | [d1, d2] => { results := [.lit (.bool false)], args := [d1, d2] }
  | _ => none }
def SteadyClosedWrongFalsely : Prop := steadyClosedRow.holds Try.pinned (OpenSpec.ofChange steadyClosedWrong)

/-- 'tidewaitkeep.SteadyLead': WHATEVER THE INPUT: true; the input reads as it did. -/
def steadyLeadSpec : ChangeSpec := { name := "steadyLead", fn := fun _ => fun
  | [d1, d2, d3] => { results := [.lit (.bool true)], args := [d1, d2, d3] }
  | _ => none }
def steadyLeadRow : OpenClaim := { program := "ytehlgomjgmabeaa", sum := "6c165b61ee73772f5631d1ee855d273bd5eafb9a5f12a4f7ec67dc4fe97570e7", func := "tidewait/tidewaitkeep.SteadyLead", spec := "steadyLead", unfollowed := true, recurses := true, plainKeys := false, apart := false }
def SteadyLeadSaid : Prop := steadyLeadRow.holds Try.pinned (OpenSpec.ofChange steadyLeadSpec)

/-- ITS FALSE NEIGHBOUR: 'it returns false'. Refute it at one input. -/
def steadyLeadWrong : ChangeSpec := { name := "steadyLead", fn := fun _ => fun
  | [d1, d2, d3] => { results := [.lit (.bool false)], args := [d1, d2, d3] }
  | _ => none }
def SteadyLeadWrongFalsely : Prop := steadyLeadRow.holds Try.pinned (OpenSpec.ofChange steadyLeadWrong)

/-- 'tidewaitkeep.SteadyWeighs': WHATEVER THE INPUT: true; the input reads as it did. -/
def steadyWeighsSpec : ChangeSpec := { name := "steadyWeighs", fn := fun _ => fun
  | [d1, d2, d3, d4] => { results := [.lit (.bool true)], args := [d1, d2, d3, d4] }
  | _ => none }
def steadyWeighsRow : OpenClaim := { program := "ytehlgomjgmabeaa", sum := "6c165b61ee73772f5631d1ee855d273bd5eafb9a5f12a4f7ec67dc4fe97570e7", func := "tidewait/tidewaitkeep.SteadyWeighs", spec := "steadyWeighs", unfollowed := true, recurses := true, plainKeys := false, apart := false }
def SteadyWeighsSaid : Prop := steadyWeighsRow.holds Try.pinned (OpenSpec.ofChange steadyWeighsSpec)

/-- ITS FALSE NEIGHBOUR: 'it returns false'. Refute it at one input. -/
def steadyWeighsWrong : ChangeSpec := { name := "steadyWeighs", fn := fun _ => fun
  | [d1, d2, d3, d4] => { results := [.lit (.bool false)], args := [d1, d2, d3, d4] }
  | _ => none }
def SteadyWeighsWrongFalsely : Prop := steadyWeighsRow.holds Try.pinned (OpenSpec.ofChange steadyWeighsWrong)

/-- 'tidewaitkeep.VerdictJitter': WHATEVER THE INPUT: true; the input reads as it did. -/
def verdictJitterSpec : ChangeSpec := { name := "verdictJitter", fn := fun _ => fun
  | [d1, d2, d3, d4, d5] => { results := [.lit (.bool true)], args := [d1, d2, d3, d4, d5] }
  | _ => none }
def verdictJitterRow : OpenClaim := { program := "ytehlgomjgmabeaa", sum := "6c165b61ee73772f5631d1ee855d273bd5eafb9a5f12a4f7ec67dc4fe97570e7", func := "tidewait/tidewaitkeep.VerdictJitter", spec := "verdictJitter", unfollowed := true, recurses := true, plainKeys := false, apart := false }
def VerdictJitterSaid : Prop := verdictJitterRow.holds Try.pinned (OpenSpec.ofChange verdictJitterSpec)

/-- ITS FALSE NEIGHBOUR: 'it returns false'. Refute it at one input. -/
def verdictJitterWrong : ChangeSpec := { name := "verdictJitter", fn := fun _ => fun
  | [d1, d2, d3, d4, d5] => { results := [.lit (.bool false)], args := [d1, d2, d3, d4, d5] }
  | _ => none }
def VerdictJitterWrongFalsely : Prop := verdictJitterRow.holds Try.pinned (OpenSpec.ofChange verdictJitterWrong)

/-- 'tidewaitkeep.VerdictBounds': WHATEVER THE INPUT: true; the input reads as it did. -/
def verdictBoundsSpec : ChangeSpec := { name := "verdictBounds", fn := fun _ => fun
  | [d1, d2, d3, d4, d5, d6] => { results := [.lit (.bool true)], args := [d1, d2, d3, d4, d5, d6] }
  | _ => none }
def verdictBoundsRow : OpenClaim := { program := "ytehlgomjgmabeaa", sum := "6c165b61ee73772f5631d1ee855d273bd5eafb9a5f12a4f7ec67dc4fe97570e7", func := "tidewait/tidewaitkeep.VerdictBounds", spec := "verdictBounds", unfollowed := true, recurses := true, plainKeys := false, apart := false }
def VerdictBoundsSaid : Prop := verdictBoundsRow.holds Try.pinned (OpenSpec.ofChange verdictBoundsSpec)

/-- ITS FALSE NEIGHBOUR: 'it returns false'. Refute it at one input. -/
def verdictBoundsWrong : ChangeSpec := { name := "verdictBounds", fn := fun _ => fun
  | [d1, d2, d3, d4, d5, d6] => { results := [.lit (.bool false)], args := [d1, d2, d3, d4, d5, d6] }
  | _ => none }
def VerdictBoundsWrongFalsely : Prop := verdictBoundsRow.holds Try.pinned (OpenSpec.ofChange verdictBoundsWrong)

/-- 'tidewaitkeep.VerdictLeast': WHATEVER THE INPUT: true; the input reads as it did. -/
def verdictLeastSpec : ChangeSpec := { name := "verdictLeast", fn := fun _ => fun
  | [d1, d2, d3, d4] => { results := [.lit (.bool true)], args := [d1, d2, d3, d4] }
  | _ => none }
def verdictLeastRow : OpenClaim := { program := "ytehlgomjgmabeaa", sum := "6c165b61ee73772f5631d1ee855d273bd5eafb9a5f12a4f7ec67dc4fe97570e7", func := "tidewait/tidewaitkeep.VerdictLeast", spec := "verdictLeast", unfollowed := true, recurses := true, plainKeys := false, apart := false }
def VerdictLeastSaid : Prop := verdictLeastRow.holds Try.pinned (OpenSpec.ofChange verdictLeastSpec)

/-- ITS FALSE NEIGHBOUR: 'it returns false'. Refute it at one input. -/
def verdictLeastWrong : ChangeSpec := { name := "verdictLeast", fn := fun _ => fun
  | [d1, d2, d3, d4] => { results := [.lit (.bool false)], args := [d1, d2, d3, d4] }
  | _ => none }
def VerdictLeastWrongFalsely : Prop := verdictLeastRow.holds Try.pinned (OpenSpec.ofChange verdictLeastWrong)

/-- 'tidewaitkeep.VerdictStarves': WHATEVER THE INPUT: true; the input reads as it did. -/
def verdictStarvesSpec : ChangeSpec := { name := "verdictStarves", fn := fun _ => fun
  | [d1, d2, d3, d4] => { results := [.lit (.bool true)], args := [d1, d2, d3, d4] }
  | _ => none }
def verdictStarvesRow : OpenClaim := { program := "ytehlgomjgmabeaa", sum := "6c165b61ee73772f5631d1ee855d273bd5eafb9a5f12a4f7ec67dc4fe97570e7", func := "tidewait/tidewaitkeep.VerdictStarves", spec := "verdictStarves", unfollowed := true, recurses := true, plainKeys := false, apart := false }
def VerdictStarvesSaid : Prop := verdictStarvesRow.holds Try.pinned (OpenSpec.ofChange verdictStarvesSpec)

/-- ITS FALSE NEIGHBOUR: 'it returns false'. Refute it at one input. -/
def verdictStarvesWrong : ChangeSpec := { name := "verdictStarves", fn := fun _ => fun
  | [d1, d2, d3, d4] => { results := [.lit (.bool false)], args := [d1, d2, d3, d4] }
  | _ => none }
def VerdictStarvesWrongFalsely : Prop := verdictStarvesRow.holds Try.pinned (OpenSpec.ofChange verdictStarvesWrong)

/- THE SECOND FORM. 'bulk': how many values and letters a reading holds, each counted each time it is reached (what is shared counts as often as it is met; a slice's spare places count too). A statement '..UptoSaid' is the law's where the arguments, and the package variables that the reading takes, are together of bulk at most 1048576: NARROWER than '..Said'. Prove '..Said' where nothing that the law and all that it calls make is longer than what came in: it says more and counts as full. Else prove '..UptoSaid'. A law counts once. -/
mutual
def uptoBulk {H : Type} : DataW H → Nat
  | .lit (.string bytes) => bytes.length + 1
  | .lit _ => 1
  | .nil => 1
  | .ptr d => uptoBulk d + 1
  | .slice elems spare => uptoBulkAll elems + uptoBulkAll spare + 1
  | .agg parts => uptoBulkAll parts + 1
  | .iface _ d => uptoBulk d + 1
  | .map entries => uptoBulkEntries entries + 1
  | .held _ => 1
def uptoBulkAll {H : Type} : List (DataW H) → Nat
  | [] => 0
  | d :: r => uptoBulk d + uptoBulkAll r
def uptoBulkEntries {H : Type} : List (Lit × DataW H) → Nat
  | [] => 0
  | x :: r => uptoBulkEntry x + uptoBulkEntries r
def uptoBulkEntry {H : Type} : Lit × DataW H → Nat
  | (.string bytes, d) => bytes.length + uptoBulk d + 1
  | (_, d) => uptoBulk d + 1
 end
def uptoSmall : (H : Type) → List (DataW H) → Bool := fun _ ds => decide (uptoBulkAll ds ≤ 1048576)
def OpenSpec.upto (s : _root_.Go.ChangeSpec) : _root_.Go.OpenSpec := { _root_.Go.OpenSpec.ofChange s with cond := some uptoSmall }

/-- 'tidewaitkeep.DuelParts', WHERE WHAT IT READS IS OF BULK AT MOST 1048576: true; the input reads as it did. -/
def duelPartsUptoRow : OpenClaim := { program := "ytehlgomjgmabeaa", sum := "6c165b61ee73772f5631d1ee855d273bd5eafb9a5f12a4f7ec67dc4fe97570e7", func := "tidewait/tidewaitkeep.DuelParts", spec := "duelParts", unfollowed := true, recurses := true, plainKeys := false, apart := false, narrowed := true }
def DuelPartsUptoSaid : Prop := duelPartsUptoRow.holds Try.pinned (OpenSpec.upto duelPartsSpec)

/-- 'tidewaitkeep.SteadyClosed', WHERE WHAT IT READS IS OF BULK AT MOST 1048576: true; the input reads as it did. -/
def steadyClosedUptoRow : OpenClaim := { program := "ytehlgomjgmabeaa", sum := "6c165b61ee73772f5631d1ee855d273bd5eafb9a5f12a4f7ec67dc4fe97570e7", func := "tidewait/tidewaitkeep.SteadyClosed", spec := "steadyClosed", unfollowed := true, recurses := true, plainKeys := false, apart := false, narrowed := true }
def SteadyClosedUptoSaid : Prop := steadyClosedUptoRow.holds Try.pinned (OpenSpec.upto steadyClosedSpec)

/-- 'tidewaitkeep.SteadyLead', WHERE WHAT IT READS IS OF BULK AT MOST 1048576: true; the input reads as it did. -/
def steadyLeadUptoRow : OpenClaim := { program := "ytehlgomjgmabeaa", sum := "6c165b61ee73772f5631d1ee855d273bd5eafb9a5f12a4f7ec67dc4fe97570e7", func := "tidewait/tidewaitkeep.SteadyLead", spec := "steadyLead", unfollowed := true, recurses := true, plainKeys := false, apart := false, narrowed := true }
def SteadyLeadUptoSaid : Prop := steadyLeadUptoRow.holds Try.pinned (OpenSpec.upto steadyLeadSpec)

/-- 'tidewaitkeep.SteadyWeighs', WHERE WHAT IT READS IS OF BULK AT MOST 1048576: true; the input reads as it did. -/
def steadyWeighsUptoRow : OpenClaim := { program := "ytehlgomjgmabeaa", sum := "6c165b61ee73772f5631d1ee855d273bd5eafb9a5f12a4f7ec67dc4fe97570e7", func := "tidewait/tidewaitkeep.SteadyWeighs", spec := "steadyWeighs", unfollowed := true, recurses := true, plainKeys := false, apart := false, narrowed := true }
def SteadyWeighsUptoSaid : Prop := steadyWeighsUptoRow.holds Try.pinned (OpenSpec.upto steadyWeighsSpec)

/-- 'tidewaitkeep.VerdictJitter', WHERE WHAT IT READS IS OF BULK AT MOST 1048576: true; the input reads as it did. -/
def verdictJitterUptoRow : OpenClaim := { program := "ytehlgomjgmabeaa", sum := "6c165b61ee73772f5631d1ee855d273bd5eafb9a5f12a4f7ec67dc4fe97570e7", func := "tidewait/tidewaitkeep.VerdictJitter", spec := "verdictJitter", unfollowed := true, recurses := true, plainKeys := false, apart := false, narrowed := true }
def VerdictJitterUptoSaid : Prop := verdictJitterUptoRow.holds Try.pinned (OpenSpec.upto verdictJitterSpec)

/-- 'tidewaitkeep.VerdictBounds', WHERE WHAT IT READS IS OF BULK AT MOST 1048576: true; the input reads as it did. -/
def verdictBoundsUptoRow : OpenClaim := { program := "ytehlgomjgmabeaa", sum := "6c165b61ee73772f5631d1ee855d273bd5eafb9a5f12a4f7ec67dc4fe97570e7", func := "tidewait/tidewaitkeep.VerdictBounds", spec := "verdictBounds", unfollowed := true, recurses := true, plainKeys := false, apart := false, narrowed := true }
def VerdictBoundsUptoSaid : Prop := verdictBoundsUptoRow.holds Try.pinned (OpenSpec.upto verdictBoundsSpec)

/-- 'tidewaitkeep.VerdictLeast', WHERE WHAT IT READS IS OF BULK AT MOST 1048576: true; the input reads as it did. -/
def verdictLeastUptoRow : OpenClaim := { program := "ytehlgomjgmabeaa", sum := "6c165b61ee73772f5631d1ee855d273bd5eafb9a5f12a4f7ec67dc4fe97570e7", func := "tidewait/tidewaitkeep.VerdictLeast", spec := "verdictLeast", unfollowed := true, recurses := true, plainKeys := false, apart := false, narrowed := true }
def VerdictLeastUptoSaid : Prop := verdictLeastUptoRow.holds Try.pinned (OpenSpec.upto verdictLeastSpec)

/-- 'tidewaitkeep.VerdictStarves', WHERE WHAT IT READS IS OF BULK AT MOST 1048576: true; the input reads as it did. -/
def verdictStarvesUptoRow : OpenClaim := { program := "ytehlgomjgmabeaa", sum := "6c165b61ee73772f5631d1ee855d273bd5eafb9a5f12a4f7ec67dc4fe97570e7", func := "tidewait/tidewaitkeep.VerdictStarves", spec := "verdictStarves", unfollowed := true, recurses := true, plainKeys := false, apart := false, narrowed := true }
def VerdictStarvesUptoSaid : Prop := verdictStarvesUptoRow.holds Try.pinned (OpenSpec.upto verdictStarvesSpec)

end Rows
end Go.Proofs.Ytehlgomjgmabeaa
