/-
  No cell of these rows narrows 'for every input' (looked for: loops, veiled, ifaces, maps, wideKeys, modest, calm, conditions, laid).
  DERIVED. THE GIVEN ROWS OF THIS SEAT. 3 by the template 'for every input the law returns true; each argument reads behind the call as it read before'; 0 by the template 'total and deterministic' (their statements: YtnlglhfpcoicaabTotals.lean).
  GIVEN WITH THE SEED: the statements are not yours to turn. If you find one false, say at which input.
  Laid BY PROGRAM, IN A SANDBOX (cutbox-rows.mjs): the forced cells as the released guide's own fill.sh prints them over the translation 2a1b22f2fe711f5a… (all of the seat's roots in one cut). By AI agents, Wed Nov 11 2026. No macro, syntax, notation, axiom, sorry.
-/
import Derived.Test.YtnlglhfpcoicaabChecked
import GoSem.Claim
import GoSem.ClaimJoined
import GoSem.ClaimMapViews
import Derived.JoinedTies
import Derived.KernelRfl
namespace Go.Proofs.Ytnlglhfpcoicaab
/- THE CELL 'sum', in the pinned program and in every row, IS THE sha256 OF THE DUMP (.gsa) THAT YtnlglhfpcoicaabProg.lean LOADS. Nothing in Lean hashes anything: it is a label: what it is worth is what the hold of that sum in a sandbox is worth. -/
noncomputable def Try.pinned : Pinned := { name := "ytnlglhfpcoicaab", sum := "2a1b22f2fe711f5a73800ca549f60a64e75cc295b8d79a8668e24146b47e70c5", checked := Try.checked }
namespace Rows
def none {H : Type} : Left H := { results := [], args := [] }

/-- 'tidewaitkeep.DuelAlike': WHATEVER THE INPUT: true; the input reads as it did. -/
def duelAlikeSpec : ChangeSpec := { name := "duelAlike", fn := fun _ => fun
  | [d1, d2] => { results := [.lit (.bool true)], args := [d1, d2] }
  | _ => none }
def duelAlikeRow : OpenClaim := { program := "ytnlglhfpcoicaab", sum := "2a1b22f2fe711f5a73800ca549f60a64e75cc295b8d79a8668e24146b47e70c5", func := "tidewait/tidewaitkeep.DuelAlike", spec := "duelAlike", unfollowed := true, recurses := true, apart := false }
def DuelAlikeSaid : Prop := duelAlikeRow.holds Try.pinned (OpenSpec.ofChange duelAlikeSpec)

/-- ITS FALSE NEIGHBOUR: 'it returns false'. Refute it at one input. -/
def duelAlikeWrong : ChangeSpec := { name := "duelAlike", fn := fun _ => fun
  | [d1, d2] => { results := [.lit (.bool false)], args := [d1, d2] }
  | _ => none }
def DuelAlikeWrongFalsely : Prop := duelAlikeRow.holds Try.pinned (OpenSpec.ofChange duelAlikeWrong)

/-- 'tidewaitkeep.DuelSums': WHATEVER THE INPUT: true; the input reads as it did. -/
def duelSumsSpec : ChangeSpec := { name := "duelSums", fn := fun _ => fun
  | [d1, d2] => { results := [.lit (.bool true)], args := [d1, d2] }
  | _ => none }
def duelSumsRow : OpenClaim := { program := "ytnlglhfpcoicaab", sum := "2a1b22f2fe711f5a73800ca549f60a64e75cc295b8d79a8668e24146b47e70c5", func := "tidewait/tidewaitkeep.DuelSums", spec := "duelSums", unfollowed := true, recurses := true, apart := false }
def DuelSumsSaid : Prop := duelSumsRow.holds Try.pinned (OpenSpec.ofChange duelSumsSpec)

/-- ITS FALSE NEIGHBOUR: 'it returns false'. Refute it at one input. -/
def duelSumsWrong : ChangeSpec := { name := "duelSums", fn := fun _ => fun
  | [d1, d2] => { results := [.lit (.bool false)], args := [d1, d2] }
  | _ => none }
def DuelSumsWrongFalsely : Prop := duelSumsRow.holds Try.pinned (OpenSpec.ofChange duelSumsWrong)

/-- 'tidewaitkeep.DuelParts': WHATEVER THE INPUT: true; the input reads as it did. -/
def duelPartsSpec : ChangeSpec := { name := "duelParts", fn := fun _ => fun
  | [d1, d2, d3] => { results := [.lit (.bool true)], args := [d1, d2, d3] }
  | _ => none }
def duelPartsRow : OpenClaim := { program := "ytnlglhfpcoicaab", sum := "2a1b22f2fe711f5a73800ca549f60a64e75cc295b8d79a8668e24146b47e70c5", func := "tidewait/tidewaitkeep.DuelParts", spec := "duelParts", unfollowed := true, recurses := true, apart := false }
def DuelPartsSaid : Prop := duelPartsRow.holds Try.pinned (OpenSpec.ofChange duelPartsSpec)

/-- ITS FALSE NEIGHBOUR: 'it returns false'. Refute it at one input. -/
def duelPartsWrong : ChangeSpec := { name := "duelParts", fn := fun _ => fun
  | [d1, d2, d3] => { results := [.lit (.bool false)], args := [d1, d2, d3] }
  | _ => none }
def DuelPartsWrongFalsely : Prop := duelPartsRow.holds Try.pinned (OpenSpec.ofChange duelPartsWrong)

/- THE SECOND FORM. 'bulk': how many values and letters a reading holds, each counted each time it is reached (what is shared counts as often as it is met; a slice's spare places count too). A statement '..UptoSaid' is the law's where the arguments, and the package variables that the reading takes, are together of bulk at most 1048576: NARROWER than '..Said'. Prove '..Said' where nothing that the law and all that it calls make is longer than what came in: it says more and counts as full. Else prove '..UptoSaid'. A law counts once. -/
mutual
def uptoBulk {H : Type} : DataW H → Nat
  | .lit (.string bytes) => bytes.length + 1
  | .lit _ => 1
  | .nil => 1
  | .ptr d => uptoBulk d + 1
  | .slice elems spare => uptoBulkAll elems + uptoBulkAll spare + 1
  | .agg parts => uptoBulkAll parts + 1
  | .iface _ d => uptoBulk d + 1
  | .map entries => uptoBulkEntries entries + 1
  | .held _ => 1
def uptoBulkAll {H : Type} : List (DataW H) → Nat
  | [] => 0
  | d :: r => uptoBulk d + uptoBulkAll r
def uptoBulkEntries {H : Type} : List (Lit × DataW H) → Nat
  | [] => 0
  | x :: r => uptoBulkEntry x + uptoBulkEntries r
def uptoBulkEntry {H : Type} : Lit × DataW H → Nat
  | (.string bytes, d) => bytes.length + uptoBulk d + 1
  | (_, d) => uptoBulk d + 1
 end
def uptoSmall : (H : Type) → List (DataW H) → Bool := fun _ ds => decide (uptoBulkAll ds ≤ 1048576)
def OpenSpec.upto (s : _root_.Go.ChangeSpec) : _root_.Go.OpenSpec := { _root_.Go.OpenSpec.ofChange s with cond := some uptoSmall }

/-- 'tidewaitkeep.DuelAlike', WHERE WHAT IT READS IS OF BULK AT MOST 1048576: true; the input reads as it did. -/
def duelAlikeUptoRow : OpenClaim := { program := "ytnlglhfpcoicaab", sum := "2a1b22f2fe711f5a73800ca549f60a64e75cc295b8d79a8668e24146b47e70c5", func := "tidewait/tidewaitkeep.DuelAlike", spec := "duelAlike", unfollowed := true, recurses := true, apart := false, narrowed := true }
def DuelAlikeUptoSaid : Prop := duelAlikeUptoRow.holds Try.pinned (OpenSpec.upto duelAlikeSpec)

/-- 'tidewaitkeep.DuelSums', WHERE WHAT IT READS IS OF BULK AT MOST 1048576: true; the input reads as it did. -/
def duelSumsUptoRow : OpenClaim := { program := "ytnlglhfpcoicaab", sum := "2a1b22f2fe711f5a73800ca549f60a64e75cc295b8d79a8668e24146b47e70c5", func := "tidewait/tidewaitkeep.DuelSums", spec := "duelSums", unfollowed := true, recurses := true, apart := false, narrowed := true }
def DuelSumsUptoSaid : Prop := duelSumsUptoRow.holds Try.pinned (OpenSpec.upto duelSumsSpec)

/-- 'tidewaitkeep.DuelParts', WHERE WHAT IT READS IS OF BULK AT MOST 1048576: true; the input reads as it did. -/
def duelPartsUptoRow : OpenClaim := { program := "ytnlglhfpcoicaab", sum := "2a1b22f2fe711f5a73800ca549f60a64e75cc295b8d79a8668e24146b47e70c5", func := "tidewait/tidewaitkeep.DuelParts", spec := "duelParts", unfollowed := true, recurses := true, apart := false, narrowed := true }
def DuelPartsUptoSaid : Prop := duelPartsUptoRow.holds Try.pinned (OpenSpec.upto duelPartsSpec)

end Rows
end Go.Proofs.Ytnlglhfpcoicaab
