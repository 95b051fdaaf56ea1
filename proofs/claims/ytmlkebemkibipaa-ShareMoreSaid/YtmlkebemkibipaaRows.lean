/-
  No cell of these rows narrows 'for every input' (looked for: loops, veiled, ifaces, maps, wideKeys, modest, calm, conditions, laid).
  DERIVED. THE GIVEN ROWS OF THIS SEAT. 10 by the template 'for every input the law returns true; each argument reads behind the call as it read before'; 0 by the template 'total and deterministic' (their statements: YtmlkebemkibipaaTotals.lean).
  GIVEN WITH THE SEED: the statements are not yours to turn. If you find one false, say at which input.
  Laid BY PROGRAM, IN A SANDBOX (cutbox-rows.mjs): the forced cells as the released guide's own fill.sh prints them over the translation 57efc400d22589a5… (all of the seat's roots in one cut). By AI agents, Wed Nov 11 2026. No macro, syntax, notation, axiom, sorry.
-/
import Derived.Test.YtmlkebemkibipaaChecked
import GoSem.Claim
import GoSem.ClaimJoined
import GoSem.ClaimMapViews
import Derived.JoinedTies
import Derived.KernelRfl
namespace Go.Proofs.Ytmlkebemkibipaa
/- THE CELL 'sum', in the pinned program and in every row, IS THE sha256 OF THE DUMP (.gsa) THAT YtmlkebemkibipaaProg.lean LOADS. Nothing in Lean hashes anything: it is a label: what it is worth is what the hold of that sum in a sandbox is worth. -/
noncomputable def Try.pinned : Pinned := { name := "ytmlkebemkibipaa", sum := "57efc400d22589a57f59dd450e7b1e7df74b786e55033f4a8a67204aae1f43a0", checked := Try.checked }
namespace Rows
def none {H : Type} : Left H := { results := [], args := [] }

/-- 'tidewaitkeep.WindowTwice': WHATEVER THE INPUT: true; the input reads as it did. -/
def windowTwiceSpec : ChangeSpec := { name := "windowTwice", fn := fun _ => fun
  | [d1, d2, d3] => { results := [.lit (.bool true)], args := [d1, d2, d3] }
  | _ => none }
def windowTwiceRow : OpenClaim := { program := "ytmlkebemkibipaa", sum := "57efc400d22589a57f59dd450e7b1e7df74b786e55033f4a8a67204aae1f43a0", func := "tidewait/tidewaitkeep.WindowTwice", spec := "windowTwice", unfollowed := true, recurses := true, apart := false }
def WindowTwiceSaid : Prop := windowTwiceRow.holds Try.pinned (OpenSpec.ofChange windowTwiceSpec)

/-- ITS FALSE NEIGHBOUR: 'it returns false'. Refute it at one input. -/
def windowTwiceWrong : ChangeSpec := { name := "windowTwice", fn := fun _ => fun
  | [d1, d2, d3] => { results := [.lit (.bool false)], args := [d1, d2, d3] }
  | _ => none }
def WindowTwiceWrongFalsely : Prop := windowTwiceRow.holds Try.pinned (OpenSpec.ofChange windowTwiceWrong)

/-- 'tidewaitkeep.WindowTurned': WHATEVER THE INPUT: true; the input reads as it did. -/
def windowTurnedSpec : ChangeSpec := { name := "windowTurned", fn := fun _ => fun
  | [d1, d2] => { results := [.lit (.bool true)], args := [d1, d2] }
  | _ => none }
def windowTurnedRow : OpenClaim := { program := "ytmlkebemkibipaa", sum := "57efc400d22589a57f59dd450e7b1e7df74b786e55033f4a8a67204aae1f43a0", func := "tidewait/tidewaitkeep.WindowTurned", spec := "windowTurned", unfollowed := true, recurses := true, apart := false }
def WindowTurnedSaid : Prop := windowTurnedRow.holds Try.pinned (OpenSpec.ofChange windowTurnedSpec)

/-- ITS FALSE NEIGHBOUR: 'it returns false'. Refute it at one input. -/
def windowTurnedWrong : ChangeSpec := { name := "windowTurned", fn := fun _ => fun
  | [d1, d2] => { results := [.lit (.bool false)], args := [d1, d2] }
  | _ => none }
def WindowTurnedWrongFalsely : Prop := windowTurnedRow.holds Try.pinned (OpenSpec.ofChange windowTurnedWrong)

/-- 'tidewaitkeep.WindowBase': WHATEVER THE INPUT: true; the input reads as it did. -/
def windowBaseSpec : ChangeSpec := { name := "windowBase", fn := fun _ => fun
  | [d1, d2, d3] => { results := [.lit (.bool true)], args := [d1, d2, d3] }
  | _ => none }
def windowBaseRow : OpenClaim := { program := "ytmlkebemkibipaa", sum := "57efc400d22589a57f59dd450e7b1e7df74b786e55033f4a8a67204aae1f43a0", func := "tidewait/tidewaitkeep.WindowBase", spec := "windowBase", unfollowed := true, recurses := true, apart := false }
def WindowBaseSaid : Prop := windowBaseRow.holds Try.pinned (OpenSpec.ofChange windowBaseSpec)

/-- ITS FALSE NEIGHBOUR: 'it returns false'. Refute it at one input. -/
def windowBaseWrong : ChangeSpec := { name := "windowBase", fn := fun _ => fun
  | [d1, d2, d3] => { results := [.lit (.bool false)], args := [d1, d2, d3] }
  | _ => none }
def WindowBaseWrongFalsely : Prop := windowBaseRow.holds Try.pinned (OpenSpec.ofChange windowBaseWrong)

/-- 'tidewaitkeep.WindowMore': WHATEVER THE INPUT: true; the input reads as it did. -/
def windowMoreSpec : ChangeSpec := { name := "windowMore", fn := fun _ => fun
  | [d1, d2, d3] => { results := [.lit (.bool true)], args := [d1, d2, d3] }
  | _ => none }
def windowMoreRow : OpenClaim := { program := "ytmlkebemkibipaa", sum := "57efc400d22589a57f59dd450e7b1e7df74b786e55033f4a8a67204aae1f43a0", func := "tidewait/tidewaitkeep.WindowMore", spec := "windowMore", unfollowed := true, recurses := true, apart := false }
def WindowMoreSaid : Prop := windowMoreRow.holds Try.pinned (OpenSpec.ofChange windowMoreSpec)

/-- ITS FALSE NEIGHBOUR: 'it returns false'. Refute it at one input. -/
def windowMoreWrong : ChangeSpec := { name := "windowMore", fn := fun _ => fun
  | [d1, d2, d3] => { results := [.lit (.bool false)], args := [d1, d2, d3] }
  | _ => none }
def WindowMoreWrongFalsely : Prop := windowMoreRow.holds Try.pinned (OpenSpec.ofChange windowMoreWrong)

/-- 'tidewaitkeep.ClockOff': WHATEVER THE INPUT: true; the input reads as it did. -/
def clockOffSpec : ChangeSpec := { name := "clockOff", fn := fun _ => fun
  | [d1, d2, d3, d4, d5] => { results := [.lit (.bool true)], args := [d1, d2, d3, d4, d5] }
  | _ => none }
def clockOffRow : OpenClaim := { program := "ytmlkebemkibipaa", sum := "57efc400d22589a57f59dd450e7b1e7df74b786e55033f4a8a67204aae1f43a0", func := "tidewait/tidewaitkeep.ClockOff", spec := "clockOff", unfollowed := true, recurses := true, apart := false }
def ClockOffSaid : Prop := clockOffRow.holds Try.pinned (OpenSpec.ofChange clockOffSpec)

/-- ITS FALSE NEIGHBOUR: 'it returns false'. Refute it at one input. -/
def clockOffWrong : ChangeSpec := { name := "clockOff", fn := fun _ => fun
  | [d1, d2, d3, d4, d5] => { results := [.lit (.bool false)], args := [d1, d2, d3, d4, d5] }
  | _ => none }
def ClockOffWrongFalsely : Prop := clockOffRow.holds Try.pinned (OpenSpec.ofChange clockOffWrong)

/-- 'tidewaitkeep.ClockLeast': WHATEVER THE INPUT: true; the input reads as it did. -/
def clockLeastSpec : ChangeSpec := { name := "clockLeast", fn := fun _ => fun
  | [d1, d2, d3] => { results := [.lit (.bool true)], args := [d1, d2, d3] }
  | _ => none }
def clockLeastRow : OpenClaim := { program := "ytmlkebemkibipaa", sum := "57efc400d22589a57f59dd450e7b1e7df74b786e55033f4a8a67204aae1f43a0", func := "tidewait/tidewaitkeep.ClockLeast", spec := "clockLeast", unfollowed := true, recurses := true, apart := false }
def ClockLeastSaid : Prop := clockLeastRow.holds Try.pinned (OpenSpec.ofChange clockLeastSpec)

/-- ITS FALSE NEIGHBOUR: 'it returns false'. Refute it at one input. -/
def clockLeastWrong : ChangeSpec := { name := "clockLeast", fn := fun _ => fun
  | [d1, d2, d3] => { results := [.lit (.bool false)], args := [d1, d2, d3] }
  | _ => none }
def ClockLeastWrongFalsely : Prop := clockLeastRow.holds Try.pinned (OpenSpec.ofChange clockLeastWrong)

/-- 'tidewaitkeep.ShareFair': WHATEVER THE INPUT: true; the input reads as it did. -/
def shareFairSpec : ChangeSpec := { name := "shareFair", fn := fun _ => fun
  | [d1, d2] => { results := [.lit (.bool true)], args := [d1, d2] }
  | _ => none }
def shareFairRow : OpenClaim := { program := "ytmlkebemkibipaa", sum := "57efc400d22589a57f59dd450e7b1e7df74b786e55033f4a8a67204aae1f43a0", func := "tidewait/tidewaitkeep.ShareFair", spec := "shareFair", unfollowed := true, recurses := true, apart := false }
def ShareFairSaid : Prop := shareFairRow.holds Try.pinned (OpenSpec.ofChange shareFairSpec)

/-- ITS FALSE NEIGHBOUR: 'it returns false'. Refute it at one input. -/
def shareFairWrong : ChangeSpec := { name := "shareFair", fn := fun _ => fun
  | [d1, d2] => { results := [.lit (.bool false)], args := [d1, d2] }
  | _ => none }
def ShareFairWrongFalsely : Prop := shareFairRow.holds Try.pinned (OpenSpec.ofChange shareFairWrong)

/-- 'tidewaitkeep.ClockMore': WHATEVER THE INPUT: true; the input reads as it did. -/
def clockMoreSpec : ChangeSpec := { name := "clockMore", fn := fun _ => fun
  | [d1, d2, d3, d4] => { results := [.lit (.bool true)], args := [d1, d2, d3, d4] }
  | _ => none }
def clockMoreRow : OpenClaim := { program := "ytmlkebemkibipaa", sum := "57efc400d22589a57f59dd450e7b1e7df74b786e55033f4a8a67204aae1f43a0", func := "tidewait/tidewaitkeep.ClockMore", spec := "clockMore", unfollowed := true, recurses := true, apart := false }
def ClockMoreSaid : Prop := clockMoreRow.holds Try.pinned (OpenSpec.ofChange clockMoreSpec)

/-- ITS FALSE NEIGHBOUR: 'it returns false'. Refute it at one input. -/
def clockMoreWrong : ChangeSpec := { name := "clockMore", fn := fun _ => fun
  | [d1, d2, d3, d4] => { results := [.lit (.bool false)], args := [d1, d2, d3, d4] }
  | _ => none }
def ClockMoreWrongFalsely : Prop := clockMoreRow.holds Try.pinned (OpenSpec.ofChange clockMoreWrong)

/-- 'tidewaitkeep.ShareMore': WHATEVER THE INPUT: true; the input reads as it did. -/
def shareMoreSpec : ChangeSpec := { name := "shareMore", fn := fun _ => fun
  | [d1, d2, d3, d4, d5] => { results := [.lit (.bool true)], args := [d1, d2, d3, d4, d5] }
  | _ => none }
def shareMoreRow : OpenClaim := { program := "ytmlkebemkibipaa", sum := "57efc400d22589a57f59dd450e7b1e7df74b786e55033f4a8a67204aae1f43a0", func := "tidewait/tidewaitkeep.ShareMore", spec := "shareMore", unfollowed := true, recurses := true, apart := false }
def ShareMoreSaid : Prop := shareMoreRow.holds Try.pinned (OpenSpec.ofChange shareMoreSpec)

/-- ITS FALSE NEIGHBOUR: 'it returns false'. Refute it at one input. -/
def shareMoreWrong : ChangeSpec := { name := "shareMore", fn := fun _ => fun
  | [d1, d2, d3, d4, d5] => { results := [.lit (.bool false)], args := [d1, d2, d3, d4, d5] }
  | _ => none }
def ShareMoreWrongFalsely : Prop := shareMoreRow.holds Try.pinned (OpenSpec.ofChange shareMoreWrong)

/-- 'tidewaitkeep.ShareEven': WHATEVER THE INPUT: true; the input reads as it did. -/
def shareEvenSpec : ChangeSpec := { name := "shareEven", fn := fun _ => fun
  | [d] => { results := [.lit (.bool true)], args := [d] }
  | _ => none }
def shareEvenRow : OpenClaim := { program := "ytmlkebemkibipaa", sum := "57efc400d22589a57f59dd450e7b1e7df74b786e55033f4a8a67204aae1f43a0", func := "tidewait/tidewaitkeep.ShareEven", spec := "shareEven", unfollowed := true, recurses := true, apart := false }
def ShareEvenSaid : Prop := shareEvenRow.holds Try.pinned (OpenSpec.ofChange shareEvenSpec)

/-- ITS FALSE NEIGHBOUR: 'it returns false'. Refute it at one input. -/
def shareEvenWrong : ChangeSpec := { name := "shareEven", fn := fun _ => fun
  | [d] => { results := [.lit (.bool false)], args := [d] }
  | _ => none }
def ShareEvenWrongFalsely : Prop := shareEvenRow.holds Try.pinned (OpenSpec.ofChange shareEvenWrong)

/- THE SECOND FORM. 'bulk': how many values and letters a reading holds, each counted each time it is reached (what is shared counts as often as it is met; a slice's spare places count too). A statement '..UptoSaid' is the law's where the arguments, and the package variables that the reading takes, are together of bulk at most 1048576: NARROWER than '..Said'. Prove '..Said' where nothing that the law and all that it calls make is longer than what came in: it says more and counts as full. Else prove '..UptoSaid'. A law counts once. -/
mutual
def uptoBulk {H : Type} : DataW H → Nat
  | .lit (.string bytes) => bytes.length + 1
  | .lit _ => 1
  | .nil => 1
  | .ptr d => uptoBulk d + 1
  | .slice elems spare => uptoBulkAll elems + uptoBulkAll spare + 1
  | .agg parts => uptoBulkAll parts + 1
  | .iface _ d => uptoBulk d + 1
  | .map entries => uptoBulkEntries entries + 1
  | .held _ => 1
def uptoBulkAll {H : Type} : List (DataW H) → Nat
  | [] => 0
  | d :: r => uptoBulk d + uptoBulkAll r
def uptoBulkEntries {H : Type} : List (Lit × DataW H) → Nat
  | [] => 0
  | x :: r => uptoBulkEntry x + uptoBulkEntries r
def uptoBulkEntry {H : Type} : Lit × DataW H → Nat
  | (.string bytes, d) => bytes.length + uptoBulk d + 1
  | (_, d) => uptoBulk d + 1
 end
def uptoSmall : (H : Type) → List (DataW H) → Bool := fun _ ds => decide (uptoBulkAll ds ≤ 1048576)
def OpenSpec.upto (s : _root_.Go.ChangeSpec) : _root_.Go.OpenSpec := { _root_.Go.OpenSpec.ofChange s with cond := some uptoSmall }

/-- 'tidewaitkeep.WindowTwice', WHERE WHAT IT READS IS OF BULK AT MOST 1048576: true; the input reads as it did. -/
def windowTwiceUptoRow : OpenClaim := { program := "ytmlkebemkibipaa", sum := "57efc400d22589a57f59dd450e7b1e7df74b786e55033f4a8a67204aae1f43a0", func := "tidewait/tidewaitkeep.WindowTwice", spec := "windowTwice", unfollowed := true, recurses := true, apart := false, narrowed := true }
def WindowTwiceUptoSaid : Prop := windowTwiceUptoRow.holds Try.pinned (OpenSpec.upto windowTwiceSpec)

/-- 'tidewaitkeep.WindowTurned', WHERE WHAT IT READS IS OF BULK AT MOST 1048576: true; the input reads as it did. -/
def windowTurnedUptoRow : OpenClaim := { program := "ytmlkebemkibipaa", sum := "57efc400d22589a57f59dd450e7b1e7df74b786e55033f4a8a67204aae1f43a0", func := "tidewait/tidewaitkeep.WindowTurned", spec := "windowTurned", unfollowed := true, recurses := true, apart := false, narrowed := true }
def WindowTurnedUptoSaid : Prop := windowTurnedUptoRow.holds Try.pinned (OpenSpec.upto windowTurnedSpec)

/-- 'tidewaitkeep.WindowBase', WHERE WHAT IT READS IS OF BULK AT MOST 1048576: true; the input reads as it did. -/
def windowBaseUptoRow : OpenClaim := { program := "ytmlkebemkibipaa", sum := "57efc400d22589a57f59dd450e7b1e7df74b786e55033f4a8a67204aae1f43a0", func := "tidewait/tidewaitkeep.WindowBase", spec := "windowBase", unfollowed := true, recurses := true, apart := false, narrowed := true }
def WindowBaseUptoSaid : Prop := windowBaseUptoRow.holds Try.pinned (OpenSpec.upto windowBaseSpec)

/-- 'tidewaitkeep.WindowMore', WHERE WHAT IT READS IS OF BULK AT MOST 1048576: true; the input reads as it did. -/
def windowMoreUptoRow : OpenClaim := { program := "ytmlkebemkibipaa", sum := "57efc400d22589a57f59dd450e7b1e7df74b786e55033f4a8a67204aae1f43a0", func := "tidewait/tidewaitkeep.WindowMore", spec := "windowMore", unfollowed := true, recurses := true, apart := false, narrowed := true }
def WindowMoreUptoSaid : Prop := windowMoreUptoRow.holds Try.pinned (OpenSpec.upto windowMoreSpec)

/-- 'tidewaitkeep.ClockOff', WHERE WHAT IT READS IS OF BULK AT MOST 1048576: true; the input reads as it did. -/
def clockOffUptoRow : OpenClaim := { program := "ytmlkebemkibipaa", sum := "57efc400d22589a57f59dd450e7b1e7df74b786e55033f4a8a67204aae1f43a0", func := "tidewait/tidewaitkeep.ClockOff", spec := "clockOff", unfollowed := true, recurses := true, apart := false, narrowed := true }
def ClockOffUptoSaid : Prop := clockOffUptoRow.holds Try.pinned (OpenSpec.upto clockOffSpec)

/-- 'tidewaitkeep.ClockLeast', WHERE WHAT IT READS IS OF BULK AT MOST 1048576: true; the input reads as it did. -/
def clockLeastUptoRow : OpenClaim := { program := "ytmlkebemkibipaa", sum := "57efc400d22589a57f59dd450e7b1e7df74b786e55033f4a8a67204aae1f43a0", func := "tidewait/tidewaitkeep.ClockLeast", spec := "clockLeast", unfollowed := true, recurses := true, apart := false, narrowed := true }
def ClockLeastUptoSaid : Prop := clockLeastUptoRow.holds Try.pinned (OpenSpec.upto clockLeastSpec)

/-- 'tidewaitkeep.ShareFair', WHERE WHAT IT READS IS OF BULK AT MOST 1048576: true; the input reads as it did. -/
def shareFairUptoRow : OpenClaim := { program := "ytmlkebemkibipaa", sum := "57efc400d22589a57f59dd450e7b1e7df74b786e55033f4a8a67204aae1f43a0", func := "tidewait/tidewaitkeep.ShareFair", spec := "shareFair", unfollowed := true, recurses := true, apart := false, narrowed := true }
def ShareFairUptoSaid : Prop := shareFairUptoRow.holds Try.pinned (OpenSpec.upto shareFairSpec)

/-- 'tidewaitkeep.ClockMore', WHERE WHAT IT READS IS OF BULK AT MOST 1048576: true; the input reads as it did. -/
def clockMoreUptoRow : OpenClaim := { program := "ytmlkebemkibipaa", sum := "57efc400d22589a57f59dd450e7b1e7df74b786e55033f4a8a67204aae1f43a0", func := "tidewait/tidewaitkeep.ClockMore", spec := "clockMore", unfollowed := true, recurses := true, apart := false, narrowed := true }
def ClockMoreUptoSaid : Prop := clockMoreUptoRow.holds Try.pinned (OpenSpec.upto clockMoreSpec)

/-- 'tidewaitkeep.ShareMore', WHERE WHAT IT READS IS OF BULK AT MOST 1048576: true; the input reads as it did. -/
def shareMoreUptoRow : OpenClaim := { program := "ytmlkebemkibipaa", sum := "57efc400d22589a57f59dd450e7b1e7df74b786e55033f4a8a67204aae1f43a0", func := "tidewait/tidewaitkeep.ShareMore", spec := "shareMore", unfollowed := true, recurses := true, apart := false, narrowed := true }
def ShareMoreUptoSaid : Prop := shareMoreUptoRow.holds Try.pinned (OpenSpec.upto shareMoreSpec)

/-- 'tidewaitkeep.ShareEven', WHERE WHAT IT READS IS OF BULK AT MOST 1048576: true; the input reads as it did. -/
def shareEvenUptoRow : OpenClaim := { program := "ytmlkebemkibipaa", sum := "57efc400d22589a57f59dd450e7b1e7df74b786e55033f4a8a67204aae1f43a0", func := "tidewait/tidewaitkeep.ShareEven", spec := "shareEven", unfollowed := true, recurses := true, apart := false, narrowed := true }
def ShareEvenUptoSaid : Prop := shareEvenUptoRow.holds Try.pinned (OpenSpec.upto shareEvenSpec)

end Rows
end Go.Proofs.Ytmlkebemkibipaa
