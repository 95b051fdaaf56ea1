/-
  No cell of these rows narrows 'for every input' (looked for: loops, veiled, ifaces, maps, wideKeys, modest, calm, conditions, laid).
  DERIVED. THE GIVEN ROWS OF THIS SEAT. 22 by the template 'for every input the law returns true; each argument reads behind the call as it read before'; 0 by the template 'total and deterministic' (their statements: YtpnnijficjfcjaaTotals.lean).
  GIVEN WITH THE SEED: the statements are not yours to turn. If you find one false, say at which input.
  Laid BY PROGRAM, IN A SANDBOX (cutbox-rows.mjs): the forced cells as the released guide's own fill.sh prints them over the translation 47fbdccf35dd6f8e… (all of the seat's roots in one cut). By AI agents, Wed Nov 11 2026. No macro, syntax, notation, axiom, sorry.
-/
import Derived.Test.YtpnnijficjfcjaaChecked
import GoSem.Claim
import GoSem.ClaimJoined
import GoSem.ClaimMapViews
import Derived.JoinedTies
import Derived.KernelRfl
namespace Go.Proofs.Ytpnnijficjfcjaa
/- THE CELL 'sum', in the pinned program and in every row, IS THE sha256 OF THE DUMP (.gsa) THAT YtpnnijficjfcjaaProg.lean LOADS. Nothing in Lean hashes anything: it is a label: what it is worth is what the hold of that sum in a sandbox is worth. -/
noncomputable def Try.pinned : Pinned := { name := "ytpnnijficjfcjaa", sum := "47fbdccf35dd6f8ec394714dcc43fc4db423fe4945e51262131ee466e953fa21", checked := Try.checked }
namespace Rows
def none {H : Type} : Left H := { results := [], args := [] }

/-- 'tidewaitkeep.LinkSums': WHATEVER THE INPUT: true; the input reads as it did. -/
def linkSumsSpec : ChangeSpec := { name := "linkSums", fn := fun _ => fun
  | [d1, d2, d3, d4] => { results := [.lit (.bool true)], args := [d1, d2, d3, d4] }
  | _ => none }
def linkSumsRow : OpenClaim := { program := "ytpnnijficjfcjaa", sum := "47fbdccf35dd6f8ec394714dcc43fc4db423fe4945e51262131ee466e953fa21", func := "tidewait/tidewaitkeep.LinkSums", spec := "linkSums", unfollowed := true, recurses := true, plainKeys := false, apart := false }
def LinkSumsSaid : Prop := linkSumsRow.holds Try.pinned (OpenSpec.ofChange linkSumsSpec)

/-- ITS FALSE NEIGHBOUR: 'it returns false'. Refute it at one input. -/
def linkSumsWrong : ChangeSpec := { name := "linkSums", fn := fun _ => fun
  | [d1, d2, d3, d4] => { results := [.lit (.bool false)], args := [d1, d2, d3, d4] }
  | _ => none }
def LinkSumsWrongFalsely : Prop := linkSumsRow.holds Try.pinned (OpenSpec.ofChange linkSumsWrong)

/-- 'tidewaitkeep.LinkFair': WHATEVER THE INPUT: true; the input reads as it did. -/
def linkFairSpec : ChangeSpec := { name := "linkFair", fn := fun _ => fun
  | [d1, d2, d3] => { results := [.lit (.bool true)], args := [d1, d2, d3] }
  | _ => none }
def linkFairRow : OpenClaim := { program := "ytpnnijficjfcjaa", sum := "47fbdccf35dd6f8ec394714dcc43fc4db423fe4945e51262131ee466e953fa21", func := "tidewait/tidewaitkeep.LinkFair", spec := "linkFair", unfollowed := true, recurses := true, plainKeys := false, apart := false }
def LinkFairSaid : Prop := linkFairRow.holds Try.pinned (OpenSpec.ofChange linkFairSpec)

/-- ITS FALSE NEIGHBOUR: 'it returns false'. Refute it at one input. -/
def linkFairWrong : ChangeSpec := { name := "linkFair", fn := fun _ => fun
  | [d1, d2, d3] => { results := [.lit (.bool false)], args := [d1, d2, d3] }
  | _ => none }
def LinkFairWrongFalsely : Prop := linkFairRow.holds Try.pinned (OpenSpec.ofChange linkFairWrong)

/-- 'tidewaitkeep.LinkMore': WHATEVER THE INPUT: true; the input reads as it did. -/
def linkMoreSpec : ChangeSpec := { name := "linkMore", fn := fun _ => fun
  | [d1, d2, d3, d4, d5] => { results := [.lit (.bool true)], args := [d1, d2, d3, d4, d5] }
  | _ => none }
def linkMoreRow : OpenClaim := { program := "ytpnnijficjfcjaa", sum := "47fbdccf35dd6f8ec394714dcc43fc4db423fe4945e51262131ee466e953fa21", func := "tidewait/tidewaitkeep.LinkMore", spec := "linkMore", unfollowed := true, recurses := true, plainKeys := false, apart := false }
def LinkMoreSaid : Prop := linkMoreRow.holds Try.pinned (OpenSpec.ofChange linkMoreSpec)

/-- ITS FALSE NEIGHBOUR: 'it returns false'. Refute it at one input. -/
def linkMoreWrong : ChangeSpec := { name := "linkMore", fn := fun _ => fun
  | [d1, d2, d3, d4, d5] => { results := [.lit (.bool false)], args := [d1, d2, d3, d4, d5] }
  | _ => none }
def LinkMoreWrongFalsely : Prop := linkMoreRow.holds Try.pinned (OpenSpec.ofChange linkMoreWrong)

/-- 'tidewaitkeep.FilterStill': WHATEVER THE INPUT: true; the input reads as it did. -/
def filterStillSpec : ChangeSpec := { name := "filterStill", fn := fun _ => fun
  | [d1, d2, d3] => { results := [.lit (.bool true)], args := [d1, d2, d3] }
  | _ => none }
def filterStillRow : OpenClaim := { program := "ytpnnijficjfcjaa", sum := "47fbdccf35dd6f8ec394714dcc43fc4db423fe4945e51262131ee466e953fa21", func := "tidewait/tidewaitkeep.FilterStill", spec := "filterStill", plainKeys := false, apart := false }
def FilterStillSaid : Prop := filterStillRow.holds Try.pinned (OpenSpec.ofChange filterStillSpec)

/-- ITS FALSE NEIGHBOUR: 'it returns false'. Refute it at one input. -/
def filterStillWrong : ChangeSpec := { name := "filterStill", fn := fun _ => fun
  | [d1, d2, d3] => { results := [.lit (.bool false)], args := [d1, d2, d3] }
  | _ => none }
def FilterStillWrongFalsely : Prop := filterStillRow.holds Try.pinned (OpenSpec.ofChange filterStillWrong)

/-- 'tidewaitkeep.PotentialTight': WHATEVER THE INPUT: true; the input reads as it did. -/
def potentialTightSpec : ChangeSpec := { name := "potentialTight", fn := fun _ => fun
  | [d] => { results := [.lit (.bool true)], args := [d] }
  | _ => none }
def potentialTightRow : OpenClaim := { program := "ytpnnijficjfcjaa", sum := "47fbdccf35dd6f8ec394714dcc43fc4db423fe4945e51262131ee466e953fa21", func := "tidewait/tidewaitkeep.PotentialTight", spec := "potentialTight", plainKeys := false, apart := false }
def PotentialTightSaid : Prop := potentialTightRow.holds Try.pinned (OpenSpec.ofChange potentialTightSpec)

/-- ITS FALSE NEIGHBOUR: 'it returns false'. Refute it at one input. -/
def potentialTightWrong : ChangeSpec := { name := "potentialTight", fn := fun _ => fun
  | [d] => { results := [.lit (.bool false)], args := [d] }
  | _ => none }
def PotentialTightWrongFalsely : Prop := potentialTightRow.holds Try.pinned (OpenSpec.ofChange potentialTightWrong)

/-- 'tidewaitkeep.PotentialHigh': WHATEVER THE INPUT: true; the input reads as it did. -/
def potentialHighSpec : ChangeSpec := { name := "potentialHigh", fn := fun _ => fun
  | [d1, d2] => { results := [.lit (.bool true)], args := [d1, d2] }
  | _ => none }
def potentialHighRow : OpenClaim := { program := "ytpnnijficjfcjaa", sum := "47fbdccf35dd6f8ec394714dcc43fc4db423fe4945e51262131ee466e953fa21", func := "tidewait/tidewaitkeep.PotentialHigh", spec := "potentialHigh", plainKeys := false, apart := false }
def PotentialHighSaid : Prop := potentialHighRow.holds Try.pinned (OpenSpec.ofChange potentialHighSpec)

/-- ITS FALSE NEIGHBOUR: 'it returns false'. Refute it at one input. -/
def potentialHighWrong : ChangeSpec := { name := "potentialHigh", fn := fun _ => fun
  | [d1, d2] => { results := [.lit (.bool false)], args := [d1, d2] }
  | _ => none }
def PotentialHighWrongFalsely : Prop := potentialHighRow.holds Try.pinned (OpenSpec.ofChange potentialHighWrong)

/-- 'tidewaitkeep.PotentialWalks': WHATEVER THE INPUT: true; the input reads as it did. -/
def potentialWalksSpec : ChangeSpec := { name := "potentialWalks", fn := fun _ => fun
  | [d1, d2] => { results := [.lit (.bool true)], args := [d1, d2] }
  | _ => none }
def potentialWalksRow : OpenClaim := { program := "ytpnnijficjfcjaa", sum := "47fbdccf35dd6f8ec394714dcc43fc4db423fe4945e51262131ee466e953fa21", func := "tidewait/tidewaitkeep.PotentialWalks", spec := "potentialWalks", plainKeys := false, apart := false }
def PotentialWalksSaid : Prop := potentialWalksRow.holds Try.pinned (OpenSpec.ofChange potentialWalksSpec)

/-- ITS FALSE NEIGHBOUR: 'it returns false'. Refute it at one input. -/
def potentialWalksWrong : ChangeSpec := { name := "potentialWalks", fn := fun _ => fun
  | [d1, d2] => { results := [.lit (.bool false)], args := [d1, d2] }
  | _ => none }
def PotentialWalksWrongFalsely : Prop := potentialWalksRow.holds Try.pinned (OpenSpec.ofChange potentialWalksWrong)

/-- 'tidewaitkeep.PotentialEither': WHATEVER THE INPUT: true; the input reads as it did. -/
def potentialEitherSpec : ChangeSpec := { name := "potentialEither", fn := fun _ => fun
  | [d] => { results := [.lit (.bool true)], args := [d] }
  | _ => none }
def potentialEitherRow : OpenClaim := { program := "ytpnnijficjfcjaa", sum := "47fbdccf35dd6f8ec394714dcc43fc4db423fe4945e51262131ee466e953fa21", func := "tidewait/tidewaitkeep.PotentialEither", spec := "potentialEither", plainKeys := false, apart := false }
def PotentialEitherSaid : Prop := potentialEitherRow.holds Try.pinned (OpenSpec.ofChange potentialEitherSpec)

/-- ITS FALSE NEIGHBOUR: 'it returns false'. Refute it at one input. -/
def potentialEitherWrong : ChangeSpec := { name := "potentialEither", fn := fun _ => fun
  | [d] => { results := [.lit (.bool false)], args := [d] }
  | _ => none }
def PotentialEitherWrongFalsely : Prop := potentialEitherRow.holds Try.pinned (OpenSpec.ofChange potentialEitherWrong)

/-- 'tidewaitkeep.MeanMore': WHATEVER THE INPUT: true; the input reads as it did. -/
def meanMoreSpec : ChangeSpec := { name := "meanMore", fn := fun _ => fun
  | [d1, d2] => { results := [.lit (.bool true)], args := [d1, d2] }
  | _ => none }
def meanMoreRow : OpenClaim := { program := "ytpnnijficjfcjaa", sum := "47fbdccf35dd6f8ec394714dcc43fc4db423fe4945e51262131ee466e953fa21", func := "tidewait/tidewaitkeep.MeanMore", spec := "meanMore", recurses := true, plainKeys := false, apart := false }
def MeanMoreSaid : Prop := meanMoreRow.holds Try.pinned (OpenSpec.ofChange meanMoreSpec)

/-- ITS FALSE NEIGHBOUR: 'it returns false'. Refute it at one input. -/
def meanMoreWrong : ChangeSpec := { name := "meanMore", fn := fun _ => fun
  | [d1, d2] => { results := [.lit (.bool false)], args := [d1, d2] }
  | _ => none }
def MeanMoreWrongFalsely : Prop := meanMoreRow.holds Try.pinned (OpenSpec.ofChange meanMoreWrong)

/-- 'tidewaitkeep.MeanMost': WHATEVER THE INPUT: true; the input reads as it did. -/
def meanMostSpec : ChangeSpec := { name := "meanMost", fn := fun _ => fun
  | [d1, d2] => { results := [.lit (.bool true)], args := [d1, d2] }
  | _ => none }
def meanMostRow : OpenClaim := { program := "ytpnnijficjfcjaa", sum := "47fbdccf35dd6f8ec394714dcc43fc4db423fe4945e51262131ee466e953fa21", func := "tidewait/tidewaitkeep.MeanMost", spec := "meanMost", recurses := true, plainKeys := false, apart := false }
def MeanMostSaid : Prop := meanMostRow.holds Try.pinned (OpenSpec.ofChange meanMostSpec)

/-- ITS FALSE NEIGHBOUR: 'it returns false'. Refute it at one input. -/
def meanMostWrong : ChangeSpec := { name := "meanMost", fn := fun _ => fun
  | [d1, d2] => { results := [.lit (.bool false)], args := [d1, d2] }
  | _ => none }
def MeanMostWrongFalsely : Prop := meanMostRow.holds Try.pinned (OpenSpec.ofChange meanMostWrong)

/-- 'tidewaitkeep.MeanSign': WHATEVER THE INPUT: true; the input reads as it did. -/
def meanSignSpec : ChangeSpec := { name := "meanSign", fn := fun _ => fun
  | [d] => { results := [.lit (.bool true)], args := [d] }
  | _ => none }
def meanSignRow : OpenClaim := { program := "ytpnnijficjfcjaa", sum := "47fbdccf35dd6f8ec394714dcc43fc4db423fe4945e51262131ee466e953fa21", func := "tidewait/tidewaitkeep.MeanSign", spec := "meanSign", recurses := true, plainKeys := false, apart := false }
def MeanSignSaid : Prop := meanSignRow.holds Try.pinned (OpenSpec.ofChange meanSignSpec)

/-- ITS FALSE NEIGHBOUR: 'it returns false'. Refute it at one input. -/
def meanSignWrong : ChangeSpec := { name := "meanSign", fn := fun _ => fun
  | [d] => { results := [.lit (.bool false)], args := [d] }
  | _ => none }
def MeanSignWrongFalsely : Prop := meanSignRow.holds Try.pinned (OpenSpec.ofChange meanSignWrong)

/-- 'tidewaitkeep.DuelRight': WHATEVER THE INPUT: true; the input reads as it did. -/
def duelRightSpec : ChangeSpec := { name := "duelRight", fn := fun _ => fun
  | [d1, d2, d3] => { results := [.lit (.bool true)], args := [d1, d2, d3] }
  | _ => none }
def duelRightRow : OpenClaim := { program := "ytpnnijficjfcjaa", sum := "47fbdccf35dd6f8ec394714dcc43fc4db423fe4945e51262131ee466e953fa21", func := "tidewait/tidewaitkeep.DuelRight", spec := "duelRight", unfollowed := true, recurses := true, plainKeys := false, apart := false }
def DuelRightSaid : Prop := duelRightRow.holds Try.pinned (OpenSpec.ofChange duelRightSpec)

/-- ITS FALSE NEIGHBOUR: 'it returns false'. Refute it at one input. -/
def duelRightWrong : ChangeSpec := { name := "duelRight", fn := fun _ => fun
  | [d1, d2, d3] => { results := [.lit (.bool false)], args := [d1, d2, d3] }
  | _ => none }
def DuelRightWrongFalsely : Prop := duelRightRow.holds Try.pinned (OpenSpec.ofChange duelRightWrong)

/-- 'tidewaitkeep.DuelAlike': WHATEVER THE INPUT: true; the input reads as it did. -/
def duelAlikeSpec : ChangeSpec := { name := "duelAlike", fn := fun _ => fun
  | [d1, d2] => { results := [.lit (.bool true)], args := [d1, d2] }
  | _ => none }
def duelAlikeRow : OpenClaim := { program := "ytpnnijficjfcjaa", sum := "47fbdccf35dd6f8ec394714dcc43fc4db423fe4945e51262131ee466e953fa21", func := "tidewait/tidewaitkeep.DuelAlike", spec := "duelAlike", unfollowed := true, recurses := true, plainKeys := false, apart := false }
def DuelAlikeSaid : Prop := duelAlikeRow.holds Try.pinned (OpenSpec.ofChange duelAlikeSpec)

/-- ITS FALSE NEIGHBOUR: 'it returns false'. Refute it at one input. -/
def duelAlikeWrong : ChangeSpec := { name := "duelAlike", fn := fun _ => fun
  | [d1, d2] => { results := [.lit (.bool false)], args := [d1, d2] }
  | _ => none }
def DuelAlikeWrongFalsely : Prop := duelAlikeRow.holds Try.pinned (OpenSpec.ofChange duelAlikeWrong)

/-- 'tidewaitkeep.DuelSums': WHATEVER THE INPUT: true; the input reads as it did. -/
def duelSumsSpec : ChangeSpec := { name := "duelSums", fn := fun _ => fun
  | [d1, d2] => { results := [.lit (.bool true)], args := [d1, d2] }
  | _ => none }
def duelSumsRow : OpenClaim := { program := "ytpnnijficjfcjaa", sum := "47fbdccf35dd6f8ec394714dcc43fc4db423fe4945e51262131ee466e953fa21", func := "tidewait/tidewaitkeep.DuelSums", spec := "duelSums", unfollowed := true, recurses := true, plainKeys := false, apart := false }
def DuelSumsSaid : Prop := duelSumsRow.holds Try.pinned (OpenSpec.ofChange duelSumsSpec)

/-- ITS FALSE NEIGHBOUR: 'it returns false'. Refute it at one input. -/
def duelSumsWrong : ChangeSpec := { name := "duelSums", fn := fun _ => fun
  | [d1, d2] => { results := [.lit (.bool false)], args := [d1, d2] }
  | _ => none }
def DuelSumsWrongFalsely : Prop := duelSumsRow.holds Try.pinned (OpenSpec.ofChange duelSumsWrong)

/-- 'tidewaitkeep.DuelParts': WHATEVER THE INPUT: true; the input reads as it did. -/
def duelPartsSpec : ChangeSpec := { name := "duelParts", fn := fun _ => fun
  | [d1, d2, d3] => { results := [.lit (.bool true)], args := [d1, d2, d3] }
  | _ => none }
def duelPartsRow : OpenClaim := { program := "ytpnnijficjfcjaa", sum := "47fbdccf35dd6f8ec394714dcc43fc4db423fe4945e51262131ee466e953fa21", func := "tidewait/tidewaitkeep.DuelParts", spec := "duelParts", unfollowed := true, recurses := true, plainKeys := false, apart := false }
def DuelPartsSaid : Prop := duelPartsRow.holds Try.pinned (OpenSpec.ofChange duelPartsSpec)

/-- ITS FALSE NEIGHBOUR: 'it returns false'. Refute it at one input. -/
def duelPartsWrong : ChangeSpec := { name := "duelParts", fn := fun _ => fun
  | [d1, d2, d3] => { results := [.lit (.bool false)], args := [d1, d2, d3] }
  | _ => none }
def DuelPartsWrongFalsely : Prop := duelPartsRow.holds Try.pinned (OpenSpec.ofChange duelPartsWrong)

/-- 'tidewaitkeep.SteadyClosed': WHATEVER THE INPUT: true; the input reads as it did. -/
def steadyClosedSpec : ChangeSpec := { name := "steadyClosed", fn := fun _ => fun
  | [d1, d2] => { results := [.lit (.bool true)], args := [d1, d2] }
  | _ => none }
def steadyClosedRow : OpenClaim := { program := "ytpnnijficjfcjaa", sum := "47fbdccf35dd6f8ec394714dcc43fc4db423fe4945e51262131ee466e953fa21", func := "tidewait/tidewaitkeep.SteadyClosed", spec := "steadyClosed", unfollowed := true, recurses := true, plainKeys := false, apart := false }
def SteadyClosedSaid : Prop := steadyClosedRow.holds Try.pinned (OpenSpec.ofChange steadyClosedSpec)

/-- ITS FALSE NEIGHBOUR: 'it returns false'. Refute it at one input. -/
def steadyClosedWrong : ChangeSpec := { name := "steadyClosed", fn := fun _ => fun
  | [d1, d2] => { results := [.lit (.bool false)], args := [d1, d2] }
  | _ => none }
def SteadyClosedWrongFalsely : Prop := steadyClosedRow.holds Try.pinned (OpenSpec.ofChange steadyClosedWrong)

/-- 'tidewaitkeep.SteadyLead': WHATEVER THE INPUT: true; the input reads as it did. -/
def steadyLeadSpec : ChangeSpec := { name := "steadyLead", fn := fun _ => fun
  | [d1, d2, d3] => { results := [.lit (.bool true)], args := [d1, d2, d3] }
  | _ => none }
def steadyLeadRow : OpenClaim := { program := "ytpnnijficjfcjaa", sum := "47fbdccf35dd6f8ec394714dcc43fc4db423fe4945e51262131ee466e953fa21", func := "tidewait/tidewaitkeep.SteadyLead", spec := "steadyLead", unfollowed := true, recurses := true, plainKeys := false, apart := false }
def SteadyLeadSaid : Prop := steadyLeadRow.holds Try.pinned (OpenSpec.ofChange steadyLeadSpec)

/-- ITS FALSE NEIGHBOUR: 'it returns false'. Refute it at one input. -/
def steadyLeadWrong : ChangeSpec := { name := "steadyLead", fn := fun _ => fun
  | [d1, d2, d3] => { results := [.lit (.bool false)], args := [d1, d2, d3] }
  | _ => none }
def SteadyLeadWrongFalsely : Prop := steadyLeadRow.holds Try.pinned (OpenSpec.ofChange steadyLeadWrong)

/-- 'tidewaitkeep.SteadyWeighs': WHATEVER THE INPUT: true; the input reads as it did. -/
def steadyWeighsSpec : ChangeSpec := { name := "steadyWeighs", fn := fun _ => fun
  | [d1, d2, d3, d4] => { results := [.lit (.bool true)], args := [d1, d2, d3, d4] }
  | _ => none }
def steadyWeighsRow : OpenClaim := { program := "ytpnnijficjfcjaa", sum := "47fbdccf35dd6f8ec394714dcc43fc4db423fe4945e51262131ee466e953fa21", func := "tidewait/tidewaitkeep.SteadyWeighs", spec := "steadyWeighs", unfollowed := true, recurses := true, plainKeys := false, apart := false }
def SteadyWeighsSaid : Prop := steadyWeighsRow.holds Try.pinned (OpenSpec.ofChange steadyWeighsSpec)

/-- ITS FALSE NEIGHBOUR: 'it returns false'. Refute it at one input. -/
def steadyWeighsWrong : ChangeSpec := { name := "steadyWeighs", fn := fun _ => fun
  | [d1, d2, d3, d4] => { results := [.lit (.bool false)], args := [d1, d2, d3, d4] }
  | _ => none }
def SteadyWeighsWrongFalsely : Prop := steadyWeighsRow.holds Try.pinned (OpenSpec.ofChange steadyWeighsWrong)

/-- 'tidewaitkeep.VerdictJitter': WHATEVER THE INPUT: true; the input reads as it did. -/
def verdictJitterSpec : ChangeSpec := { name := "verdictJitter", fn := fun _ => fun
  | [d1, d2, d3, d4, d5] => { results := [.lit (.bool true)], args := [d1, d2, d3, d4, d5] }
  | _ => none }
def verdictJitterRow : OpenClaim := { program := "ytpnnijficjfcjaa", sum := "47fbdccf35dd6f8ec394714dcc43fc4db423fe4945e51262131ee466e953fa21", func := "tidewait/tidewaitkeep.VerdictJitter", spec := "verdictJitter", unfollowed := true, recurses := true, plainKeys := false, apart := false }
def VerdictJitterSaid : Prop := verdictJitterRow.holds Try.pinned (OpenSpec.ofChange verdictJitterSpec)

/-- ITS FALSE NEIGHBOUR: 'it returns false'. Refute it at one input. -/
def verdictJitterWrong : ChangeSpec := { name := "verdictJitter", fn := fun _ => fun
  | [d1, d2, d3, d4, d5] => { results := [.lit (.bool false)], args := [d1, d2, d3, d4, d5] }
  | _ => none }
def VerdictJitterWrongFalsely : Prop := verdictJitterRow.holds Try.pinned (OpenSpec.ofChange verdictJitterWrong)

/-- 'tidewaitkeep.VerdictBounds': WHATEVER THE INPUT: true; the input reads as it did. -/
def verdictBoundsSpec : ChangeSpec := { name := "verdictBounds", fn := fun _ => fun
  | [d1, d2, d3, d4, d5, d6] => { results := [.lit (.bool true)], args := [d1, d2, d3, d4, d5, d6] }
  | _ => none }
def verdictBoundsRow : OpenClaim := { program := "ytpnnijficjfcjaa", sum := "47fbdccf35dd6f8ec394714dcc43fc4db423fe4945e51262131ee466e953fa21", func := "tidewait/tidewaitkeep.VerdictBounds", spec := "verdictBounds", unfollowed := true, recurses := true, plainKeys := false, apart := false }
def VerdictBoundsSaid : Prop := verdictBoundsRow.holds Try.pinned (OpenSpec.ofChange verdictBoundsSpec)

/-- ITS FALSE NEIGHBOUR: 'it returns false'. Refute it at one input. -/
def verdictBoundsWrong : ChangeSpec := { name := "verdictBounds", fn := fun _ => fun
  | [d1, d2, d3, d4, d5, d6] => { results := [.lit (.bool false)], args := [d1, d2, d3, d4, d5, d6] }
  | _ => none }
def VerdictBoundsWrongFalsely : Prop := verdictBoundsRow.holds Try.pinned (OpenSpec.ofChange verdictBoundsWrong)

/-- 'tidewaitkeep.VerdictLeast': WHATEVER THE INPUT: true; the input reads as it did. -/
def verdictLeastSpec : ChangeSpec := { name := "verdictLeast", fn := fun _ => fun
  | [d1, d2, d3, d4] => { results := [.lit (.bool true)], args := [d1, d2, d3, d4] }
  | _ => none }
def verdictLeastRow : OpenClaim := { program := "ytpnnijficjfcjaa", sum := "47fbdccf35dd6f8ec394714dcc43fc4db423fe4945e51262131ee466e953fa21", func := "tidewait/tidewaitkeep.VerdictLeast", spec := "verdictLeast", unfollowed := true, recurses := true, plainKeys := false, apart := false }
def VerdictLeastSaid : Prop := verdictLeastRow.holds Try.pinned (OpenSpec.ofChange verdictLeastSpec)

/-- ITS FALSE NEIGHBOUR: 'it returns false'. Refute it at one input. -/
def verdictLeastWrong : ChangeSpec := { name := "verdictLeast", fn := fun _ => fun
  | [d1, d2, d3, d4] => { results := [.lit (.bool false)], args := [d1, d2, d3, d4] }
  | _ => none }
def VerdictLeastWrongFalsely : Prop := verdictLeastRow.holds Try.pinned (OpenSpec.ofChange verdictLeastWrong)

/-- 'tidewaitkeep.VerdictStarves': WHATEVER THE INPUT: true; the input reads as it did. -/
def verdictStarvesSpec : ChangeSpec := { name := "verdictStarves", fn := fun _ => fun
  | [d1, d2, d3, d4] => { results := [.lit (.bool true)], args := [d1, d2, d3, d4] }
  | _ => none }
def verdictStarvesRow : OpenClaim := { program := "ytpnnijficjfcjaa", sum := "47fbdccf35dd6f8ec394714dcc43fc4db423fe4945e51262131ee466e953fa21", func := "tidewait/tidewaitkeep.VerdictStarves", spec := "verdictStarves", unfollowed := true, recurses := true, plainKeys := false, apart := false }
def VerdictStarvesSaid : Prop := verdictStarvesRow.holds Try.pinned (OpenSpec.ofChange verdictStarvesSpec)

/-- ITS FALSE NEIGHBOUR: 'it returns false'. Refute it at one input. -/
def verdictStarvesWrong : ChangeSpec := { name := "verdictStarves", fn := fun _ => fun
  | [d1, d2, d3, d4] => { results := [.lit (.bool false)], args := [d1, d2, d3, d4] }
  | _ => none }
def VerdictStarvesWrongFalsely : Prop := verdictStarvesRow.holds Try.pinned (OpenSpec.ofChange verdictStarvesWrong)

/- THE SECOND FORM. 'bulk': how many values and letters a reading holds, each counted each time it is reached (what is shared counts as often as it is met; a slice's spare places count too). A statement '..UptoSaid' is the law's where the arguments, and the package variables that the reading takes, are together of bulk at most 1048576: NARROWER than '..Said'. Prove '..Said' where nothing that the law and all that it calls make is longer than what came in: it says more and counts as full. Else prove '..UptoSaid'. A law counts once. -/
mutual
def uptoBulk {H : Type} : DataW H → Nat
  | .lit (.string bytes) => bytes.length + 1
  | .lit _ => 1
  | .nil => 1
  | .ptr d => uptoBulk d + 1
  | .slice elems spare => uptoBulkAll elems + uptoBulkAll spare + 1
  | .agg parts => uptoBulkAll parts + 1
  | .iface _ d => uptoBulk d + 1
  | .map entries => uptoBulkEntries entries + 1
  | .held _ => 1
def uptoBulkAll {H : Type} : List (DataW H) → Nat
  | [] => 0
  | d :: r => uptoBulk d + uptoBulkAll r
def uptoBulkEntries {H : Type} : List (Lit × DataW H) → Nat
  | [] => 0
  | x :: r => uptoBulkEntry x + uptoBulkEntries r
def uptoBulkEntry {H : Type} : Lit × DataW H → Nat
  | (.string bytes, d) => bytes.length + uptoBulk d + 1
  | (_, d) => uptoBulk d + 1
 end
def uptoSmall : (H : Type) → List (DataW H) → Bool := fun _ ds => decide (uptoBulkAll ds ≤ 1048576)
def OpenSpec.upto (s : _root_.Go.ChangeSpec) : _root_.Go.OpenSpec := { _root_.Go.OpenSpec.ofChange s with cond := some uptoSmall }

/-- 'tidewaitkeep.LinkSums', WHERE WHAT IT READS IS OF BULK AT MOST 1048576: true; the input reads as it did. -/
def linkSumsUptoRow : OpenClaim := { program := "ytpnnijficjfcjaa", sum := "47fbdccf35dd6f8ec394714dcc43fc4db423fe4945e51262131ee466e953fa21", func := "tidewait/tidewaitkeep.LinkSums", spec := "linkSums", unfollowed := true, recurses := true, plainKeys := false, apart := false, narrowed := true }
def LinkSumsUptoSaid : Prop := linkSumsUptoRow.holds Try.pinned (OpenSpec.upto linkSumsSpec)

/-- 'tidewaitkeep.LinkFair', WHERE WHAT IT READS IS OF BULK AT MOST 1048576: true; the input reads as it did. -/
def linkFairUptoRow : OpenClaim := { program := "ytpnnijficjfcjaa", sum := "47fbdccf35dd6f8ec394714dcc43fc4db423fe4945e51262131ee466e953fa21", func := "tidewait/tidewaitkeep.LinkFair", spec := "linkFair", unfollowed := true, recurses := true, plainKeys := false, apart := false, narrowed := true }
def LinkFairUptoSaid : Prop := linkFairUptoRow.holds Try.pinned (OpenSpec.upto linkFairSpec)

/-- 'tidewaitkeep.LinkMore', WHERE WHAT IT READS IS OF BULK AT MOST 1048576: true; the input reads as it did. -/
def linkMoreUptoRow : OpenClaim := { program := "ytpnnijficjfcjaa", sum := "47fbdccf35dd6f8ec394714dcc43fc4db423fe4945e51262131ee466e953fa21", func := "tidewait/tidewaitkeep.LinkMore", spec := "linkMore", unfollowed := true, recurses := true, plainKeys := false, apart := false, narrowed := true }
def LinkMoreUptoSaid : Prop := linkMoreUptoRow.holds Try.pinned (OpenSpec.upto linkMoreSpec)

/-- 'tidewaitkeep.FilterStill', WHERE WHAT IT READS IS OF BULK AT MOST 1048576: true; the input reads as it did. -/
def filterStillUptoRow : OpenClaim := { program := "ytpnnijficjfcjaa", sum := "47fbdccf35dd6f8ec394714dcc43fc4db423fe4945e51262131ee466e953fa21", func := "tidewait/tidewaitkeep.FilterStill", spec := "filterStill", plainKeys := false, apart := false, narrowed := true }
def FilterStillUptoSaid : Prop := filterStillUptoRow.holds Try.pinned (OpenSpec.upto filterStillSpec)

/-- 'tidewaitkeep.PotentialTight', WHERE WHAT IT READS IS OF BULK AT MOST 1048576: true; the input reads as it did. -/
def potentialTightUptoRow : OpenClaim := { program := "ytpnnijficjfcjaa", sum := "47fbdccf35dd6f8ec394714dcc43fc4db423fe4945e51262131ee466e953fa21", func := "tidewait/tidewaitkeep.PotentialTight", spec := "potentialTight", plainKeys := false, apart := false, narrowed := true }
def PotentialTightUptoSaid : Prop := potentialTightUptoRow.holds Try.pinned (OpenSpec.upto potentialTightSpec)

/-- 'tidewaitkeep.PotentialHigh', WHERE WHAT IT READS IS OF BULK AT MOST 1048576: true; the input reads as it did. -/
def potentialHighUptoRow : OpenClaim := { program := "ytpnnijficjfcjaa", sum := "47fbdccf35dd6f8ec394714dcc43fc4db423fe4945e51262131ee466e953fa21", func := "tidewait/tidewaitkeep.PotentialHigh", spec := "potentialHigh", plainKeys := false, apart := false, narrowed := true }
def PotentialHighUptoSaid : Prop := potentialHighUptoRow.holds Try.pinned (OpenSpec.upto potentialHighSpec)

/-- 'tidewaitkeep.PotentialWalks', WHERE WHAT IT READS IS OF BULK AT MOST 1048576: true; the input reads as it did. -/
def potentialWalksUptoRow : OpenClaim := { program := "ytpnnijficjfcjaa", sum := "47fbdccf35dd6f8ec394714dcc43fc4db423fe4945e51262131ee466e953fa21", func := "tidewait/tidewaitkeep.PotentialWalks", spec := "potentialWalks", plainKeys := false, apart := false, narrowed := true }
def PotentialWalksUptoSaid : Prop := potentialWalksUptoRow.holds Try.pinned (OpenSpec.upto potentialWalksSpec)

/-- 'tidewaitkeep.PotentialEither', WHERE WHAT IT READS IS OF BULK AT MOST 1048576: true; the input reads as it did. -/
def potentialEitherUptoRow : OpenClaim := { program := "ytpnnijficjfcjaa", sum := "47fbdccf35dd6f8ec394714dcc43fc4db423fe4945e51262131ee466e953fa21", func := "tidewait/tidewaitkeep.PotentialEither", spec := "potentialEither", plainKeys := false, apart := false, narrowed := true }
def PotentialEitherUptoSaid : Prop := potentialEitherUptoRow.holds Try.pinned (OpenSpec.upto potentialEitherSpec)

/-- 'tidewaitkeep.MeanMore', WHERE WHAT IT READS IS OF BULK AT MOST 1048576: true; the input reads as it did. -/
def meanMoreUptoRow : OpenClaim := { program := "ytpnnijficjfcjaa", sum := "47fbdccf35dd6f8ec394714dcc43fc4db423fe4945e51262131ee466e953fa21", func := "tidewait/tidewaitkeep.MeanMore", spec := "meanMore", recurses := true, plainKeys := false, apart := false, narrowed := true }
def MeanMoreUptoSaid : Prop := meanMoreUptoRow.holds Try.pinned (OpenSpec.upto meanMoreSpec)

/-- 'tidewaitkeep.MeanMost', WHERE WHAT IT READS IS OF BULK AT MOST 1048576: true; the input reads as it did. -/
def meanMostUptoRow : OpenClaim := { program := "ytpnnijficjfcjaa", sum := "47fbdccf35dd6f8ec394714dcc43fc4db423fe4945e51262131ee466e953fa21", func := "tidewait/tidewaitkeep.MeanMost", spec := "meanMost", recurses := true, plainKeys := false, apart := false, narrowed := true }
def MeanMostUptoSaid : Prop := meanMostUptoRow.holds Try.pinned (OpenSpec.upto meanMostSpec)

/-- 'tidewaitkeep.MeanSign', WHERE WHAT IT READS IS OF BULK AT MOST 1048576: true; the input reads as it did. -/
def meanSignUptoRow : OpenClaim := { program := "ytpnnijficjfcjaa", sum := "47fbdccf35dd6f8ec394714dcc43fc4db423fe4945e51262131ee466e953fa21", func := "tidewait/tidewaitkeep.MeanSign", spec := "meanSign", recurses := true, plainKeys := false, apart := false, narrowed := true }
def MeanSignUptoSaid : Prop := meanSignUptoRow.holds Try.pinned (OpenSpec.upto meanSignSpec)

/-- 'tidewaitkeep.DuelRight', WHERE WHAT IT READS IS OF BULK AT MOST 1048576: true; the input reads as it did. -/
def duelRightUptoRow : OpenClaim := { program := "ytpnnijficjfcjaa", sum := "47fbdccf35dd6f8ec394714dcc43fc4db423fe4945e51262131ee466e953fa21", func := "tidewait/tidewaitkeep.DuelRight", spec := "duelRight", unfollowed := true, recurses := true, plainKeys := false, apart := false, narrowed := true }
def DuelRightUptoSaid : Prop := duelRightUptoRow.holds Try.pinned (OpenSpec.upto duelRightSpec)

/-- 'tidewaitkeep.DuelAlike', WHERE WHAT IT READS IS OF BULK AT MOST 1048576: true; the input reads as it did. -/
def duelAlikeUptoRow : OpenClaim := { program := "ytpnnijficjfcjaa", sum := "47fbdccf35dd6f8ec394714dcc43fc4db423fe4945e51262131ee466e953fa21", func := "tidewait/tidewaitkeep.DuelAlike", spec := "duelAlike", unfollowed := true, recurses := true, plainKeys := false, apart := false, narrowed := true }
def DuelAlikeUptoSaid : Prop := duelAlikeUptoRow.holds Try.pinned (OpenSpec.upto duelAlikeSpec)

/-- 'tidewaitkeep.DuelSums', WHERE WHAT IT READS IS OF BULK AT MOST 1048576: true; the input reads as it did. -/
def duelSumsUptoRow : OpenClaim := { program := "ytpnnijficjfcjaa", sum := "47fbdccf35dd6f8ec394714dcc43fc4db423fe4945e51262131ee466e953fa21", func := "tidewait/tidewaitkeep.DuelSums", spec := "duelSums", unfollowed := true, recurses := true, plainKeys := false, apart := false, narrowed := true }
def DuelSumsUptoSaid : Prop := duelSumsUptoRow.holds Try.pinned (OpenSpec.upto duelSumsSpec)

/-- 'tidewaitkeep.DuelParts', WHERE WHAT IT READS IS OF BULK AT MOST 1048576: true; the input reads as it did. -/
def duelPartsUptoRow : OpenClaim := { program := "ytpnnijficjfcjaa", sum := "47fbdccf35dd6f8ec394714dcc43fc4db423fe4945e51262131ee466e953fa21", func := "tidewait/tidewaitkeep.DuelParts", spec := "duelParts", unfollowed := true, recurses := true, plainKeys := false, apart := false, narrowed := true }
def DuelPartsUptoSaid : Prop := duelPartsUptoRow.holds Try.pinned (OpenSpec.upto duelPartsSpec)

/-- 'tidewaitkeep.SteadyClosed', WHERE WHAT IT READS IS OF BULK AT MOST 1048576: true; the input reads as it did. -/
def steadyClosedUptoRow : OpenClaim := { program := "ytpnnijficjfcjaa", sum := "47fbdccf35dd6f8ec394714dcc43fc4db423fe4945e51262131ee466e953fa21", func := "tidewait/tidewaitkeep.SteadyClosed", spec := "steadyClosed", unfollowed := true, recurses := true, plainKeys := false, apart := false, narrowed := true }
def SteadyClosedUptoSaid : Prop := steadyClosedUptoRow.holds Try.pinned (OpenSpec.upto steadyClosedSpec)

/-- 'tidewaitkeep.SteadyLead', WHERE WHAT IT READS IS OF BULK AT MOST 1048576: true; the input reads as it did. -/
def steadyLeadUptoRow : OpenClaim := { program := "ytpnnijficjfcjaa", sum := "47fbdccf35dd6f8ec394714dcc43fc4db423fe4945e51262131ee466e953fa21", func := "tidewait/tidewaitkeep.SteadyLead", spec := "steadyLead", unfollowed := true, recurses := true, plainKeys := false, apart := false, narrowed := true }
def SteadyLeadUptoSaid : Prop := steadyLeadUptoRow.holds Try.pinned (OpenSpec.upto steadyLeadSpec)

/-- 'tidewaitkeep.SteadyWeighs', WHERE WHAT IT READS IS OF BULK AT MOST 1048576: true; the input reads as it did. -/
def steadyWeighsUptoRow : OpenClaim := { program := "ytpnnijficjfcjaa", sum := "47fbdccf35dd6f8ec394714dcc43fc4db423fe4945e51262131ee466e953fa21", func := "tidewait/tidewaitkeep.SteadyWeighs", spec := "steadyWeighs", unfollowed := true, recurses := true, plainKeys := false, apart := false, narrowed := true }
def SteadyWeighsUptoSaid : Prop := steadyWeighsUptoRow.holds Try.pinned (OpenSpec.upto steadyWeighsSpec)

/-- 'tidewaitkeep.VerdictJitter', WHERE WHAT IT READS IS OF BULK AT MOST 1048576: true; the input reads as it did. -/
def verdictJitterUptoRow : OpenClaim := { program := "ytpnnijficjfcjaa", sum := "47fbdccf35dd6f8ec394714dcc43fc4db423fe4945e51262131ee466e953fa21", func := "tidewait/tidewaitkeep.VerdictJitter", spec := "verdictJitter", unfollowed := true, recurses := true, plainKeys := false, apart := false, narrowed := true }
def VerdictJitterUptoSaid : Prop := verdictJitterUptoRow.holds Try.pinned (OpenSpec.upto verdictJitterSpec)

/-- 'tidewaitkeep.VerdictBounds', WHERE WHAT IT READS IS OF BULK AT MOST 1048576: true; the input reads as it did. -/
def verdictBoundsUptoRow : OpenClaim := { program := "ytpnnijficjfcjaa", sum := "47fbdccf35dd6f8ec394714dcc43fc4db423fe4945e51262131ee466e953fa21", func := "tidewait/tidewaitkeep.VerdictBounds", spec := "verdictBounds", unfollowed := true, recurses := true, plainKeys := false, apart := false, narrowed := true }
def VerdictBoundsUptoSaid : Prop := verdictBoundsUptoRow.holds Try.pinned (OpenSpec.upto verdictBoundsSpec)

/-- 'tidewaitkeep.VerdictLeast', WHERE WHAT IT READS IS OF BULK AT MOST 1048576: true; the input reads as it did. -/
def verdictLeastUptoRow : OpenClaim := { program := "ytpnnijficjfcjaa", sum := "47fbdccf35dd6f8ec394714dcc43fc4db423fe4945e51262131ee466e953fa21", func := "tidewait/tidewaitkeep.VerdictLeast", spec := "verdictLeast", unfollowed := true, recurses := true, plainKeys := false, apart := false, narrowed := true }
def VerdictLeastUptoSaid : Prop := verdictLeastUptoRow.holds Try.pinned (OpenSpec.upto verdictLeastSpec)

/-- 'tidewaitkeep.VerdictStarves', WHERE WHAT IT READS IS OF BULK AT MOST 1048576: true; the input reads as it did. -/
def verdictStarvesUptoRow : OpenClaim := { program := "ytpnnijficjfcjaa", sum := "47fbdccf35dd6f8ec394714dcc43fc4db423fe4945e51262131ee466e953fa21", func := "tidewait/tidewaitkeep.VerdictStarves", spec := "verdictStarves", unfollowed := true, recurses := true, plainKeys := false, apart := false, narrowed := true }
def VerdictStarvesUptoSaid : Prop := verdictStarvesUptoRow.holds Try.pinned (OpenSpec.upto verdictStarvesSpec)

end Rows
end Go.Proofs.Ytpnnijficjfcjaa
