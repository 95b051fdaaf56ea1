/-
  No cell of these rows narrows 'for every input' (looked for: loops, veiled, ifaces, maps, wideKeys, modest, calm, conditions, laid).
  DERIVED. THE GIVEN ROWS OF THIS SEAT. 22 by the template 'for every input the law returns true; each argument reads behind the call as it read before'; 0 by the template 'total and deterministic' (their statements: YtdilmnpoicdkhaaTotals.lean).
  GIVEN WITH THE SEED: the statements are not yours to turn. If you find one false, say at which input.
  Laid BY PROGRAM, IN A SANDBOX (cutbox-rows.mjs): the forced cells as the released guide's own fill.sh prints them over the translation 34fdc4b36ba533d6… (all of the seat's roots in one cut). By AI agents, Wed Nov 11 2026. No macro, syntax, notation, axiom, sorry.
-/
import Derived.Test.YtdilmnpoicdkhaaChecked
import GoSem.Claim
import GoSem.ClaimJoined
import GoSem.ClaimMapViews
import Derived.JoinedTies
import Derived.KernelRfl
namespace Go.Proofs.Ytdilmnpoicdkhaa
/- THE CELL 'sum', in the pinned program and in every row, IS THE sha256 OF THE DUMP (.gsa) THAT YtdilmnpoicdkhaaProg.lean LOADS. Nothing in Lean hashes anything: it is a label: what it is worth is what the hold of that sum in a sandbox is worth. -/
noncomputable def Try.pinned : Pinned := { name := "ytdilmnpoicdkhaa", sum := "34fdc4b36ba533d63e28975993b2fce0fb9d24626900888b2766a8b6754879f1", checked := Try.checked }
namespace Rows
def none {H : Type} : Left H := { results := [], args := [] }

/-- 'tidewaitkeep.QueueSums': WHATEVER THE INPUT: true; the input reads as it did. -/
def queueSumsSpec : ChangeSpec := { name := "queueSums", fn := fun _ => fun
  | [d1, d2, d3] => { results := [.lit (.bool true)], args := [d1, d2, d3] }
  | _ => none }
def queueSumsRow : OpenClaim := { program := "ytdilmnpoicdkhaa", sum := "34fdc4b36ba533d63e28975993b2fce0fb9d24626900888b2766a8b6754879f1", func := "tidewait/tidewaitkeep.QueueSums", spec := "queueSums", unfollowed := true, recurses := true, apart := false }
def QueueSumsSaid : Prop := queueSumsRow.holds Try.pinned (OpenSpec.ofChange queueSumsSpec)

/-- ITS FALSE NEIGHBOUR: 'it returns false'. Refute it at one input. -/
def queueSumsWrong : ChangeSpec := { name := "queueSums", fn := fun _ => fun
  | [d1, d2, d3] => { results := [.lit (.bool false)], args := [d1, d2, d3] }
  | _ => none }
def QueueSumsWrongFalsely : Prop := queueSumsRow.holds Try.pinned (OpenSpec.ofChange queueSumsWrong)

/-- 'tidewaitkeep.CurveBack': WHATEVER THE INPUT: true; the input reads as it did. -/
def curveBackSpec : ChangeSpec := { name := "curveBack", fn := fun _ => fun
  | [d1, d2] => { results := [.lit (.bool true)], args := [d1, d2] }
  | _ => none }
def curveBackRow : OpenClaim := { program := "ytdilmnpoicdkhaa", sum := "34fdc4b36ba533d63e28975993b2fce0fb9d24626900888b2766a8b6754879f1", func := "tidewait/tidewaitkeep.CurveBack", spec := "curveBack", unfollowed := true, recurses := true, apart := false }
def CurveBackSaid : Prop := curveBackRow.holds Try.pinned (OpenSpec.ofChange curveBackSpec)

/-- ITS FALSE NEIGHBOUR: 'it returns false'. Refute it at one input. -/
def curveBackWrong : ChangeSpec := { name := "curveBack", fn := fun _ => fun
  | [d1, d2] => { results := [.lit (.bool false)], args := [d1, d2] }
  | _ => none }
def CurveBackWrongFalsely : Prop := curveBackRow.holds Try.pinned (OpenSpec.ofChange curveBackWrong)

/-- 'tidewaitkeep.CurveLower': WHATEVER THE INPUT: true; the input reads as it did. -/
def curveLowerSpec : ChangeSpec := { name := "curveLower", fn := fun _ => fun
  | [d1, d2, d3] => { results := [.lit (.bool true)], args := [d1, d2, d3] }
  | _ => none }
def curveLowerRow : OpenClaim := { program := "ytdilmnpoicdkhaa", sum := "34fdc4b36ba533d63e28975993b2fce0fb9d24626900888b2766a8b6754879f1", func := "tidewait/tidewaitkeep.CurveLower", spec := "curveLower", unfollowed := true, recurses := true, apart := false }
def CurveLowerSaid : Prop := curveLowerRow.holds Try.pinned (OpenSpec.ofChange curveLowerSpec)

/-- ITS FALSE NEIGHBOUR: 'it returns false'. Refute it at one input. -/
def curveLowerWrong : ChangeSpec := { name := "curveLower", fn := fun _ => fun
  | [d1, d2, d3] => { results := [.lit (.bool false)], args := [d1, d2, d3] }
  | _ => none }
def CurveLowerWrongFalsely : Prop := curveLowerRow.holds Try.pinned (OpenSpec.ofChange curveLowerWrong)

/-- 'tidewaitkeep.CurveSums': WHATEVER THE INPUT: true; the input reads as it did. -/
def curveSumsSpec : ChangeSpec := { name := "curveSums", fn := fun _ => fun
  | [d1, d2] => { results := [.lit (.bool true)], args := [d1, d2] }
  | _ => none }
def curveSumsRow : OpenClaim := { program := "ytdilmnpoicdkhaa", sum := "34fdc4b36ba533d63e28975993b2fce0fb9d24626900888b2766a8b6754879f1", func := "tidewait/tidewaitkeep.CurveSums", spec := "curveSums", unfollowed := true, recurses := true, apart := false }
def CurveSumsSaid : Prop := curveSumsRow.holds Try.pinned (OpenSpec.ofChange curveSumsSpec)

/-- ITS FALSE NEIGHBOUR: 'it returns false'. Refute it at one input. -/
def curveSumsWrong : ChangeSpec := { name := "curveSums", fn := fun _ => fun
  | [d1, d2] => { results := [.lit (.bool false)], args := [d1, d2] }
  | _ => none }
def CurveSumsWrongFalsely : Prop := curveSumsRow.holds Try.pinned (OpenSpec.ofChange curveSumsWrong)

/-- 'tidewaitkeep.BucketTwice': WHATEVER THE INPUT: true; the input reads as it did. -/
def bucketTwiceSpec : ChangeSpec := { name := "bucketTwice", fn := fun _ => fun
  | [d1, d2, d3] => { results := [.lit (.bool true)], args := [d1, d2, d3] }
  | _ => none }
def bucketTwiceRow : OpenClaim := { program := "ytdilmnpoicdkhaa", sum := "34fdc4b36ba533d63e28975993b2fce0fb9d24626900888b2766a8b6754879f1", func := "tidewait/tidewaitkeep.BucketTwice", spec := "bucketTwice", unfollowed := true, recurses := true, apart := false }
def BucketTwiceSaid : Prop := bucketTwiceRow.holds Try.pinned (OpenSpec.ofChange bucketTwiceSpec)

/-- ITS FALSE NEIGHBOUR: 'it returns false'. Refute it at one input. -/
def bucketTwiceWrong : ChangeSpec := { name := "bucketTwice", fn := fun _ => fun
  | [d1, d2, d3] => { results := [.lit (.bool false)], args := [d1, d2, d3] }
  | _ => none }
def BucketTwiceWrongFalsely : Prop := bucketTwiceRow.holds Try.pinned (OpenSpec.ofChange bucketTwiceWrong)

/-- 'tidewaitkeep.QueueMore': WHATEVER THE INPUT: true; the input reads as it did. -/
def queueMoreSpec : ChangeSpec := { name := "queueMore", fn := fun _ => fun
  | [d1, d2, d3, d4, d5] => { results := [.lit (.bool true)], args := [d1, d2, d3, d4, d5] }
  | _ => none }
def queueMoreRow : OpenClaim := { program := "ytdilmnpoicdkhaa", sum := "34fdc4b36ba533d63e28975993b2fce0fb9d24626900888b2766a8b6754879f1", func := "tidewait/tidewaitkeep.QueueMore", spec := "queueMore", unfollowed := true, recurses := true, apart := false }
def QueueMoreSaid : Prop := queueMoreRow.holds Try.pinned (OpenSpec.ofChange queueMoreSpec)

/-- ITS FALSE NEIGHBOUR: 'it returns false'. Refute it at one input. -/
def queueMoreWrong : ChangeSpec := { name := "queueMore", fn := fun _ => fun
  | [d1, d2, d3, d4, d5] => { results := [.lit (.bool false)], args := [d1, d2, d3, d4, d5] }
  | _ => none }
def QueueMoreWrongFalsely : Prop := queueMoreRow.holds Try.pinned (OpenSpec.ofChange queueMoreWrong)

/-- 'tidewaitkeep.MinplusOver': WHATEVER THE INPUT: true; the input reads as it did. -/
def minplusOverSpec : ChangeSpec := { name := "minplusOver", fn := fun _ => fun
  | [d1, d2, d3] => { results := [.lit (.bool true)], args := [d1, d2, d3] }
  | _ => none }
def minplusOverRow : OpenClaim := { program := "ytdilmnpoicdkhaa", sum := "34fdc4b36ba533d63e28975993b2fce0fb9d24626900888b2766a8b6754879f1", func := "tidewait/tidewaitkeep.MinplusOver", spec := "minplusOver", apart := false }
def MinplusOverSaid : Prop := minplusOverRow.holds Try.pinned (OpenSpec.ofChange minplusOverSpec)

/-- ITS FALSE NEIGHBOUR: 'it returns false'. Refute it at one input. -/
def minplusOverWrong : ChangeSpec := { name := "minplusOver", fn := fun _ => fun
  | [d1, d2, d3] => { results := [.lit (.bool false)], args := [d1, d2, d3] }
  | _ => none }
def MinplusOverWrongFalsely : Prop := minplusOverRow.holds Try.pinned (OpenSpec.ofChange minplusOverWrong)

/-- 'tidewaitkeep.MinplusClosed': WHATEVER THE INPUT: true; the input reads as it did. -/
def minplusClosedSpec : ChangeSpec := { name := "minplusClosed", fn := fun _ => fun
  | [d1, d2] => { results := [.lit (.bool true)], args := [d1, d2] }
  | _ => none }
def minplusClosedRow : OpenClaim := { program := "ytdilmnpoicdkhaa", sum := "34fdc4b36ba533d63e28975993b2fce0fb9d24626900888b2766a8b6754879f1", func := "tidewait/tidewaitkeep.MinplusClosed", spec := "minplusClosed", apart := false }
def MinplusClosedSaid : Prop := minplusClosedRow.holds Try.pinned (OpenSpec.ofChange minplusClosedSpec)

/-- ITS FALSE NEIGHBOUR: 'it returns false'. Refute it at one input. -/
def minplusClosedWrong : ChangeSpec := { name := "minplusClosed", fn := fun _ => fun
  | [d1, d2] => { results := [.lit (.bool false)], args := [d1, d2] }
  | _ => none }
def MinplusClosedWrongFalsely : Prop := minplusClosedRow.holds Try.pinned (OpenSpec.ofChange minplusClosedWrong)

/-- 'tidewaitkeep.QueueLindley': WHATEVER THE INPUT: true; the input reads as it did. -/
def queueLindleySpec : ChangeSpec := { name := "queueLindley", fn := fun _ => fun
  | [d1, d2] => { results := [.lit (.bool true)], args := [d1, d2] }
  | _ => none }
def queueLindleyRow : OpenClaim := { program := "ytdilmnpoicdkhaa", sum := "34fdc4b36ba533d63e28975993b2fce0fb9d24626900888b2766a8b6754879f1", func := "tidewait/tidewaitkeep.QueueLindley", spec := "queueLindley", unfollowed := true, recurses := true, apart := false }
def QueueLindleySaid : Prop := queueLindleyRow.holds Try.pinned (OpenSpec.ofChange queueLindleySpec)

/-- ITS FALSE NEIGHBOUR: 'it returns false'. Refute it at one input. -/
def queueLindleyWrong : ChangeSpec := { name := "queueLindley", fn := fun _ => fun
  | [d1, d2] => { results := [.lit (.bool false)], args := [d1, d2] }
  | _ => none }
def QueueLindleyWrongFalsely : Prop := queueLindleyRow.holds Try.pinned (OpenSpec.ofChange queueLindleyWrong)

/-- 'tidewaitkeep.QueueReich': WHATEVER THE INPUT: true; the input reads as it did. -/
def queueReichSpec : ChangeSpec := { name := "queueReich", fn := fun _ => fun
  | [d1, d2] => { results := [.lit (.bool true)], args := [d1, d2] }
  | _ => none }
def queueReichRow : OpenClaim := { program := "ytdilmnpoicdkhaa", sum := "34fdc4b36ba533d63e28975993b2fce0fb9d24626900888b2766a8b6754879f1", func := "tidewait/tidewaitkeep.QueueReich", spec := "queueReich", unfollowed := true, recurses := true, apart := false }
def QueueReichSaid : Prop := queueReichRow.holds Try.pinned (OpenSpec.ofChange queueReichSpec)

/-- ITS FALSE NEIGHBOUR: 'it returns false'. Refute it at one input. -/
def queueReichWrong : ChangeSpec := { name := "queueReich", fn := fun _ => fun
  | [d1, d2] => { results := [.lit (.bool false)], args := [d1, d2] }
  | _ => none }
def QueueReichWrongFalsely : Prop := queueReichRow.holds Try.pinned (OpenSpec.ofChange queueReichWrong)

/-- 'tidewaitkeep.QueueDelay': WHATEVER THE INPUT: true; the input reads as it did. -/
def queueDelaySpec : ChangeSpec := { name := "queueDelay", fn := fun _ => fun
  | [d1, d2] => { results := [.lit (.bool true)], args := [d1, d2] }
  | _ => none }
def queueDelayRow : OpenClaim := { program := "ytdilmnpoicdkhaa", sum := "34fdc4b36ba533d63e28975993b2fce0fb9d24626900888b2766a8b6754879f1", func := "tidewait/tidewaitkeep.QueueDelay", spec := "queueDelay", unfollowed := true, recurses := true, apart := false }
def QueueDelaySaid : Prop := queueDelayRow.holds Try.pinned (OpenSpec.ofChange queueDelaySpec)

/-- ITS FALSE NEIGHBOUR: 'it returns false'. Refute it at one input. -/
def queueDelayWrong : ChangeSpec := { name := "queueDelay", fn := fun _ => fun
  | [d1, d2] => { results := [.lit (.bool false)], args := [d1, d2] }
  | _ => none }
def QueueDelayWrongFalsely : Prop := queueDelayRow.holds Try.pinned (OpenSpec.ofChange queueDelayWrong)

/-- 'tidewaitkeep.BucketKeeps': WHATEVER THE INPUT: true; the input reads as it did. -/
def bucketKeepsSpec : ChangeSpec := { name := "bucketKeeps", fn := fun _ => fun
  | [d1, d2] => { results := [.lit (.bool true)], args := [d1, d2] }
  | _ => none }
def bucketKeepsRow : OpenClaim := { program := "ytdilmnpoicdkhaa", sum := "34fdc4b36ba533d63e28975993b2fce0fb9d24626900888b2766a8b6754879f1", func := "tidewait/tidewaitkeep.BucketKeeps", spec := "bucketKeeps", unfollowed := true, recurses := true, apart := false }
def BucketKeepsSaid : Prop := bucketKeepsRow.holds Try.pinned (OpenSpec.ofChange bucketKeepsSpec)

/-- ITS FALSE NEIGHBOUR: 'it returns false'. Refute it at one input. -/
def bucketKeepsWrong : ChangeSpec := { name := "bucketKeeps", fn := fun _ => fun
  | [d1, d2] => { results := [.lit (.bool false)], args := [d1, d2] }
  | _ => none }
def BucketKeepsWrongFalsely : Prop := bucketKeepsRow.holds Try.pinned (OpenSpec.ofChange bucketKeepsWrong)

/-- 'tidewaitkeep.BucketGreedy': WHATEVER THE INPUT: true; the input reads as it did. -/
def bucketGreedySpec : ChangeSpec := { name := "bucketGreedy", fn := fun _ => fun
  | [d1, d2, d3] => { results := [.lit (.bool true)], args := [d1, d2, d3] }
  | _ => none }
def bucketGreedyRow : OpenClaim := { program := "ytdilmnpoicdkhaa", sum := "34fdc4b36ba533d63e28975993b2fce0fb9d24626900888b2766a8b6754879f1", func := "tidewait/tidewaitkeep.BucketGreedy", spec := "bucketGreedy", unfollowed := true, recurses := true, apart := false }
def BucketGreedySaid : Prop := bucketGreedyRow.holds Try.pinned (OpenSpec.ofChange bucketGreedySpec)

/-- ITS FALSE NEIGHBOUR: 'it returns false'. Refute it at one input. -/
def bucketGreedyWrong : ChangeSpec := { name := "bucketGreedy", fn := fun _ => fun
  | [d1, d2, d3] => { results := [.lit (.bool false)], args := [d1, d2, d3] }
  | _ => none }
def BucketGreedyWrongFalsely : Prop := bucketGreedyRow.holds Try.pinned (OpenSpec.ofChange bucketGreedyWrong)

/-- 'tidewaitkeep.MinplusRing': WHATEVER THE INPUT: true; the input reads as it did. -/
def minplusRingSpec : ChangeSpec := { name := "minplusRing", fn := fun _ => fun
  | [d1, d2, d3] => { results := [.lit (.bool true)], args := [d1, d2, d3] }
  | _ => none }
def minplusRingRow : OpenClaim := { program := "ytdilmnpoicdkhaa", sum := "34fdc4b36ba533d63e28975993b2fce0fb9d24626900888b2766a8b6754879f1", func := "tidewait/tidewaitkeep.MinplusRing", spec := "minplusRing", unfollowed := true, recurses := true, apart := false }
def MinplusRingSaid : Prop := minplusRingRow.holds Try.pinned (OpenSpec.ofChange minplusRingSpec)

/-- ITS FALSE NEIGHBOUR: 'it returns false'. Refute it at one input. -/
def minplusRingWrong : ChangeSpec := { name := "minplusRing", fn := fun _ => fun
  | [d1, d2, d3] => { results := [.lit (.bool false)], args := [d1, d2, d3] }
  | _ => none }
def MinplusRingWrongFalsely : Prop := minplusRingRow.holds Try.pinned (OpenSpec.ofChange minplusRingWrong)

/-- 'tidewaitkeep.BucketConv': WHATEVER THE INPUT: true; the input reads as it did. -/
def bucketConvSpec : ChangeSpec := { name := "bucketConv", fn := fun _ => fun
  | [d1, d2] => { results := [.lit (.bool true)], args := [d1, d2] }
  | _ => none }
def bucketConvRow : OpenClaim := { program := "ytdilmnpoicdkhaa", sum := "34fdc4b36ba533d63e28975993b2fce0fb9d24626900888b2766a8b6754879f1", func := "tidewait/tidewaitkeep.BucketConv", spec := "bucketConv", unfollowed := true, recurses := true, apart := false }
def BucketConvSaid : Prop := bucketConvRow.holds Try.pinned (OpenSpec.ofChange bucketConvSpec)

/-- ITS FALSE NEIGHBOUR: 'it returns false'. Refute it at one input. -/
def bucketConvWrong : ChangeSpec := { name := "bucketConv", fn := fun _ => fun
  | [d1, d2] => { results := [.lit (.bool false)], args := [d1, d2] }
  | _ => none }
def BucketConvWrongFalsely : Prop := bucketConvRow.holds Try.pinned (OpenSpec.ofChange bucketConvWrong)

/-- 'tidewaitkeep.MinplusRises': WHATEVER THE INPUT: true; the input reads as it did. -/
def minplusRisesSpec : ChangeSpec := { name := "minplusRises", fn := fun _ => fun
  | [d1, d2, d3] => { results := [.lit (.bool true)], args := [d1, d2, d3] }
  | _ => none }
def minplusRisesRow : OpenClaim := { program := "ytdilmnpoicdkhaa", sum := "34fdc4b36ba533d63e28975993b2fce0fb9d24626900888b2766a8b6754879f1", func := "tidewait/tidewaitkeep.MinplusRises", spec := "minplusRises", unfollowed := true, recurses := true, apart := false }
def MinplusRisesSaid : Prop := minplusRisesRow.holds Try.pinned (OpenSpec.ofChange minplusRisesSpec)

/-- ITS FALSE NEIGHBOUR: 'it returns false'. Refute it at one input. -/
def minplusRisesWrong : ChangeSpec := { name := "minplusRises", fn := fun _ => fun
  | [d1, d2, d3] => { results := [.lit (.bool false)], args := [d1, d2, d3] }
  | _ => none }
def MinplusRisesWrongFalsely : Prop := minplusRisesRow.holds Try.pinned (OpenSpec.ofChange minplusRisesWrong)

/-- 'tidewaitkeep.BoundWaits': WHATEVER THE INPUT: true; the input reads as it did. -/
def boundWaitsSpec : ChangeSpec := { name := "boundWaits", fn := fun _ => fun
  | [d1, d2, d3, d4] => { results := [.lit (.bool true)], args := [d1, d2, d3, d4] }
  | _ => none }
def boundWaitsRow : OpenClaim := { program := "ytdilmnpoicdkhaa", sum := "34fdc4b36ba533d63e28975993b2fce0fb9d24626900888b2766a8b6754879f1", func := "tidewait/tidewaitkeep.BoundWaits", spec := "boundWaits", unfollowed := true, recurses := true, apart := false }
def BoundWaitsSaid : Prop := boundWaitsRow.holds Try.pinned (OpenSpec.ofChange boundWaitsSpec)

/-- ITS FALSE NEIGHBOUR: 'it returns false'. Refute it at one input. -/
def boundWaitsWrong : ChangeSpec := { name := "boundWaits", fn := fun _ => fun
  | [d1, d2, d3, d4] => { results := [.lit (.bool false)], args := [d1, d2, d3, d4] }
  | _ => none }
def BoundWaitsWrongFalsely : Prop := boundWaitsRow.holds Try.pinned (OpenSpec.ofChange boundWaitsWrong)

/-- 'tidewaitkeep.BoundDelay': WHATEVER THE INPUT: true; the input reads as it did. -/
def boundDelaySpec : ChangeSpec := { name := "boundDelay", fn := fun _ => fun
  | [d1, d2, d3, d4] => { results := [.lit (.bool true)], args := [d1, d2, d3, d4] }
  | _ => none }
def boundDelayRow : OpenClaim := { program := "ytdilmnpoicdkhaa", sum := "34fdc4b36ba533d63e28975993b2fce0fb9d24626900888b2766a8b6754879f1", func := "tidewait/tidewaitkeep.BoundDelay", spec := "boundDelay", unfollowed := true, recurses := true, apart := false }
def BoundDelaySaid : Prop := boundDelayRow.holds Try.pinned (OpenSpec.ofChange boundDelaySpec)

/-- ITS FALSE NEIGHBOUR: 'it returns false'. Refute it at one input. -/
def boundDelayWrong : ChangeSpec := { name := "boundDelay", fn := fun _ => fun
  | [d1, d2, d3, d4] => { results := [.lit (.bool false)], args := [d1, d2, d3, d4] }
  | _ => none }
def BoundDelayWrongFalsely : Prop := boundDelayRow.holds Try.pinned (OpenSpec.ofChange boundDelayWrong)

/-- 'tidewaitkeep.QueueConv': WHATEVER THE INPUT: true; the input reads as it did. -/
def queueConvSpec : ChangeSpec := { name := "queueConv", fn := fun _ => fun
  | [d1, d2] => { results := [.lit (.bool true)], args := [d1, d2] }
  | _ => none }
def queueConvRow : OpenClaim := { program := "ytdilmnpoicdkhaa", sum := "34fdc4b36ba533d63e28975993b2fce0fb9d24626900888b2766a8b6754879f1", func := "tidewait/tidewaitkeep.QueueConv", spec := "queueConv", unfollowed := true, recurses := true, apart := false }
def QueueConvSaid : Prop := queueConvRow.holds Try.pinned (OpenSpec.ofChange queueConvSpec)

/-- ITS FALSE NEIGHBOUR: 'it returns false'. Refute it at one input. -/
def queueConvWrong : ChangeSpec := { name := "queueConv", fn := fun _ => fun
  | [d1, d2] => { results := [.lit (.bool false)], args := [d1, d2] }
  | _ => none }
def QueueConvWrongFalsely : Prop := queueConvRow.holds Try.pinned (OpenSpec.ofChange queueConvWrong)

/-- 'tidewaitkeep.BucketLine': WHATEVER THE INPUT: true; the input reads as it did. -/
def bucketLineSpec : ChangeSpec := { name := "bucketLine", fn := fun _ => fun
  | [d1, d2] => { results := [.lit (.bool true)], args := [d1, d2] }
  | _ => none }
def bucketLineRow : OpenClaim := { program := "ytdilmnpoicdkhaa", sum := "34fdc4b36ba533d63e28975993b2fce0fb9d24626900888b2766a8b6754879f1", func := "tidewait/tidewaitkeep.BucketLine", spec := "bucketLine", unfollowed := true, recurses := true, apart := false }
def BucketLineSaid : Prop := bucketLineRow.holds Try.pinned (OpenSpec.ofChange bucketLineSpec)

/-- ITS FALSE NEIGHBOUR: 'it returns false'. Refute it at one input. -/
def bucketLineWrong : ChangeSpec := { name := "bucketLine", fn := fun _ => fun
  | [d1, d2] => { results := [.lit (.bool false)], args := [d1, d2] }
  | _ => none }
def BucketLineWrongFalsely : Prop := bucketLineRow.holds Try.pinned (OpenSpec.ofChange bucketLineWrong)

/-- 'tidewaitkeep.BoundKeeps': WHATEVER THE INPUT: true; the input reads as it did. -/
def boundKeepsSpec : ChangeSpec := { name := "boundKeeps", fn := fun _ => fun
  | [d1, d2, d3, d4] => { results := [.lit (.bool true)], args := [d1, d2, d3, d4] }
  | _ => none }
def boundKeepsRow : OpenClaim := { program := "ytdilmnpoicdkhaa", sum := "34fdc4b36ba533d63e28975993b2fce0fb9d24626900888b2766a8b6754879f1", func := "tidewait/tidewaitkeep.BoundKeeps", spec := "boundKeeps", unfollowed := true, recurses := true, apart := false }
def BoundKeepsSaid : Prop := boundKeepsRow.holds Try.pinned (OpenSpec.ofChange boundKeepsSpec)

/-- ITS FALSE NEIGHBOUR: 'it returns false'. Refute it at one input. -/
def boundKeepsWrong : ChangeSpec := { name := "boundKeeps", fn := fun _ => fun
  | [d1, d2, d3, d4] => { results := [.lit (.bool false)], args := [d1, d2, d3, d4] }
  | _ => none }
def BoundKeepsWrongFalsely : Prop := boundKeepsRow.holds Try.pinned (OpenSpec.ofChange boundKeepsWrong)

/-- 'tidewaitkeep.BoundQueue': WHATEVER THE INPUT: true; the input reads as it did. -/
def boundQueueSpec : ChangeSpec := { name := "boundQueue", fn := fun _ => fun
  | [d1, d2, d3] => { results := [.lit (.bool true)], args := [d1, d2, d3] }
  | _ => none }
def boundQueueRow : OpenClaim := { program := "ytdilmnpoicdkhaa", sum := "34fdc4b36ba533d63e28975993b2fce0fb9d24626900888b2766a8b6754879f1", func := "tidewait/tidewaitkeep.BoundQueue", spec := "boundQueue", unfollowed := true, recurses := true, apart := false }
def BoundQueueSaid : Prop := boundQueueRow.holds Try.pinned (OpenSpec.ofChange boundQueueSpec)

/-- ITS FALSE NEIGHBOUR: 'it returns false'. Refute it at one input. -/
def boundQueueWrong : ChangeSpec := { name := "boundQueue", fn := fun _ => fun
  | [d1, d2, d3] => { results := [.lit (.bool false)], args := [d1, d2, d3] }
  | _ => none }
def BoundQueueWrongFalsely : Prop := boundQueueRow.holds Try.pinned (OpenSpec.ofChange boundQueueWrong)

/- THE SECOND FORM. 'bulk': how many values and letters a reading holds, each counted each time it is reached (what is shared counts as often as it is met; a slice's spare places count too). A statement '..UptoSaid' is the law's where the arguments, and the package variables that the reading takes, are together of bulk at most 1048576: NARROWER than '..Said'. Prove '..Said' where nothing that the law and all that it calls make is longer than what came in: it says more and counts as full. Else prove '..UptoSaid'. A law counts once. -/
mutual
def uptoBulk {H : Type} : DataW H → Nat
  | .lit (.string bytes) => bytes.length + 1
  | .lit _ => 1
  | .nil => 1
  | .ptr d => uptoBulk d + 1
  | .slice elems spare => uptoBulkAll elems + uptoBulkAll spare + 1
  | .agg parts => uptoBulkAll parts + 1
  | .iface _ d => uptoBulk d + 1
  | .map entries => uptoBulkEntries entries + 1
  | .held _ => 1
def uptoBulkAll {H : Type} : List (DataW H) → Nat
  | [] => 0
  | d :: r => uptoBulk d + uptoBulkAll r
def uptoBulkEntries {H : Type} : List (Lit × DataW H) → Nat
  | [] => 0
  | x :: r => uptoBulkEntry x + uptoBulkEntries r
def uptoBulkEntry {H : Type} : Lit × DataW H → Nat
  | (.string bytes, d) => bytes.length + uptoBulk d + 1
  | (_, d) => uptoBulk d + 1
 end
def uptoSmall : (H : Type) → List (DataW H) → Bool := fun _ ds => decide (uptoBulkAll ds ≤ 1048576)
def OpenSpec.upto (s : _root_.Go.ChangeSpec) : _root_.Go.OpenSpec := { _root_.Go.OpenSpec.ofChange s with cond := some uptoSmall }

/-- 'tidewaitkeep.QueueSums', WHERE WHAT IT READS IS OF BULK AT MOST 1048576: true; the input reads as it did. -/
def queueSumsUptoRow : OpenClaim := { program := "ytdilmnpoicdkhaa", sum := "34fdc4b36ba533d63e28975993b2fce0fb9d24626900888b2766a8b6754879f1", func := "tidewait/tidewaitkeep.QueueSums", spec := "queueSums", unfollowed := true, recurses := true, apart := false, narrowed := true }
def QueueSumsUptoSaid : Prop := queueSumsUptoRow.holds Try.pinned (OpenSpec.upto queueSumsSpec)

/-- 'tidewaitkeep.CurveBack', WHERE WHAT IT READS IS OF BULK AT MOST 1048576: true; the input reads as it did. -/
def curveBackUptoRow : OpenClaim := { program := "ytdilmnpoicdkhaa", sum := "34fdc4b36ba533d63e28975993b2fce0fb9d24626900888b2766a8b6754879f1", func := "tidewait/tidewaitkeep.CurveBack", spec := "curveBack", unfollowed := true, recurses := true, apart := false, narrowed := true }
def CurveBackUptoSaid : Prop := curveBackUptoRow.holds Try.pinned (OpenSpec.upto curveBackSpec)

/-- 'tidewaitkeep.CurveLower', WHERE WHAT IT READS IS OF BULK AT MOST 1048576: true; the input reads as it did. -/
def curveLowerUptoRow : OpenClaim := { program := "ytdilmnpoicdkhaa", sum := "34fdc4b36ba533d63e28975993b2fce0fb9d24626900888b2766a8b6754879f1", func := "tidewait/tidewaitkeep.CurveLower", spec := "curveLower", unfollowed := true, recurses := true, apart := false, narrowed := true }
def CurveLowerUptoSaid : Prop := curveLowerUptoRow.holds Try.pinned (OpenSpec.upto curveLowerSpec)

/-- 'tidewaitkeep.CurveSums', WHERE WHAT IT READS IS OF BULK AT MOST 1048576: true; the input reads as it did. -/
def curveSumsUptoRow : OpenClaim := { program := "ytdilmnpoicdkhaa", sum := "34fdc4b36ba533d63e28975993b2fce0fb9d24626900888b2766a8b6754879f1", func := "tidewait/tidewaitkeep.CurveSums", spec := "curveSums", unfollowed := true, recurses := true, apart := false, narrowed := true }
def CurveSumsUptoSaid : Prop := curveSumsUptoRow.holds Try.pinned (OpenSpec.upto curveSumsSpec)

/-- 'tidewaitkeep.BucketTwice', WHERE WHAT IT READS IS OF BULK AT MOST 1048576: true; the input reads as it did. -/
def bucketTwiceUptoRow : OpenClaim := { program := "ytdilmnpoicdkhaa", sum := "34fdc4b36ba533d63e28975993b2fce0fb9d24626900888b2766a8b6754879f1", func := "tidewait/tidewaitkeep.BucketTwice", spec := "bucketTwice", unfollowed := true, recurses := true, apart := false, narrowed := true }
def BucketTwiceUptoSaid : Prop := bucketTwiceUptoRow.holds Try.pinned (OpenSpec.upto bucketTwiceSpec)

/-- 'tidewaitkeep.QueueMore', WHERE WHAT IT READS IS OF BULK AT MOST 1048576: true; the input reads as it did. -/
def queueMoreUptoRow : OpenClaim := { program := "ytdilmnpoicdkhaa", sum := "34fdc4b36ba533d63e28975993b2fce0fb9d24626900888b2766a8b6754879f1", func := "tidewait/tidewaitkeep.QueueMore", spec := "queueMore", unfollowed := true, recurses := true, apart := false, narrowed := true }
def QueueMoreUptoSaid : Prop := queueMoreUptoRow.holds Try.pinned (OpenSpec.upto queueMoreSpec)

/-- 'tidewaitkeep.MinplusOver', WHERE WHAT IT READS IS OF BULK AT MOST 1048576: true; the input reads as it did. -/
def minplusOverUptoRow : OpenClaim := { program := "ytdilmnpoicdkhaa", sum := "34fdc4b36ba533d63e28975993b2fce0fb9d24626900888b2766a8b6754879f1", func := "tidewait/tidewaitkeep.MinplusOver", spec := "minplusOver", apart := false, narrowed := true }
def MinplusOverUptoSaid : Prop := minplusOverUptoRow.holds Try.pinned (OpenSpec.upto minplusOverSpec)

/-- 'tidewaitkeep.MinplusClosed', WHERE WHAT IT READS IS OF BULK AT MOST 1048576: true; the input reads as it did. -/
def minplusClosedUptoRow : OpenClaim := { program := "ytdilmnpoicdkhaa", sum := "34fdc4b36ba533d63e28975993b2fce0fb9d24626900888b2766a8b6754879f1", func := "tidewait/tidewaitkeep.MinplusClosed", spec := "minplusClosed", apart := false, narrowed := true }
def MinplusClosedUptoSaid : Prop := minplusClosedUptoRow.holds Try.pinned (OpenSpec.upto minplusClosedSpec)

/-- 'tidewaitkeep.QueueLindley', WHERE WHAT IT READS IS OF BULK AT MOST 1048576: true; the input reads as it did. -/
def queueLindleyUptoRow : OpenClaim := { program := "ytdilmnpoicdkhaa", sum := "34fdc4b36ba533d63e28975993b2fce0fb9d24626900888b2766a8b6754879f1", func := "tidewait/tidewaitkeep.QueueLindley", spec := "queueLindley", unfollowed := true, recurses := true, apart := false, narrowed := true }
def QueueLindleyUptoSaid : Prop := queueLindleyUptoRow.holds Try.pinned (OpenSpec.upto queueLindleySpec)

/-- 'tidewaitkeep.QueueReich', WHERE WHAT IT READS IS OF BULK AT MOST 1048576: true; the input reads as it did. -/
def queueReichUptoRow : OpenClaim := { program := "ytdilmnpoicdkhaa", sum := "34fdc4b36ba533d63e28975993b2fce0fb9d24626900888b2766a8b6754879f1", func := "tidewait/tidewaitkeep.QueueReich", spec := "queueReich", unfollowed := true, recurses := true, apart := false, narrowed := true }
def QueueReichUptoSaid : Prop := queueReichUptoRow.holds Try.pinned (OpenSpec.upto queueReichSpec)

/-- 'tidewaitkeep.QueueDelay', WHERE WHAT IT READS IS OF BULK AT MOST 1048576: true; the input reads as it did. -/
def queueDelayUptoRow : OpenClaim := { program := "ytdilmnpoicdkhaa", sum := "34fdc4b36ba533d63e28975993b2fce0fb9d24626900888b2766a8b6754879f1", func := "tidewait/tidewaitkeep.QueueDelay", spec := "queueDelay", unfollowed := true, recurses := true, apart := false, narrowed := true }
def QueueDelayUptoSaid : Prop := queueDelayUptoRow.holds Try.pinned (OpenSpec.upto queueDelaySpec)

/-- 'tidewaitkeep.BucketKeeps', WHERE WHAT IT READS IS OF BULK AT MOST 1048576: true; the input reads as it did. -/
def bucketKeepsUptoRow : OpenClaim := { program := "ytdilmnpoicdkhaa", sum := "34fdc4b36ba533d63e28975993b2fce0fb9d24626900888b2766a8b6754879f1", func := "tidewait/tidewaitkeep.BucketKeeps", spec := "bucketKeeps", unfollowed := true, recurses := true, apart := false, narrowed := true }
def BucketKeepsUptoSaid : Prop := bucketKeepsUptoRow.holds Try.pinned (OpenSpec.upto bucketKeepsSpec)

/-- 'tidewaitkeep.BucketGreedy', WHERE WHAT IT READS IS OF BULK AT MOST 1048576: true; the input reads as it did. -/
def bucketGreedyUptoRow : OpenClaim := { program := "ytdilmnpoicdkhaa", sum := "34fdc4b36ba533d63e28975993b2fce0fb9d24626900888b2766a8b6754879f1", func := "tidewait/tidewaitkeep.BucketGreedy", spec := "bucketGreedy", unfollowed := true, recurses := true, apart := false, narrowed := true }
def BucketGreedyUptoSaid : Prop := bucketGreedyUptoRow.holds Try.pinned (OpenSpec.upto bucketGreedySpec)

/-- 'tidewaitkeep.MinplusRing', WHERE WHAT IT READS IS OF BULK AT MOST 1048576: true; the input reads as it did. -/
def minplusRingUptoRow : OpenClaim := { program := "ytdilmnpoicdkhaa", sum := "34fdc4b36ba533d63e28975993b2fce0fb9d24626900888b2766a8b6754879f1", func := "tidewait/tidewaitkeep.MinplusRing", spec := "minplusRing", unfollowed := true, recurses := true, apart := false, narrowed := true }
def MinplusRingUptoSaid : Prop := minplusRingUptoRow.holds Try.pinned (OpenSpec.upto minplusRingSpec)

/-- 'tidewaitkeep.BucketConv', WHERE WHAT IT READS IS OF BULK AT MOST 1048576: true; the input reads as it did. -/
def bucketConvUptoRow : OpenClaim := { program := "ytdilmnpoicdkhaa", sum := "34fdc4b36ba533d63e28975993b2fce0fb9d24626900888b2766a8b6754879f1", func := "tidewait/tidewaitkeep.BucketConv", spec := "bucketConv", unfollowed := true, recurses := true, apart := false, narrowed := true }
def BucketConvUptoSaid : Prop := bucketConvUptoRow.holds Try.pinned (OpenSpec.upto bucketConvSpec)

/-- 'tidewaitkeep.MinplusRises', WHERE WHAT IT READS IS OF BULK AT MOST 1048576: true; the input reads as it did. -/
def minplusRisesUptoRow : OpenClaim := { program := "ytdilmnpoicdkhaa", sum := "34fdc4b36ba533d63e28975993b2fce0fb9d24626900888b2766a8b6754879f1", func := "tidewait/tidewaitkeep.MinplusRises", spec := "minplusRises", unfollowed := true, recurses := true, apart := false, narrowed := true }
def MinplusRisesUptoSaid : Prop := minplusRisesUptoRow.holds Try.pinned (OpenSpec.upto minplusRisesSpec)

/-- 'tidewaitkeep.BoundWaits', WHERE WHAT IT READS IS OF BULK AT MOST 1048576: true; the input reads as it did. -/
def boundWaitsUptoRow : OpenClaim := { program := "ytdilmnpoicdkhaa", sum := "34fdc4b36ba533d63e28975993b2fce0fb9d24626900888b2766a8b6754879f1", func := "tidewait/tidewaitkeep.BoundWaits", spec := "boundWaits", unfollowed := true, recurses := true, apart := false, narrowed := true }
def BoundWaitsUptoSaid : Prop := boundWaitsUptoRow.holds Try.pinned (OpenSpec.upto boundWaitsSpec)

/-- 'tidewaitkeep.BoundDelay', WHERE WHAT IT READS IS OF BULK AT MOST 1048576: true; the input reads as it did. -/
def boundDelayUptoRow : OpenClaim := { program := "ytdilmnpoicdkhaa", sum := "34fdc4b36ba533d63e28975993b2fce0fb9d24626900888b2766a8b6754879f1", func := "tidewait/tidewaitkeep.BoundDelay", spec := "boundDelay", unfollowed := true, recurses := true, apart := false, narrowed := true }
def BoundDelayUptoSaid : Prop := boundDelayUptoRow.holds Try.pinned (OpenSpec.upto boundDelaySpec)

/-- 'tidewaitkeep.QueueConv', WHERE WHAT IT READS IS OF BULK AT MOST 1048576: true; the input reads as it did. -/
def queueConvUptoRow : OpenClaim := { program := "ytdilmnpoicdkhaa", sum := "34fdc4b36ba533d63e28975993b2fce0fb9d24626900888b2766a8b6754879f1", func := "tidewait/tidewaitkeep.QueueConv", spec := "queueConv", unfollowed := true, recurses := true, apart := false, narrowed := true }
def QueueConvUptoSaid : Prop := queueConvUptoRow.holds Try.pinned (OpenSpec.upto queueConvSpec)

/-- 'tidewaitkeep.BucketLine', WHERE WHAT IT READS IS OF BULK AT MOST 1048576: true; the input reads as it did. -/
def bucketLineUptoRow : OpenClaim := { program := "ytdilmnpoicdkhaa", sum := "34fdc4b36ba533d63e28975993b2fce0fb9d24626900888b2766a8b6754879f1", func := "tidewait/tidewaitkeep.BucketLine", spec := "bucketLine", unfollowed := true, recurses := true, apart := false, narrowed := true }
def BucketLineUptoSaid : Prop := bucketLineUptoRow.holds Try.pinned (OpenSpec.upto bucketLineSpec)

/-- 'tidewaitkeep.BoundKeeps', WHERE WHAT IT READS IS OF BULK AT MOST 1048576: true; the input reads as it did. -/
def boundKeepsUptoRow : OpenClaim := { program := "ytdilmnpoicdkhaa", sum := "34fdc4b36ba533d63e28975993b2fce0fb9d24626900888b2766a8b6754879f1", func := "tidewait/tidewaitkeep.BoundKeeps", spec := "boundKeeps", unfollowed := true, recurses := true, apart := false, narrowed := true }
def BoundKeepsUptoSaid : Prop := boundKeepsUptoRow.holds Try.pinned (OpenSpec.upto boundKeepsSpec)

/-- 'tidewaitkeep.BoundQueue', WHERE WHAT IT READS IS OF BULK AT MOST 1048576: true; the input reads as it did. -/
def boundQueueUptoRow : OpenClaim := { program := "ytdilmnpoicdkhaa", sum := "34fdc4b36ba533d63e28975993b2fce0fb9d24626900888b2766a8b6754879f1", func := "tidewait/tidewaitkeep.BoundQueue", spec := "boundQueue", unfollowed := true, recurses := true, apart := false, narrowed := true }
def BoundQueueUptoSaid : Prop := boundQueueUptoRow.holds Try.pinned (OpenSpec.upto boundQueueSpec)

end Rows
end Go.Proofs.Ytdilmnpoicdkhaa
