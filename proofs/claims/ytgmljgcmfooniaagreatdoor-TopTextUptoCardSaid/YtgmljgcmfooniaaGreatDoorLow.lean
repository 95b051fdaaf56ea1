/- The least delay seen. Conditions: none. -/
import Derived.Test.YtgmljgcmfooniaaGreatDoorKit
namespace Go.Proofs.YtgmljgcmfooniaaGreatDoor
def lowBase (base d : Int) : Int := if base < 0 ∨ d < base then d else base
end Go.Proofs.YtgmljgcmfooniaaGreatDoor
