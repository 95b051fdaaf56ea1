/- The least delay seen. Conditions: none. -/
import Derived.Test.YtgmljgcmfooniaaDoorKit
namespace Go.Proofs.YtgmljgcmfooniaaDoor
def lowBase (base d : Int) : Int := if base < 0 ∨ d < base then d else base
end Go.Proofs.YtgmljgcmfooniaaDoor
