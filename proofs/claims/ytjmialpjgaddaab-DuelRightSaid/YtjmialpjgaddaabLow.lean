/- The least delay seen. Conditions: none. -/
import Derived.Test.YtjmialpjgaddaabKit
namespace Go.Proofs.Ytjmialpjgaddaab
def lowBase (base d : Int) : Int := if base < 0 ∨ d < base then d else base
end Go.Proofs.Ytjmialpjgaddaab
