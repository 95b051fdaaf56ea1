/- What num.Fit, num.Plus and num.Less answer, for every input: contracts over this seat's program. Conditions: none. -/
import Derived.Test.YtnbjcohkkaijaaaProg
import Derived.Test.YtnbjcohkkaijaaaKit
set_option linter.unusedVariables false
set_option linter.unusedSimpArgs false
namespace Go.Tide
def fit (a : Int) : Int := min (max a 0) 1152921504606846976
def plus (a b : Int) : Int := min (fit a + fit b) 1152921504606846976
def less (a b : Int) : Int := if fit b = 1152921504606846976 ∨ fit a < fit b then 0 else if fit a = 1152921504606846976 then fit a else fit a - fit b
end Go.Tide
namespace Go.Proofs.Ytnbjcohkkaijaaa
open Go.RowKit Go.Tide
set_option linter.unusedVariables false
set_option linter.unusedSimpArgs false



end Go.Proofs.Ytnbjcohkkaijaaa
