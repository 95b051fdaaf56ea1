/- Rows of literals, by a name that is not laid open. Conditions: none. -/
import Derived.Test.YtgmljgcmfooniaaGreatDoorKit2
import Derived.Test.YtgmljgcmfooniaaGreatDoorSlEqual
set_option linter.unusedVariables false
set_option linter.unusedSimpArgs false
namespace Go
/-- A literal's numbers. -/
def rowOf (l : List Int) (k : Nat) : Int := l.getD k 0
theorem Row.litR {w : World} {cs : Array Value} {t : TypeId} {g n : Nat} (l : List Int) (hg : g = w.heap.size) (hcs : cs = (l.map (Value.int .i64)).toArray) (hn : l.length = n) :
    Row (w.alloc (.cells cs t)) (some ⟨g, 0, none⟩) n (rowOf l) := Row.lit' l hg hcs hn
end Go
namespace Go.Tide
theorem eqLit {n m : Nat} {f g : Nat → Int} (h : n = m) (k : ∀ j, j < n → f j = g j) : eqRows n m f g = true := eqRows_true ⟨h, k⟩
end Go.Tide
