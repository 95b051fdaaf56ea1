/- What an argument reads as that is a struct of an int and a slice of flat elements (a graph). Conditions: none. -/
import Derived.Test.YtnbjcohkkaijaaaOpen
import Derived.Lib.SmallJoins
set_option linter.unusedVariables false
set_option linter.unusedSimpArgs false
namespace Go.Tide
open Go.ChangeShapes Go.WideShapes Go.ChangeAt Go.RowKit Go.Deep Go.Joins
section
variable {H : Type} {enc : TypeId × Value → H} {P : Program} {w : World} {base : Nat} {spare : Nat → Bool} {held : Bool}
theorem slice_shape {t e : TypeId} {fuel : Nat} {v : Value} {x : DataW H × List MemPlace} (ht : P.underlying t = some (.slice e)) (h : DataW.trod enc P w base spare held fuel t [v] = some x) : ∃ a len cap, v = .slice a len cap := by
  rcases open_slice ht h with ⟨hcs, _⟩ | ⟨ad, len', cap', m, f, D, Pl, hcs, _⟩
  · simp at hcs
    exact ⟨_, _, _, hcs⟩
  · simp at hcs
    exact ⟨_, _, _, hcs⟩
theorem open_graph {r : Reach} {b0 : Nat} {t e C : Nat} {f0 f1 : Field} {v : Value} {d : DataW H} {p : List MemPlace} (n : Nat) (hs : P.underlying t = some (.struct #[f0, f1])) (hone : oneCellFields P #[f0, f1] = true) (hC : P.cellsOf t = 2)
    (hi : P.underlying f0.type = some (.int .i64)) (hl : P.underlying f1.type = some (.slice e)) (hflat : flatTy P n e = true) (hce : P.cellsOf e = C) (hCp : 0 < C) (hsp : ∀ b, spare b = true)
    (hv : Value.okWide P w r b0 t v) (h : DataW.Trod enc P w base spare held t v d p) :
    ∃ (N : Int) (a : Option Addr) (len cap : Nat) (z : List Int), v = .agg #[.int .i64 N, .slice a len cap] ∧ InI64 N ∧ IsFlat w a len cap C z ∧ (cap = 0 ∨ ∃ y el sp, d = .agg [y, .slice el sp] ∧ el.length + sp.length = cap) := by
  obtain ⟨v0, v1, y0, y1, m, rfl, hd, _, h0, h1⟩ := open_agg2 hs hone hC hv h
  obtain ⟨z, hz, _, hw⟩ := DataW.trod_int hi h0
  obtain rfl : v0 = .int .i64 z := by simpa using hz
  obtain ⟨a, len, cap, rfl⟩ := slice_shape hl h1
  obtain ⟨zs, hf, hc⟩ := open_flats n hflat hl (by rw [hce]; exact hCp) hsp h1
  rw [hce] at hf
  refine ⟨z, a, len, cap, zs, rfl, num_bounds hw, hf, ?_⟩
  rcases hc with hc | ⟨el, sp, he, hl⟩
  · exact .inl hc
  · exact .inr ⟨_, el, sp, by rw [hd, he], hl⟩
theorem sized_graph {ts : List TypeId} {ds : List (DataW H)} (h : (DataW.weightsEach P ts ds).all (· ≤ reachBytes) = true) {j : Nat} {t e : TypeId} {f0 f1 : Field} {y : DataW H} {elems sp : List (DataW H)} (ht : ts[j]? = some t) (hd : ds[j]? = some (.agg [y, .slice elems sp]))
    (hu : P.underlying t = some (.struct #[f0, f1])) (hl : P.underlying f1.type = some (.slice e)) : (elems.length + sp.length) * P.bytesOf e ≤ reachBytes := by
  have := List.all_eq_true.1 h _ (DataW.weights_mem_each ht hd ((elems.length + sp.length) * P.bytesOf e) (by simp [DataW.weights, DataW.weightsEach, hu, hl]))
  simpa using this
end
end Go.Tide
