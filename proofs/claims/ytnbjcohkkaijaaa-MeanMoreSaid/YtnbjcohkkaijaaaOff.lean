/- What a piece of code leaves as it was, told by blocks. Conditions: none. -/
import Derived.Test.YtnbjcohkkaijaaaKitC
set_option linter.unusedVariables false
set_option linter.unusedSimpArgs false
namespace Go
open Go.RowKit
/-- Nothing but what X tells has turned; and what is new. -/
structure Off (X : Nat → Prop) (w w' : World) : Prop where
  os : w'.os = w.os
  tape : w'.tape = w.tape
  output : w'.output = w.output
  size : w.heap.size ≤ w'.heap.size
  block : ∀ g, g < w.heap.size → ¬ X g → w'.heap[g]? = w.heap[g]?
section
variable {X : Nat → Prop} {w w' w'' : World}
theorem Off.refl (X : Nat → Prop) (w : World) : Off X w w := ⟨rfl, rfl, rfl, Nat.le_refl _, fun _ _ _ => rfl⟩
theorem Off.trans (h : Off X w w') (k : Off X w' w'') : Off X w w'' := ⟨k.os.trans h.os, k.tape.trans h.tape, k.output.trans h.output, Nat.le_trans h.size k.size, fun g hg hx => (k.block g (by have := h.size; omega) hx).trans (h.block g hg hx)⟩
theorem Off.mono {Y : Nat → Prop} (h : Off X w w') (hxy : ∀ g, g < w.heap.size → X g → Y g) : Off Y w w' := ⟨h.os, h.tape, h.output, h.size, fun g hg hy => h.block g hg fun hx => hy (hxy g hg hx)⟩
theorem Off.of_grown {row : Option Nat} (h : w.grownBy w' row) (hr : ∀ g, row = some g → g < w.heap.size → X g) : Off X w w' := ⟨h.os, h.tape, h.output, h.size, fun g hg hx => h.block g hg fun e => hx (hr g e.symm hg)⟩
theorem Off.alloc (h : Off X w w') (o : Obj) : Off X w (w'.alloc o) := ⟨h.os, h.tape, h.output, by simp; have := h.size; omega, fun g hg hx => (Below.heap_alloc w' o g (by have := h.size; omega)).trans (h.block g hg hx)⟩
theorem Off.more (h : Off X w w') (os : Array Obj) (d : Nat) : Off X w (w'.more os d) := ⟨h.os, h.tape, h.output, by simp; have := h.size; omega, fun g hg hx => (World.heap_more w' os d (by have := h.size; omega)).trans (h.block g hg hx)⟩
theorem Off.drew (h : Off X w w') : Off X w w'.drew := ⟨h.os, h.tape, h.output, h.size, h.block⟩
theorem Off.drewN (h : Off X w w') (n : Nat) : Off X w (w'.drewN n) := ⟨h.os, h.tape, h.output, h.size, h.block⟩
theorem Off.setCell (h : Off X w w') {p : Addr} (hp : p.block < w.heap.size → X p.block) (v : Value) : Off X w (w'.setCell p v) :=
  ⟨h.os, h.tape, h.output, by simp [World.setCell]; exact h.size, fun g hg hx => (Below.heap_setCell w' p v g (fun e => hx (e ▸ hp (e ▸ hg)))).trans (h.block g hg hx)⟩
theorem Off.of_below (h : Below w.heap.size w w') : Off X w w' := ⟨h.os, h.tape, h.output, h.size, fun g hg _ => h.block g hg⟩
theorem Off.below {B : Nat} (h : Off X w w') (hx : ∀ g, X g → B ≤ g) (hB : B ≤ w.heap.size) : Below B w w' := ⟨h.os, h.tape, h.output, h.size, fun g hg => h.block g (by omega) fun k => by have := hx g k; omega⟩
theorem Blk.off {g : Nat} {t : TypeId} {cs : Array Value} (h : Blk w g t cs) (k : Off X w w') (hx : ¬ X g) : Blk w' g t cs := (k.block g h.lt hx).trans h
theorem own_lt {base size n : Nat} {e : TypeId} {v : Value} {xs : List Value} (h : w.ownsRow base e size v n xs) {g : Nat} (hg : v.ownBlock = some g) : base ≤ g ∧ g < w.heap.size := by
  rcases h.2 with ⟨rfl, _⟩ | ⟨g', cap, cur, rfl, hb, hc, _⟩
  · cases hg
  · simp [Value.ownBlock] at hg
    subst hg
    exact ⟨hb, (Array.getElem?_eq_some_iff.1 hc).1⟩
theorem own_base_le {base base' size n : Nat} {e : TypeId} {v : Value} {xs : List Value} (h : w.ownsRow base e size v n xs) (hb : base' ≤ base) : w.ownsRow base' e size v n xs := by
  refine ⟨h.1, ?_⟩
  rcases h.2 with h1 | ⟨g, cap, cur, e1, e2, e3⟩
  · exact .inl h1
  · exact .inr ⟨g, cap, cur, e1, Nat.le_trans hb e2, e3⟩
theorem own_more {base size n : Nat} {e : TypeId} {v : Value} {xs : List Value} (h : w.ownsRow base e size v n xs) (os : Array Obj) (d : Nat) : (w.more os d).ownsRow base e size v n xs :=
  h.kept (⟨rfl, rfl, rfl, by simp, fun k hk _ => World.heap_more w os d hk⟩ : w.grownBy (w.more os d) none) (by cases hv : v.ownBlock <;> simp)
theorem off_then {Y : Nat → Prop} (h : Off X w w') (k : Off Y w' w'') (hy : ∀ g, g < w.heap.size → Y g → X g) : Off X w w'' :=
  ⟨k.os.trans h.os, k.tape.trans h.tape, k.output.trans h.output, Nat.le_trans h.size k.size, fun g hg hx => (k.block g (Nat.lt_of_lt_of_le hg h.size) fun y => hx (hy g hg y)).trans (h.block g hg hx)⟩
end
end Go
