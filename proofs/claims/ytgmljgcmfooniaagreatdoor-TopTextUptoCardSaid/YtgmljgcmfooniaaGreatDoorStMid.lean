/- The space of states in memory: three rows, a map, and what leads to them; and how that keeps. Conditions: none. -/
import Derived.Test.YtgmljgcmfooniaaGreatDoorStMap
import Derived.Test.YtgmljgcmfooniaaGreatDoorDuelP
import Derived.Test.YtgmljgcmfooniaaGreatDoorKitC
set_option linter.unusedVariables false
set_option linter.unusedSimpArgs false
namespace Go
open Go.RowKit
/-- Nothing but what X tells has turned; and what is new. -/
structure Off (X : Nat → Prop) (w w' : World) : Prop where
  os : w'.os = w.os
  tape : w'.tape = w.tape
  output : w'.output = w.output
  size : w.heap.size ≤ w'.heap.size
  block : ∀ g, g < w.heap.size → ¬ X g → w'.heap[g]? = w.heap[g]?
section
variable {X : Nat → Prop} {w w' w'' : World}
theorem Off.refl (X : Nat → Prop) (w : World) : Off X w w := ⟨rfl, rfl, rfl, Nat.le_refl _, fun _ _ _ => rfl⟩
theorem Off.trans (h : Off X w w') (k : Off X w' w'') : Off X w w'' := ⟨k.os.trans h.os, k.tape.trans h.tape, k.output.trans h.output, Nat.le_trans h.size k.size, fun g hg hx => (k.block g (by have := h.size; omega) hx).trans (h.block g hg hx)⟩
theorem Off.mono {Y : Nat → Prop} (h : Off X w w') (hxy : ∀ g, g < w.heap.size → X g → Y g) : Off Y w w' := ⟨h.os, h.tape, h.output, h.size, fun g hg hy => h.block g hg fun hx => hy (hxy g hg hx)⟩
theorem Off.of_grown {row : Option Nat} (h : w.grownBy w' row) (hr : ∀ g, row = some g → g < w.heap.size → X g) : Off X w w' := ⟨h.os, h.tape, h.output, h.size, fun g hg hx => h.block g hg fun e => hx (hr g e.symm hg)⟩
theorem Off.alloc (h : Off X w w') (o : Obj) : Off X w (w'.alloc o) := ⟨h.os, h.tape, h.output, by simp; have := h.size; omega, fun g hg hx => (Below.heap_alloc w' o g (by have := h.size; omega)).trans (h.block g hg hx)⟩
theorem Off.more (h : Off X w w') (os : Array Obj) (d : Nat) : Off X w (w'.more os d) := ⟨h.os, h.tape, h.output, by simp; have := h.size; omega, fun g hg hx => (World.heap_more w' os d (by have := h.size; omega)).trans (h.block g hg hx)⟩
theorem Off.drew (h : Off X w w') : Off X w w'.drew := ⟨h.os, h.tape, h.output, h.size, h.block⟩
theorem Off.drewN (h : Off X w w') (n : Nat) : Off X w (w'.drewN n) := ⟨h.os, h.tape, h.output, h.size, h.block⟩
theorem Off.setCell (h : Off X w w') {p : Addr} (hp : p.block < w.heap.size → X p.block) (v : Value) : Off X w (w'.setCell p v) :=
  ⟨h.os, h.tape, h.output, by simp [World.setCell]; exact h.size, fun g hg hx => (Below.heap_setCell w' p v g (fun e => hx (e ▸ hp (e ▸ hg)))).trans (h.block g hg hx)⟩
theorem Off.of_below (h : Below w.heap.size w w') : Off X w w' := ⟨h.os, h.tape, h.output, h.size, fun g hg _ => h.block g hg⟩
theorem Off.below {B : Nat} (h : Off X w w') (hx : ∀ g, X g → B ≤ g) (hB : B ≤ w.heap.size) : Below B w w' := ⟨h.os, h.tape, h.output, h.size, fun g hg => h.block g (by omega) fun k => by have := hx g k; omega⟩
theorem Blk.off {g : Nat} {t : TypeId} {cs : Array Value} (h : Blk w g t cs) (k : Off X w w') (hx : ¬ X g) : Blk w' g t cs := (k.block g h.lt hx).trans h
theorem own_lt {base size n : Nat} {e : TypeId} {v : Value} {xs : List Value} (h : w.ownsRow base e size v n xs) {g : Nat} (hg : v.ownBlock = some g) : base ≤ g ∧ g < w.heap.size := by
  rcases h.2 with ⟨rfl, _⟩ | ⟨g', cap, cur, rfl, hb, hc, _⟩
  · cases hg
  · simp [Value.ownBlock] at hg
    subst hg
    exact ⟨hb, (Array.getElem?_eq_some_iff.1 hc).1⟩
/-- Two slices' blocks are two. -/
def apartV (v u : Value) : Prop := ∀ g, v.ownBlock = some g → u.ownBlock ≠ some g
theorem apartV.symm {v u : Value} (h : apartV v u) : apartV u v := fun g hu hv => h g hv hu
theorem apartV.row {v u : Value} (h : apartV v u) : v.ownBlock = none ∨ v.ownBlock ≠ u.ownBlock := by
  cases e : v.ownBlock with
  | none => exact .inl rfl
  | some g => exact .inr fun k => h g e k.symm
/-- Behind an append v lies where it lay, or is new: apart it was, apart it is. -/
theorem apartV.app {v u : Value} {gg n cap H : Nat} (h : apartV v u) (hat : v.ownBlock = some gg ∨ gg = H) (hu : ∀ g, u.ownBlock = some g → g < H) : apartV (.slice (some ⟨gg, 0, none⟩) n cap) u := fun g hg hk => by
  simp [Value.ownBlock] at hg
  subst hg
  rcases hat with hat | rfl
  · exact h _ hat hk
  · exact absurd (hu _ hk) (Nat.lt_irrefl _)
theorem notOwn.app {v : Value} {gg n cap H b : Nat} (h : v.ownBlock ≠ some b) (hat : v.ownBlock = some gg ∨ gg = H) (hb : b < H) : (Value.slice (some ⟨gg, 0, none⟩) n cap).ownBlock ≠ some b := fun e => by
  simp [Value.ownBlock] at e
  subst e
  rcases hat with hat | rfl
  · exact h hat
  · exact absurd hb (Nat.lt_irrefl _)
end
end Go
namespace Go.Proofs.YtgmljgcmfooniaaGreatDoor
open Go.RowKit Go.Tide
set_option linter.unusedVariables false
set_option linter.unusedSimpArgs false
/-- While the rows grow: what leads to them holds u1, u2, u3 as ever; the rows are v1, v2, v3. X: what may turn of w0. -/
structure Mid (X : Nat → Prop) (w0 : World) (B : Nat) (w : World) (S M : Nat) (u1 u2 u3 v1 v2 v3 : Value) (l : List DSt) (n1 n2 n3 : Nat) (x1 x2 x3 : List Value) : Prop where
  blk : Blk w S 121 #[.map (some M), u1, u2, u3]
  map : SMap w M l
  r1 : w.ownsRow B 44 14 v1 n1 x1
  r2 : w.ownsRow B 3 1 v2 n2 x2
  r3 : w.ownsRow B 30 2 v3 n3 x3
  a12 : apartV v1 v2
  a13 : apartV v1 v3
  a23 : apartV v2 v3
  s1 : v1.ownBlock ≠ some S ∧ v2.ownBlock ≠ some S ∧ v3.ownBlock ≠ some S
  m1 : v1.ownBlock ≠ some M ∧ v2.ownBlock ≠ some M ∧ v3.ownBlock ≠ some M
  sm : S ≠ M
  sB : B ≤ S ∧ B ≤ M ∧ B ≤ w.heap.size
  off : Off X w0 w
  xs : X S ∧ X M
  x1 : ∀ g, v1.ownBlock = some g → X g ∨ w0.heap.size ≤ g
  x2 : ∀ g, v2.ownBlock = some g → X g ∨ w0.heap.size ≤ g
  x3 : ∀ g, v3.ownBlock = some g → X g ∨ w0.heap.size ≤ g
/-- A block beside them. -/
structure Side (w : World) (b : Nat) (t : TypeId) (cs : Array Value) (v1 v2 v3 : Value) : Prop where
  blk : Blk w b t cs
  ne : v1.ownBlock ≠ some b ∧ v2.ownBlock ≠ some b ∧ v3.ownBlock ≠ some b
section
variable {X : Nat → Prop} {w0 w w1 : World} {B S M : Nat} {u1 u2 u3 v1 v2 v3 : Value} {l : List DSt} {n1 n2 n3 : Nat} {x1 x2 x3 y1 y2 y3 : List Value} {gg cap b : Nat} {t : TypeId} {cs : Array Value}
theorem Mid.alloc (h : Mid X w0 B w S M u1 u2 u3 v1 v2 v3 l n1 n2 n3 x1 x2 x3) (o : Obj) : Mid X w0 B (w.alloc o) S M u1 u2 u3 v1 v2 v3 l n1 n2 n3 x1 x2 x3 :=
  ⟨h.blk.alloc o, h.map.alloc o, h.r1.alloc o, h.r2.alloc o, h.r3.alloc o, h.a12, h.a13, h.a23, h.s1, h.m1, h.sm, ⟨h.sB.1, h.sB.2.1, by simp; have := h.sB.2.2; omega⟩, h.off.alloc o, h.xs, h.x1, h.x2, h.x3⟩
theorem Side.alloc (h : Side w b t cs v1 v2 v3) (o : Obj) : Side (w.alloc o) b t cs v1 v2 v3 := ⟨h.blk.alloc o, h.ne⟩
theorem Mid.drew (h : Mid X w0 B w S M u1 u2 u3 v1 v2 v3 l n1 n2 n3 x1 x2 x3) : Mid X w0 B w.drew S M u1 u2 u3 v1 v2 v3 l n1 n2 n3 x1 x2 x3 :=
  ⟨h.blk, h.map, h.r1, h.r2, h.r3, h.a12, h.a13, h.a23, h.s1, h.m1, h.sm, h.sB, h.off.drew, h.xs, h.x1, h.x2, h.x3⟩
/-- A new block beside them. -/
theorem Mid.side (h : Mid X w0 B w S M u1 u2 u3 v1 v2 v3 l n1 n2 n3 x1 x2 x3) (t : TypeId) (cs : Array Value) : Side (w.alloc (.cells cs t)) w.heap.size t cs v1 v2 v3 :=
  ⟨Blk.new w t cs, fun e => absurd (own_lt h.r1 e).2 (Nat.lt_irrefl _), fun e => absurd (own_lt h.r2 e).2 (Nat.lt_irrefl _), fun e => absurd (own_lt h.r3 e).2 (Nat.lt_irrefl _)⟩
theorem Mid.app1 (h : Mid X w0 B w S M u1 u2 u3 v1 v2 v3 l n1 n2 n3 x1 x2 x3) (hown : w1.ownsRow B 44 14 (.slice (some ⟨gg, 0, none⟩) (n1 + 1) cap) (n1 + 1) y1) (hg : w.grownBy w1 v1.ownBlock) (hat : v1.ownBlock = some gg ∨ gg = w.heap.size) :
    Mid X w0 B w1 S M u1 u2 u3 (.slice (some ⟨gg, 0, none⟩) (n1 + 1) cap) v2 v3 l (n1 + 1) n2 n3 y1 x2 x3 :=
  ⟨h.blk.grown hg (fun e => h.s1.1 e.symm), h.map.kept hg (fun e => h.m1.1 e.symm), hown, (h.r2.kept hg h.a12.symm.row), (h.r3.kept hg h.a13.symm.row), (h.a12.app hat fun g e => (own_lt h.r2 e).2), (h.a13.app hat fun g e => (own_lt h.r3 e).2), h.a23, ⟨notOwn.app h.s1.1 hat h.blk.lt, h.s1.2.1, h.s1.2.2⟩, ⟨notOwn.app h.m1.1 hat h.map.lt, h.m1.2.1, h.m1.2.2⟩, h.sm, ⟨h.sB.1, h.sB.2.1, by have := hg.size; have := h.sB.2.2; omega⟩,
    ⟨hg.os.trans h.off.os, hg.tape.trans h.off.tape, hg.output.trans h.off.output, Nat.le_trans h.off.size hg.size, fun g hlt hx => (hg.block g (by have := h.off.size; omega) (fun e => (h.x1 g e.symm).elim hx (fun k => by omega))).trans (h.off.block g hlt hx)⟩, h.xs, (fun g e => by have e2 : gg = g := Option.some.inj e; subst e2; exact hat.elim (h.x1 _) (fun k => .inr (by rw [k]; exact h.off.size))), h.x2, h.x3⟩
theorem Side.app1 (h : Side w b t cs v1 v2 v3) (hg : w.grownBy w1 v1.ownBlock) (hat : v1.ownBlock = some gg ∨ gg = w.heap.size) (n cap : Nat) : Side w1 b t cs (.slice (some ⟨gg, 0, none⟩) n cap) v2 v3 :=
  ⟨h.blk.grown hg (fun e => h.ne.1 e.symm), ⟨notOwn.app h.ne.1 hat h.blk.lt, h.ne.2.1, h.ne.2.2⟩⟩
theorem Mid.app2 (h : Mid X w0 B w S M u1 u2 u3 v1 v2 v3 l n1 n2 n3 x1 x2 x3) (hown : w1.ownsRow B 3 1 (.slice (some ⟨gg, 0, none⟩) (n2 + 1) cap) (n2 + 1) y2) (hg : w.grownBy w1 v2.ownBlock) (hat : v2.ownBlock = some gg ∨ gg = w.heap.size) :
    Mid X w0 B w1 S M u1 u2 u3 v1 (.slice (some ⟨gg, 0, none⟩) (n2 + 1) cap) v3 l n1 (n2 + 1) n3 x1 y2 x3 :=
  ⟨h.blk.grown hg (fun e => h.s1.2.1 e.symm), h.map.kept hg (fun e => h.m1.2.1 e.symm), (h.r1.kept hg h.a12.row), hown, (h.r3.kept hg h.a23.symm.row), ((h.a12.symm.app hat fun g e => (own_lt h.r1 e).2).symm), h.a13, (h.a23.app hat fun g e => (own_lt h.r3 e).2), ⟨h.s1.1, notOwn.app h.s1.2.1 hat h.blk.lt, h.s1.2.2⟩, ⟨h.m1.1, notOwn.app h.m1.2.1 hat h.map.lt, h.m1.2.2⟩, h.sm, ⟨h.sB.1, h.sB.2.1, by have := hg.size; have := h.sB.2.2; omega⟩,
    ⟨hg.os.trans h.off.os, hg.tape.trans h.off.tape, hg.output.trans h.off.output, Nat.le_trans h.off.size hg.size, fun g hlt hx => (hg.block g (by have := h.off.size; omega) (fun e => (h.x2 g e.symm).elim hx (fun k => by omega))).trans (h.off.block g hlt hx)⟩, h.xs, h.x1, (fun g e => by have e2 : gg = g := Option.some.inj e; subst e2; exact hat.elim (h.x2 _) (fun k => .inr (by rw [k]; exact h.off.size))), h.x3⟩
theorem Side.app2 (h : Side w b t cs v1 v2 v3) (hg : w.grownBy w1 v2.ownBlock) (hat : v2.ownBlock = some gg ∨ gg = w.heap.size) (n cap : Nat) : Side w1 b t cs v1 (.slice (some ⟨gg, 0, none⟩) n cap) v3 :=
  ⟨h.blk.grown hg (fun e => h.ne.2.1 e.symm), ⟨h.ne.1, notOwn.app h.ne.2.1 hat h.blk.lt, h.ne.2.2⟩⟩
theorem Mid.app3 (h : Mid X w0 B w S M u1 u2 u3 v1 v2 v3 l n1 n2 n3 x1 x2 x3) (hown : w1.ownsRow B 30 2 (.slice (some ⟨gg, 0, none⟩) (n3 + 1) cap) (n3 + 1) y3) (hg : w.grownBy w1 v3.ownBlock) (hat : v3.ownBlock = some gg ∨ gg = w.heap.size) :
    Mid X w0 B w1 S M u1 u2 u3 v1 v2 (.slice (some ⟨gg, 0, none⟩) (n3 + 1) cap) l n1 n2 (n3 + 1) x1 x2 y3 :=
  ⟨h.blk.grown hg (fun e => h.s1.2.2 e.symm), h.map.kept hg (fun e => h.m1.2.2 e.symm), (h.r1.kept hg h.a13.row), (h.r2.kept hg h.a23.row), hown, h.a12, ((h.a13.symm.app hat fun g e => (own_lt h.r1 e).2).symm), ((h.a23.symm.app hat fun g e => (own_lt h.r2 e).2).symm), ⟨h.s1.1, h.s1.2.1, notOwn.app h.s1.2.2 hat h.blk.lt⟩, ⟨h.m1.1, h.m1.2.1, notOwn.app h.m1.2.2 hat h.map.lt⟩, h.sm, ⟨h.sB.1, h.sB.2.1, by have := hg.size; have := h.sB.2.2; omega⟩,
    ⟨hg.os.trans h.off.os, hg.tape.trans h.off.tape, hg.output.trans h.off.output, Nat.le_trans h.off.size hg.size, fun g hlt hx => (hg.block g (by have := h.off.size; omega) (fun e => (h.x3 g e.symm).elim hx (fun k => by omega))).trans (h.off.block g hlt hx)⟩, h.xs, h.x1, h.x2, (fun g e => by have e2 : gg = g := Option.some.inj e; subst e2; exact hat.elim (h.x3 _) (fun k => .inr (by rw [k]; exact h.off.size)))⟩
theorem Side.app3 (h : Side w b t cs v1 v2 v3) (hg : w.grownBy w1 v3.ownBlock) (hat : v3.ownBlock = some gg ∨ gg = w.heap.size) (n cap : Nat) : Side w1 b t cs v1 v2 (.slice (some ⟨gg, 0, none⟩) n cap) :=
  ⟨h.blk.grown hg (fun e => h.ne.2.2 e.symm), ⟨h.ne.1, h.ne.2.1, notOwn.app h.ne.2.2 hat h.blk.lt⟩⟩
end
end Go.Proofs.YtgmljgcmfooniaaGreatDoor
