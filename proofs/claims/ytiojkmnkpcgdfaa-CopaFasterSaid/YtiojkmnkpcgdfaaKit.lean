/- The small words that all walks of this seat use: worlds that grew by new blocks (World.more), what they keep, and closing lemmas for results. Conditions: none. -/
import Derived.WalkKit
import Derived.Below
import Derived.Outline
import Derived.Lib.Hide
import Derived.Deep.QuietTactic
import Derived.BigQuiet
import Derived.WalkSmall
import Derived.Handy
import Derived.Laws.OwnMore
import Derived.Laws.Rows
namespace Go.Tide
open Go.RowKit

theorem ret_bool {a b : Bool} (h : a = b) : Ending.returned (.bool a) = .returned (.bool b) := by rw [h]
theorem ret_bool_iff {a b : Bool} (h : a = true ↔ b = true) : Ending.returned (.bool a) = .returned (.bool b) := by rw [Bool.eq_iff_iff.2 h]
theorem ret_int {k : IntKind} {a b : Int} (h : a = b) : Ending.returned (.int k a) = .returned (.int k b) := by rw [h]

end Go.Tide
namespace Go
open Go.RowKit

/-- The world w with further blocks os behind its own, and n more draws. -/
def World.more (w : World) (os : Array Obj) (n : Nat) : World := { w with heap := w.heap ++ os, drawn := w.drawn + n }

section
variable (w : World) (os : Array Obj) (n : Nat)
@[simp, go_sem] theorem World.size_more : (w.more os n).heap.size = w.heap.size + os.size := by simp [World.more]
@[simp, go_sem] theorem World.tape_more : (w.more os n).tape = w.tape := rfl
theorem World.heap_more {k : Nat} (h : k < w.heap.size) : (w.more os n).heap[k]? = w.heap[k]? := by
  simp only [World.more]
  rw [Array.getElem?_append_left h]
@[go_sem] theorem World.cell?_more (b i : Nat) (h : b < w.heap.size) : (w.more os n).cell? ⟨b, i, none⟩ = w.cell? ⟨b, i, none⟩ :=
  World.cell?_of_block (w := w) (w.heap_more os n h)
@[go_sem] theorem World.frozen?_more (b i : Nat) (h : b < w.heap.size) : (w.more os n).frozen? ⟨b, i, none⟩ = w.frozen? ⟨b, i, none⟩ :=
  World.frozen?_of_block (w := w) (w.heap_more os n h)
@[go_sem] theorem World.setCell_more (b i : Nat) (v : Value) (h : b < w.heap.size) : (w.more os n).setCell ⟨b, i, none⟩ v = (w.setCell ⟨b, i, none⟩ v).more os n := by
  unfold World.setCell World.more
  congr 1
  apply Array.ext_getElem?
  intro k
  simp only [Array.getElem?_modify, Array.getElem?_append, Array.size_modify]
  by_cases hk : k < w.heap.size
  · simp [hk]
  · simp [hk]
    omega
theorem below_more (B : Nat) (hB : B ≤ w.heap.size) : Below B w (w.more os n) :=
  ⟨rfl, rfl, rfl, by simp, fun _ hk => w.heap_more os n (by omega)⟩
end

@[go_sem] theorem World.alloc_drewN (w : World) (n : Nat) (o : Obj) : (w.drewN n).alloc o = (w.alloc o).drewN n := rfl
@[go_sem] theorem World.setCell_drewN (w : World) (n : Nat) (a : Addr) (v : Value) : (w.drewN n).setCell a v = (w.setCell a v).drewN n := rfl
@[go_sem] theorem World.more_drewN (w : World) (n m : Nat) (os : Array Obj) : (w.drewN n).more os m = (w.more os m).drewN n := by
  simp [World.more, World.drewN, Nat.add_right_comm]
attribute [go_sem] Nat.add_assoc Nat.add_pos_iff_pos_or_pos
@[go_sem] theorem lt_add_lit (a b c : Nat) (h : a < b) : (a < b + c) = True := by simp; omega

/-- What a call that writes nothing that was there leaves: the world, with new blocks behind it, and some draws. -/
def More (w w' : World) : Prop := ∃ os n, w' = w.more os n

theorem More.refl (w : World) : More w w := ⟨#[], 0, by simp [World.more]⟩
theorem More.alloc {w w' : World} (h : More w w') (o : Obj) : More w (w'.alloc o) := by
  obtain ⟨os, n, rfl⟩ := h
  exact ⟨os.push o, n, by simp [World.more, World.alloc]⟩
theorem More.more {w w' : World} (h : More w w') (os : Array Obj) (n : Nat) : More w (w'.more os n) := by
  obtain ⟨os', n', rfl⟩ := h
  exact ⟨os' ++ os, n' + n, by simp [World.more, Nat.add_assoc]⟩
theorem More.drew {w w' : World} (h : More w w') : More w w'.drew := by
  obtain ⟨os, n, rfl⟩ := h
  exact ⟨os, n + 1, rfl⟩
theorem More.drewN {w w' : World} (h : More w w') (m : Nat) : More w (w'.drewN m) := by
  obtain ⟨os, n, rfl⟩ := h
  exact ⟨os, n + m, by simp [World.more, World.drewN, Nat.add_assoc]⟩
theorem More.trans {a b c : World} (h : More a b) (k : More b c) : More a c := by
  obtain ⟨os, n, rfl⟩ := k
  exact h.more os n
/-- A block that is known whole: block g is just the cells cs of type t, none of them frozen. -/
def Blk (w : World) (g : Nat) (t : TypeId) (cs : Array Value) : Prop := w.heap[g]? = some (.cells cs t (0, 0))
section
variable {w w' : World} {g : Nat} {t : TypeId} {cs : Array Value}
theorem Blk.lt (h : Blk w g t cs) : g < w.heap.size := by
  rcases Nat.lt_or_ge g w.heap.size with hlt | hge
  · exact hlt
  · unfold Blk at h; rw [Array.getElem?_eq_none hge] at h; cases h
theorem Blk.cell (h : Blk w g t cs) (i : Nat) : w.cell? ⟨g, i, none⟩ = cs[i]? := cell_of_row w g i cs t (0, 0) h
theorem Blk.frozen (h : Blk w g t cs) (i : Nat) : w.frozen? ⟨g, i, none⟩ = false := by
  unfold Blk at h
  simp [World.frozen?, h]
theorem Blk.new (w : World) (t : TypeId) (cs : Array Value) : Blk (w.alloc (.cells cs t)) w.heap.size t cs := heap_alloc_new w _
theorem Blk.new' {w : World} {t : TypeId} {cs : Array Value} {g : Nat} (h : g = w.heap.size) : Blk (w.alloc (.cells cs t)) g t cs := by subst h; exact Blk.new w t cs
theorem Blk.drew (h : Blk w g t cs) : Blk w.drew g t cs := h
theorem Blk.drewN (h : Blk w g t cs) (n : Nat) : Blk (w.drewN n) g t cs := h
theorem Blk.alloc (h : Blk w g t cs) (o : Obj) : Blk (w.alloc o) g t cs := (Below.heap_alloc w o g h.lt).trans h
theorem Blk.more (h : Blk w g t cs) (os : Array Obj) (n : Nat) : Blk (w.more os n) g t cs := (w.heap_more os n h.lt).trans h
theorem Blk.put (h : Blk w g t cs) (i : Nat) (u : Value) : Blk (w.setCell ⟨g, i, none⟩ u) g t (cs.setIfInBounds i u) := by
  unfold Blk at h ⊢
  simp [World.setCell, Array.getElem?_modify, h]
theorem Blk.far (h : Blk w g t cs) {p : Addr} (hp : g ≠ p.block) (u : Value) : Blk (w.setCell p u) g t cs := (Below.heap_setCell w p u g hp).trans h
theorem Blk.below {B : Nat} (h : Blk w g t cs) (hb : Below B w w') (hg : g < B) : Blk w' g t cs := (hb.block g hg).trans h
theorem Blk.grown {row : Option Nat} (h : Blk w g t cs) (hb : w.grownBy w' row) (hg : some g ≠ row) : Blk w' g t cs := (hb.block g h.lt hg).trans h
end

theorem RowKit.Below.more {B : Nat} {a w : World} (h : Below B a w) (hB : B ≤ w.heap.size) (os : Array Obj) (n : Nat) : Below B a (w.more os n) := h.trans (below_more w os n B hB)
theorem RowKit.Below.drewN {B : Nat} {a w : World} (h : Below B a w) (n : Nat) : Below B a (w.drewN n) := h.trans ⟨rfl, rfl, rfl, Nat.le_refl _, fun _ _ => rfl⟩
theorem More.below {w w' : World} (h : More w w') : Below w.heap.size w w' := by
  obtain ⟨os, n, rfl⟩ := h
  exact below_more w os n _ (Nat.le_refl _)
end Go
