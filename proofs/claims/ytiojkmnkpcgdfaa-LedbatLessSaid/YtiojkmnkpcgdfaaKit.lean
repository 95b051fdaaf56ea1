/- The small words that all walks of this seat use: worlds that grew by new blocks (World.more), what they keep, and closing lemmas for results. Conditions: none. -/
import Derived.WalkKit
import Derived.Below
import Derived.Outline
import Derived.Lib.Hide
import Derived.Deep.QuietTactic
import Derived.BigQuiet
import Derived.WalkSmall
namespace Go.Tide
open Go.RowKit

theorem ret_bool {a b : Bool} (h : a = b) : Ending.returned (.bool a) = .returned (.bool b) := by rw [h]
theorem ret_bool_iff {a b : Bool} (h : a = true ↔ b = true) : Ending.returned (.bool a) = .returned (.bool b) := by rw [Bool.eq_iff_iff.2 h]
theorem ret_int {k : IntKind} {a b : Int} (h : a = b) : Ending.returned (.int k a) = .returned (.int k b) := by rw [h]

end Go.Tide
namespace Go
open Go.RowKit

/-- The world w with further blocks os behind its own, and n more draws. -/
def World.more (w : World) (os : Array Obj) (n : Nat) : World := { w with heap := w.heap ++ os, drawn := w.drawn + n }

section
variable (w : World) (os : Array Obj) (n : Nat)
@[simp, go_sem] theorem World.size_more : (w.more os n).heap.size = w.heap.size + os.size := by simp [World.more]
@[simp, go_sem] theorem World.tape_more : (w.more os n).tape = w.tape := rfl
theorem World.heap_more {k : Nat} (h : k < w.heap.size) : (w.more os n).heap[k]? = w.heap[k]? := by
  simp only [World.more]
  rw [Array.getElem?_append_left h]
@[go_sem] theorem World.cell?_more (b i : Nat) (h : b < w.heap.size) : (w.more os n).cell? ⟨b, i, none⟩ = w.cell? ⟨b, i, none⟩ :=
  World.cell?_of_block (w := w) (w.heap_more os n h)
@[go_sem] theorem World.frozen?_more (b i : Nat) (h : b < w.heap.size) : (w.more os n).frozen? ⟨b, i, none⟩ = w.frozen? ⟨b, i, none⟩ :=
  World.frozen?_of_block (w := w) (w.heap_more os n h)
@[go_sem] theorem World.setCell_more (b i : Nat) (v : Value) (h : b < w.heap.size) : (w.more os n).setCell ⟨b, i, none⟩ v = (w.setCell ⟨b, i, none⟩ v).more os n := by
  unfold World.setCell World.more
  congr 1
  apply Array.ext_getElem?
  intro k
  simp only [Array.getElem?_modify, Array.getElem?_append, Array.size_modify]
  by_cases hk : k < w.heap.size
  · simp [hk]
  · simp [hk]
    omega
theorem below_more (B : Nat) (hB : B ≤ w.heap.size) : Below B w (w.more os n) :=
  ⟨rfl, rfl, rfl, by simp, fun _ hk => w.heap_more os n (by omega)⟩
end

attribute [go_sem] Nat.add_assoc Nat.add_pos_iff_pos_or_pos
@[go_sem] theorem lt_add_lit (a b c : Nat) (h : a < b) : (a < b + c) = True := by simp; omega

/-- What a call that writes nothing that was there leaves: the world, with new blocks behind it, and some draws. -/
def More (w w' : World) : Prop := ∃ os n, w' = w.more os n

theorem More.refl (w : World) : More w w := ⟨#[], 0, by simp [World.more]⟩
theorem More.alloc {w w' : World} (h : More w w') (o : Obj) : More w (w'.alloc o) := by
  obtain ⟨os, n, rfl⟩ := h
  exact ⟨os.push o, n, by simp [World.more, World.alloc]⟩
theorem More.more {w w' : World} (h : More w w') (os : Array Obj) (n : Nat) : More w (w'.more os n) := by
  obtain ⟨os', n', rfl⟩ := h
  exact ⟨os' ++ os, n' + n, by simp [World.more, Nat.add_assoc]⟩
theorem More.drew {w w' : World} (h : More w w') : More w w'.drew := by
  obtain ⟨os, n, rfl⟩ := h
  exact ⟨os, n + 1, rfl⟩
theorem More.drewN {w w' : World} (h : More w w') (m : Nat) : More w (w'.drewN m) := by
  obtain ⟨os, n, rfl⟩ := h
  exact ⟨os, n + m, by simp [World.more, World.drewN, Nat.add_assoc]⟩
theorem More.trans {a b c : World} (h : More a b) (k : More b c) : More a c := by
  obtain ⟨os, n, rfl⟩ := k
  exact h.more os n
theorem More.below {w w' : World} (h : More w w') : Below w.heap.size w w' := by
  obtain ⟨os, n, rfl⟩ := h
  exact below_more w os n _ (Nat.le_refl _)
end Go
