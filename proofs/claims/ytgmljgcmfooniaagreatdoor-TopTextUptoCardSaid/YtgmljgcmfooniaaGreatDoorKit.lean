/- The small words that all walks of this seat use: worlds that grew by new blocks (World.more), what they keep, and closing lemmas for results. Conditions: none. -/
import Derived.WalkKit
import Derived.Below
import Derived.Outline
import Derived.Lib.Hide
import Derived.Deep.QuietTactic
import Derived.BigQuiet
import Derived.WalkSmall
import Derived.Handy
import Derived.Laws.OwnMore
import Derived.Deep.AppendLies
import Derived.Laws.Rows
set_option linter.unusedVariables false
set_option linter.unusedSimpArgs false
namespace Go.Tide
open Go.RowKit

theorem ret_bool {a b : Bool} (h : a = b) : Ending.returned (.bool a) = .returned (.bool b) := by rw [h]
theorem ret_bool_iff {a b : Bool} (h : a = true ↔ b = true) : Ending.returned (.bool a) = .returned (.bool b) := by rw [Bool.eq_iff_iff.2 h]
theorem ret_int {k : IntKind} {a b : Int} (h : a = b) : Ending.returned (.int k a) = .returned (.int k b) := by rw [h]

end Go.Tide
namespace Go
open Go.RowKit

/-- The world w with further blocks os behind its own; n answers have been drawn in all. -/
def World.more (w : World) (os : Array Obj) (n : Nat) : World := { w with heap := w.heap ++ os, drawn := n }

section
variable (w : World) (os : Array Obj) (n : Nat)
@[simp, go_sem] theorem World.size_more : (w.more os n).heap.size = w.heap.size + os.size := by simp [World.more]
@[simp, go_sem] theorem World.tape_more : (w.more os n).tape = w.tape := rfl
theorem World.heap_more {k : Nat} (h : k < w.heap.size) : (w.more os n).heap[k]? = w.heap[k]? := by
  simp only [World.more]
  rw [Array.getElem?_append_left h]
@[go_sem] theorem World.cell?_more (b i : Nat) (h : b < w.heap.size) : (w.more os n).cell? ⟨b, i, none⟩ = w.cell? ⟨b, i, none⟩ :=
  World.cell?_of_block (w := w) (w.heap_more os n h)
@[go_sem] theorem World.frozen?_more (b i : Nat) (h : b < w.heap.size) : (w.more os n).frozen? ⟨b, i, none⟩ = w.frozen? ⟨b, i, none⟩ :=
  World.frozen?_of_block (w := w) (w.heap_more os n h)
@[go_sem] theorem World.setCell_more (b i : Nat) (v : Value) (h : b < w.heap.size) : (w.more os n).setCell ⟨b, i, none⟩ v = (w.setCell ⟨b, i, none⟩ v).more os n := by
  unfold World.setCell World.more
  congr 1
  apply Array.ext_getElem?
  intro k
  simp only [Array.getElem?_modify, Array.getElem?_append, Array.size_modify]
  by_cases hk : k < w.heap.size
  · simp [hk]
  · simp [hk]
    omega
theorem below_more (B : Nat) (hB : B ≤ w.heap.size) : Below B w (w.more os n) :=
  ⟨rfl, rfl, rfl, by simp, fun _ hk => w.heap_more os n (by omega)⟩
end

@[go_sem] theorem World.alloc_drewN (w : World) (n : Nat) (o : Obj) : (w.drewN n).alloc o = (w.alloc o).drewN n := rfl
@[go_sem] theorem World.setCell_drewN (w : World) (n : Nat) (a : Addr) (v : Value) : (w.drewN n).setCell a v = (w.setCell a v).drewN n := rfl
@[go_sem] theorem World.more_drewN (w : World) (n m : Nat) (os : Array Obj) : (w.drewN n).more os m = w.more os m := rfl
@[go_sem] theorem World.more_drew (w : World) (m : Nat) (os : Array Obj) : w.drew.more os m = w.more os m := rfl
@[go_sem] theorem World.drewN_more (w : World) (n m : Nat) (os : Array Obj) : (w.more os m).drewN n = w.more os (m + n) := rfl
@[go_sem] theorem World.drew_more (w : World) (m : Nat) (os : Array Obj) : (w.more os m).drew = w.more os (m + 1) := rfl
attribute [go_sem] Nat.add_assoc Nat.add_pos_iff_pos_or_pos
@[go_sem] theorem lt_add_lit (a b c : Nat) (h : a < b) : (a < b + c) = True := by simp; omega

/-- What a call that writes nothing that was there leaves: the world, with new blocks behind it, and some draws. -/
def More (w w' : World) : Prop := ∃ os n, w' = w.more os n

theorem More.refl (w : World) : More w w := ⟨#[], w.drawn, by simp [World.more]⟩
theorem More.alloc {w w' : World} (h : More w w') (o : Obj) : More w (w'.alloc o) := by
  obtain ⟨os, n, rfl⟩ := h
  exact ⟨os.push o, n, by simp [World.more, World.alloc]⟩
theorem More.more {w w' : World} (h : More w w') (os : Array Obj) (n : Nat) : More w (w'.more os n) := by
  obtain ⟨os', n', rfl⟩ := h
  exact ⟨os' ++ os, n, by simp [World.more]⟩
theorem More.drew {w w' : World} (h : More w w') : More w w'.drew := by
  obtain ⟨os, n, rfl⟩ := h
  exact ⟨os, n + 1, rfl⟩
theorem More.drewN {w w' : World} (h : More w w') (m : Nat) : More w (w'.drewN m) := by
  obtain ⟨os, n, rfl⟩ := h
  exact ⟨os, n + m, rfl⟩
theorem More.trans {a b c : World} (h : More a b) (k : More b c) : More a c := by
  obtain ⟨os, n, rfl⟩ := k
  exact h.more os n
theorem More.of_below {w w' : World} (h : Below w.heap.size w w') : More w w' := by
  refine ⟨w'.heap.extract w.heap.size w'.heap.size, w'.drawn, ?_⟩
  have hh : w'.heap = w.heap ++ w'.heap.extract w.heap.size w'.heap.size := by
    apply Array.ext_getElem?
    intro k
    rw [Array.getElem?_append]
    split
    · rename_i hk
      exact h.block k hk
    · rename_i hk
      have hs := h.size
      rw [Array.getElem?_extract]
      split
      · rename_i hk2
        rw [show w.heap.size + (k - w.heap.size) = k by omega]
      · rename_i hk2
        rw [Array.getElem?_eq_none (by omega)]
  cases w'
  cases w
  simp only [World.more] at *
  have h1 := h.os
  have h2 := h.tape
  have h3 := h.output
  simp only at h1 h2 h3
  subst h1 h2 h3
  rw [← hh]

/-- A block that is known whole: block g is just the cells cs of type t, none of them frozen. -/
def Blk (w : World) (g : Nat) (t : TypeId) (cs : Array Value) : Prop := w.heap[g]? = some (.cells cs t (0, 0))
section
variable {w w' : World} {g : Nat} {t : TypeId} {cs : Array Value}
theorem Blk.lt (h : Blk w g t cs) : g < w.heap.size := by
  rcases Nat.lt_or_ge g w.heap.size with hlt | hge
  · exact hlt
  · unfold Blk at h; rw [Array.getElem?_eq_none hge] at h; cases h
theorem Blk.cell (h : Blk w g t cs) (i : Nat) : w.cell? ⟨g, i, none⟩ = cs[i]? := cell_of_row w g i cs t (0, 0) h
theorem Blk.frozen (h : Blk w g t cs) (i : Nat) : w.frozen? ⟨g, i, none⟩ = false := by
  unfold Blk at h
  simp [World.frozen?, h]
theorem Blk.new (w : World) (t : TypeId) (cs : Array Value) : Blk (w.alloc (.cells cs t)) w.heap.size t cs := heap_alloc_new w _
theorem Blk.new' {w : World} {t : TypeId} {cs : Array Value} {g : Nat} (h : g = w.heap.size) : Blk (w.alloc (.cells cs t)) g t cs := by subst h; exact Blk.new w t cs
theorem Blk.drew (h : Blk w g t cs) : Blk w.drew g t cs := h
theorem Blk.drewN (h : Blk w g t cs) (n : Nat) : Blk (w.drewN n) g t cs := h
theorem Blk.alloc (h : Blk w g t cs) (o : Obj) : Blk (w.alloc o) g t cs := (Below.heap_alloc w o g h.lt).trans h
theorem Blk.more (h : Blk w g t cs) (os : Array Obj) (n : Nat) : Blk (w.more os n) g t cs := (w.heap_more os n h.lt).trans h
theorem Blk.put (h : Blk w g t cs) (i : Nat) (u : Value) : Blk (w.setCell ⟨g, i, none⟩ u) g t (cs.setIfInBounds i u) := by
  unfold Blk at h ⊢
  simp [World.setCell, Array.getElem?_modify, h]
theorem Blk.far (h : Blk w g t cs) {p : Addr} (hp : g ≠ p.block) (u : Value) : Blk (w.setCell p u) g t cs := (Below.heap_setCell w p u g hp).trans h
theorem Blk.below {B : Nat} (h : Blk w g t cs) (hb : Below B w w') (hg : g < B) : Blk w' g t cs := (hb.block g hg).trans h
theorem Blk.grown {row : Option Nat} (h : Blk w g t cs) (hb : w.grownBy w' row) (hg : some g ≠ row) : Blk w' g t cs := (hb.block g h.lt hg).trans h
end

theorem RowKit.Below.more {B : Nat} {a w : World} (h : Below B a w) (hB : B ≤ w.heap.size) (os : Array Obj) (n : Nat) : Below B a (w.more os n) := h.trans (below_more w os n B hB)
theorem RowKit.Below.drewN {B : Nat} {a w : World} (h : Below B a w) (n : Nat) : Below B a (w.drewN n) := h.trans ⟨rfl, rfl, rfl, Nat.le_refl _, fun _ _ => rfl⟩
/-- A slice of n ints: where it has any, it leads to a row of cells that hold the numbers f 0, f 1 .. -/
def Row (w : World) (a : Option Addr) (n : Nat) (f : Nat → Int) : Prop :=
  0 < n → ∃ b off, a = some ⟨b, off, none⟩ ∧ b < w.heap.size ∧ ∀ k, k < n → w.cell? ⟨b, off + k, none⟩ = some (.int .i64 (f k))

section
variable {w w' : World} {a : Option Addr} {n : Nat} {f g : Nat → Int}
theorem Row.at_ (h : Row w a n f) {k : Nat} (hk : k < n) : ∃ b off x, a = some ⟨b, off, none⟩ ∧ b < w.heap.size ∧ w.cell? ⟨b, off + k, none⟩ = some (.int .i64 x) ∧ Hid (x = f k) := by
  obtain ⟨b, off, e, hb, hc⟩ := h (by omega)
  exact ⟨b, off, _, e, hb, hc k hk, rfl⟩
theorem Row.keep (h : Row w a n f) (hs : w.heap.size ≤ w'.heap.size) (hk : ∀ b o, b < w.heap.size → w'.cell? ⟨b, o, none⟩ = w.cell? ⟨b, o, none⟩) : Row w' a n f := by
  intro hn
  obtain ⟨b, off, e, hb, hc⟩ := h hn
  exact ⟨b, off, e, by omega, fun k hk' => (hk _ _ hb).trans (hc k hk')⟩
theorem Row.below {B : Nat} (h : Row w a n f) (hb : Below B w w') (hB : w.heap.size ≤ B) : Row w' a n f :=
  h.keep hb.size fun b o hb' => hb.cell (p := ⟨b, o, none⟩) (by show b < B; omega)
theorem Row.alloc (h : Row w a n f) (o : Obj) : Row (w.alloc o) a n f := h.keep (by simp) fun b i hb => World.cell?_alloc_past o b i hb
theorem Row.more (h : Row w a n f) (os : Array Obj) (d : Nat) : Row (w.more os d) a n f := h.keep (by simp) fun b i hb => World.cell?_more w os d b i hb
theorem Row.drew (h : Row w a n f) : Row w.drew a n f := h
theorem Row.drewN (h : Row w a n f) (m : Nat) : Row (w.drewN m) a n f := h
theorem Row.nil : Row w a 0 f := fun h => absurd h (by omega)
theorem Row.congr (h : Row w a n f) (hfg : ∀ k, k < n → f k = g k) : Row w a n g := by
  intro hn
  obtain ⟨b, off, e, hb, hc⟩ := h hn
  exact ⟨b, off, e, hb, fun k hk => by rw [hc k hk, hfg k hk]⟩

/-- The numbers f 0 .. f (n - 1) as cells. -/
def cellsOf (n : Nat) (f : Nat → Int) : List Value := (List.range n).map fun k => Value.int .i64 (f k)
theorem cellsOf_zero (f : Nat → Int) : cellsOf 0 f = [] := rfl
theorem cellsOf_succ (n : Nat) (f : Nat → Int) : cellsOf (n + 1) f = cellsOf n f ++ [.int .i64 (f n)] := by simp [cellsOf, List.range_succ]
theorem cellsOf_length (n : Nat) (f : Nat → Int) : (cellsOf n f).length = n := by simp [cellsOf]
theorem cellsOf_congr {n : Nat} {f g : Nat → Int} (h : ∀ k, k < n → f k = g k) : cellsOf n f = cellsOf n g :=
  List.map_congr_left fun k hk => by rw [h k (by simpa using hk)]
theorem cellsOf_get {n k : Nat} (f : Nat → Int) (h : k < n) : (cellsOf n f)[k]? = some (.int .i64 (f k)) := by
  simp [cellsOf, h]
theorem oneCell_int (k : IntKind) (x : Int) : ∀ u ∈ [Value.int k x], u.oneCell' = true := by simp [Value.oneCell']

theorem Row.of_own {base : Nat} {e : TypeId} {c : Nat} (h : w.ownsRow base e 1 (.slice a n c) n (cellsOf n f)) : Row w a n f := by
  intro hn
  obtain ⟨g, cap, hv, _, hlt⟩ := h.form hn
  have hA : a = some ⟨g, 0, none⟩ := by injection hv
  subst hA
  refine ⟨g, 0, rfl, hlt, fun k hk => ?_⟩
  have := h.cells (g := g) rfl k _ (cellsOf_get f hk)
  rw [Addr.add_lit] at this
  exact this
/-- An owned row is a slice: nil, or with its length and a capacity that is no less. -/
theorem own_slice {base : Nat} {e : TypeId} {v : Value} {xs : List Value} (h : w.ownsRow base e 1 v n xs) : ∃ a cap, v = .slice a n cap ∧ n ≤ cap := by
  rcases h.2 with ⟨hv, hn⟩ | ⟨g, cap, cur, hv, _, _, hc, _⟩
  · subst hn
    exact ⟨none, 0, hv, Nat.le_refl _⟩
  · exact ⟨_, cap, hv, hc⟩
end

theorem More.below {w w' : World} (h : More w w') : Below w.heap.size w w' := by
  obtain ⟨os, n, rfl⟩ := h
  exact below_more w os n _ (Nat.le_refl _)
end Go
