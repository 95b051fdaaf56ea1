/- Rows of the call's own that begin somewhere in their block: an append onto one, one element less at either end. Conditions: none. -/
import Derived.Test.YtmlkebemkibipaaKit2
import Derived.Deep.RegionLaw
set_option linter.unusedVariables false
set_option linter.unusedSimpArgs false
namespace Go
open Go.RowKit

/-- A row of one-cell elements of the call's own, from some place of its block on: nil, or in a block from base on that nobody froze. -/
def World.ownsAt (w : World) (base : Nat) (e : TypeId) (v : Value) (n : Nat) (xs : List Value) : Prop :=
  xs.length = n ∧ ((v = .slice none 0 0 ∧ n = 0) ∨
    ∃ g off cap cur, v = .slice (some ⟨g, off, none⟩) n cap ∧ base ≤ g ∧ w.heap[g]? = some (.cells cur e (0, 0)) ∧ n ≤ cap ∧ cap ≤ maxLen ∧ off + cap ≤ cur.size ∧ (cur.toList.drop off).take n = xs)

section
variable {w w' : World} {base : Nat} {e : TypeId} {v : Value} {n : Nat} {xs : List Value}
theorem ownsAt_nil (w : World) (base : Nat) (e : TypeId) : w.ownsAt base e (.slice none 0 0) 0 [] := ⟨rfl, .inl ⟨rfl, rfl⟩⟩
theorem World.ownsAt.kept {row : Option Nat} (h : w.ownsAt base e v n xs) (hg : w.grownBy w' row) (hne : v.ownBlock = none ∨ v.ownBlock ≠ row) : w'.ownsAt base e v n xs := by
  refine ⟨h.1, ?_⟩
  rcases h.2 with hn | ⟨g, off, cap, cur, rfl, hb, hgg, rest⟩
  · exact .inl hn
  · refine .inr ⟨g, off, cap, cur, rfl, hb, ?_, rest⟩
    rw [hg.block g (Array.getElem?_eq_some_iff.1 hgg).1 (by simpa [Value.ownBlock] using hne)]
    exact hgg
theorem World.ownsAt.same (h : w.ownsAt base e v n xs) (hs : ∀ g, v.ownBlock = some g → w'.heap[g]? = w.heap[g]?) : w'.ownsAt base e v n xs := by
  refine ⟨h.1, ?_⟩
  rcases h.2 with hn | ⟨g, off, cap, cur, rfl, hb, hgg, rest⟩
  · exact .inl hn
  · exact .inr ⟨g, off, cap, cur, rfl, hb, (hs g rfl).trans hgg, rest⟩
theorem World.ownsAt.alloc (h : w.ownsAt base e v n xs) (o : Obj) : (w.alloc o).ownsAt base e v n xs :=
  h.kept (World.grownBy_alloc w o none) (by cases hv : v.ownBlock <;> simp)
theorem World.ownsAt.drew (h : w.ownsAt base e v n xs) : w.drew.ownsAt base e v n xs := h
theorem World.ownsAt.drewN (h : w.ownsAt base e v n xs) (m : Nat) : (w.drewN m).ownsAt base e v n xs := h
theorem World.ownsAt.set (h : w.ownsAt base e v n xs) {b i : Nat} (u : Value) (hb : b < base) : (w.setCell ⟨b, i, none⟩ u).ownsAt base e v n xs := by
  refine h.same fun g hg => Below.heap_setCell w ⟨b, i, none⟩ u g ?_
  rcases h.2 with ⟨rfl, _⟩ | ⟨g', off, cap, cur, rfl, hb', _⟩
  · simp [Value.ownBlock] at hg
  · simp [Value.ownBlock] at hg
    subst hg
    show g' ≠ b
    omega
theorem World.ownsAt.lt (h : w.ownsAt base e v n xs) : ∀ k, v.ownBlock = some k → base ≤ k ∧ k < w.heap.size := by
  intro k hk
  rcases h.2 with ⟨rfl, _⟩ | ⟨g, off, cap, cur, rfl, hb, hg, _⟩
  · simp [Value.ownBlock] at hk
  · simp [Value.ownBlock] at hk
    subst hk
    exact ⟨hb, (Array.getElem?_eq_some_iff.1 hg).1⟩
/-- It has elements: its form, and what lies in each cell. -/
theorem World.ownsAt.form (h : w.ownsAt base e v n xs) (hn : 0 < n) : ∃ g off cap, v = .slice (some ⟨g, off, none⟩) n cap ∧ n ≤ cap ∧ cap ≤ maxLen ∧ base ≤ g ∧ g < w.heap.size ∧ ∀ k u, xs[k]? = some u → w.cell? ⟨g, off + k, none⟩ = some u := by
  rcases h.2 with ⟨_, h0⟩ | ⟨g, off, cap, cur, rfl, hb, hg, hc, hm, hs, ht⟩
  · omega
  · refine ⟨g, off, cap, rfl, hc, hm, hb, (Array.getElem?_eq_some_iff.1 hg).1, fun k u hk => ?_⟩
    rw [cell_of_row w g (off + k) cur e (0, 0) hg]
    rw [← ht, List.getElem?_take] at hk
    split at hk
    · rw [List.getElem?_drop] at hk; simpa using hk
    · cases hk
theorem World.ownsAt.shape (h : w.ownsAt base e v n xs) : ∃ a cap, v = .slice a n cap ∧ n ≤ cap ∧ cap ≤ maxLen := by
  rcases h.2 with ⟨rfl, rfl⟩ | ⟨g, off, cap, cur, rfl, hb, hg, hc, hm, _⟩
  · exact ⟨none, 0, rfl, Nat.le_refl _, Nat.zero_le _⟩
  · exact ⟨_, cap, rfl, hc, hm⟩
/-- One element less at the end. -/
theorem World.ownsAt.init {g off cap : Nat} (h : w.ownsAt base e (.slice (some ⟨g, off, none⟩) (n + 1) cap) (n + 1) xs) : w.ownsAt base e (.slice (some ⟨g, off, none⟩) n cap) n (xs.take n) := by
  rcases h.2 with ⟨hv, _⟩ | ⟨g', off', cap', cur, hv, hb, hg, hc, hm, hs, ht⟩
  · cases hv
  · injection hv with h1 h2 h3
    injection h1 with h1
    injection h1 with h4 h5
    subst h4 h5 h3
    refine ⟨by rw [List.length_take, h.1]; omega, .inr ⟨g, off, cap, cur, rfl, hb, hg, by omega, hm, hs, ?_⟩⟩
    rw [← ht, List.take_take]
    congr 1
    omega
/-- One element less at the head. -/
theorem World.ownsAt.tail {g off cap : Nat} (h : w.ownsAt base e (.slice (some ⟨g, off, none⟩) (n + 1) (cap + 1)) (n + 1) xs) : w.ownsAt base e (.slice (some ⟨g, off + 1, none⟩) n cap) n (xs.drop 1) := by
  rcases h.2 with ⟨hv, _⟩ | ⟨g', off', cap', cur, hv, hb, hg, hc, hm, hs, ht⟩
  · cases hv
  · injection hv with h1 h2 h3
    injection h1 with h1
    injection h1 with h4 h5
    subst h4 h5 h3
    refine ⟨by rw [List.length_drop, h.1]; omega, .inr ⟨g, off + 1, cap, cur, rfl, hb, hg, by omega, by omega, by omega, ?_⟩⟩
    rw [← ht, List.drop_take, List.drop_drop]
    congr 1
end

section
variable {P : Program} (w : World)

/-- One element more. -/
theorem run_append_at (base : Nat) (t ty e : TypeId) (i : TypeInfo) (z : Value) (bytes : Nat) (ht : P.underlying t = some (.slice e)) (hi : P.info? e = some i) (hz : i.zero = some z)
    (hsize : i.size = 1) (hby : i.bytes = bytes) (hzs : z.cells.size = 1)
    (v : Value) (n : Nat) (xs : List Value) (hown : w.ownsAt base e v n xs)
    (a : Addr) (c : Nat) (x : Value) (hx : w.cell? a = some x) (h1 : x.oneCell' = true)
    (h63 : n + 1 ≤ maxLen) (hbytes : (n + 1) * bytes ≤ 140737488355328) (hbase : base ≤ w.heap.size) :
    ∃ g off cap w', (Builtin.append_ #[t, t] ty #[v, .slice (some a) 1 c]).run P w = .ok (.slice (some ⟨g, off, none⟩) (n + 1) cap) w' ∧ w'.ownsAt base e (.slice (some ⟨g, off, none⟩) (n + 1) cap) (n + 1) (xs ++ [x]) ∧ w.grownBy w' v.ownBlock ∧
      (v.ownBlock = some g ∨ g = w.heap.size) ∧ g < w'.heap.size := by
  subst hby
  have hsmall : n + 1 ≤ 9223372036854775807 := by simp only [maxLen] at h63; omega
  have hlen : (xs ++ [x]).length = n + 1 := by rw [List.length_append, hown.1]; rfl
  have hnews : ∀ j u, [x][j]? = some u → w.cell? (a.add j) = some u := by
    intro j u h
    cases j with
    | zero => simp at h; subst h; rw [Addr.add_zero']; exact hx
    | succ j => simp at h
  have grown : ∀ (old : Nat), old < n + 1 → ∀ (row : Option Nat),
      (w.drew.alloc (.cells (xs.toArray ++ [x].toArray ++ Builtin.zeroCells z.cells (grownCap w (n + 1) old e - (n + 1))) e)).ownsAt base e
        (.slice (some ⟨w.heap.size, 0, none⟩) (n + 1) (grownCap w (n + 1) old e)) (n + 1) (xs ++ [x]) ∧
      w.grownBy (w.drew.alloc (.cells (xs.toArray ++ [x].toArray ++ Builtin.zeroCells z.cells (grownCap w (n + 1) old e - (n + 1))) e)) row := by
    intro old ho row
    have hge := grownCap_ge w (n + 1) old e
    have hcm : grownCap w (n + 1) old e ≤ maxLen := grownCap_le_maxLen w (n + 1) old e h63
    refine ⟨⟨hlen, .inr ⟨w.heap.size, 0, _, _, rfl, hbase, heap_alloc_new w.drew _, hge, hcm, ?_, ?_⟩⟩, ⟨rfl, rfl, rfl, by simp, fun k hk _ => Below.heap_alloc w.drew _ k hk⟩⟩
    · simp only [Array.size_append, List.size_toArray, size_zeroCells, hzs, hown.1, List.length_cons, List.length_nil]
      omega
    · simp only [Array.toList_append, List.append_assoc, List.drop_zero]
      rw [← List.append_assoc, ← hlen]
      exact List.take_left
  rcases hown.2 with ⟨rfl, rfl⟩ | ⟨g, off, cap, cur, rfl, hbg, hg, hnc, hcm, hcs, htake⟩
  · have hxs : xs = [] := List.eq_nil_of_length_eq_zero hown.1
    subst hxs
    have hr := run_append_nil (P := P) w t ty e i z ht hi hz a 1 c [x] (by simp [hsize]) hnews (by omega) (by omega) (by have hb := hbytes; simp only [Nat.zero_add] at hb; omega)
    have hgr := grown 0 (by omega) (Value.ownBlock (.slice none 0 0))
    simp only [Nat.zero_add, List.nil_append, Array.empty_append] at hgr ⊢
    exact ⟨_, _, _, _, hr, hgr.1, hgr.2, .inr rfl, by simp⟩
  · by_cases hroom : n + 1 ≤ cap
    · have hspare : off + n < cur.size := by omega
      have hr := run_append_room_cells (P := P) w t ty e i ht hi g off n cap a 1 c [x] (by simp [hsize]) hnews (by simpa using h1) hroom
        (fun j hj => by
          obtain rfl : j = 0 := by simpa using hj
          rw [hsize, Nat.mul_one, Nat.add_zero, cell_of_row w g (off + n) cur e (0, 0) hg, Array.getElem?_eq_getElem hspare]; rfl)
        (fun j hj => by simp [World.frozen?, hg])
      simp only [hsize, Nat.mul_one, World.setCells] at hr
      refine ⟨g, off, cap, _, hr, ⟨hlen, .inr ⟨g, off, cap, cur.setIfInBounds (off + n) x, rfl, hbg, ?_, hroom, hcm, by simpa using hcs, ?_⟩⟩, ⟨rfl, rfl, rfl, by simp [World.setCell], fun k hk hne => ?_⟩, .inl rfl, by have := (Array.getElem?_eq_some_iff.1 hg).1; simpa [World.setCell] using this⟩
      · simp [World.setCell, Array.getElem?_modify, hg]
      · apply List.ext_getElem?
        intro k
        rw [List.getElem?_take, ← htake]
        by_cases hk : k < n + 1
        · rw [if_pos hk, List.getElem?_drop, Array.getElem?_toList, Array.getElem?_setIfInBounds]
          by_cases hkn : k = n
          · subst hkn
            rw [if_pos rfl, if_pos hspare]
            rw [List.getElem?_append_right (by rw [htake, hown.1]; exact Nat.le_refl _), htake, hown.1]
            simp
          · rw [if_neg (by omega), List.getElem?_append_left (by rw [htake, hown.1]; omega), List.getElem?_take, if_pos (by omega), List.getElem?_drop]
            simp
        · rw [if_neg hk, List.getElem?_eq_none (by rw [htake]; omega)]
      · exact Below.heap_setCell w ⟨g, off + n, none⟩ x k (fun h => hne (by simp [Value.ownBlock, h]))
    · have holds : ∀ j u, xs[j]? = some u → w.cell? ((⟨g, off, none⟩ : Addr).add j) = some u := fun j u hu => by
        rw [Addr.add_lit, cell_of_row w g (off + j) cur e (0, 0) hg]
        rw [← htake, List.getElem?_take] at hu
        split at hu
        · rw [List.getElem?_drop] at hu; simpa using hu
        · cases hu
      have hr := run_append_grow (P := P) w t ty e i z ht hi hz ⟨g, off, none⟩ n cap xs (by rw [hown.1, hsize, Nat.mul_one]) holds a 1 c [x] (by simp [hsize]) hnews (by omega) (by omega) (growslice_fits (by omega) hbytes)
      have hgr := grown cap (by omega) (Value.ownBlock (.slice (some ⟨g, off, none⟩) n cap))
      exact ⟨_, _, _, _, hr, hgr.1, hgr.2, .inr rfl, by simp⟩

theorem wp_append_at {o : Oper} {a : Act} {K : Act → World → Prop} {Q : Exit → Act → World → Prop} (s x : Operand) (t : TypeId)
    (ho : o.op = .call { callee := .builtin .append, args := #[s, x], argTypes := #[t, t] })
    (base : Nat) (e : TypeId) (i : TypeInfo) (z : Value) (bytes : Nat) (ht : P.underlying t = some (.slice e)) (hi : P.info? e = some i) (hz : i.zero = some z)
    (hsize : i.size = 1) (hby : i.bytes = bytes) (hzs : z.cells.size = 1)
    (v : Value) (n : Nat) (xs : List Value) (hs : a.eval s = v) (hown : w.ownsAt base e v n xs)
    (ad : Addr) (c : Nat) (y : Value) (hx : a.eval x = .slice (some ad) 1 c) (hy : w.cell? ad = some y) (h1 : y.oneCell' = true)
    (h63 : n + 1 ≤ maxLen) (hbytes : (n + 1) * bytes ≤ 140737488355328) (hbase : base ≤ w.heap.size)
    (h : ∀ g off cap w', w'.ownsAt base e (.slice (some ⟨g, off, none⟩) (n + 1) cap) (n + 1) (xs ++ [y]) → w.grownBy w' v.ownBlock → (v.ownBlock = some g ∨ g = w.heap.size) → g < w'.heap.size → K (a.put o.dst (.slice (some ⟨g, off, none⟩) (n + 1) cap)) w') : o.wp P a w K Q := by
  obtain ⟨g, off, cap, w', hr, h2, h3, h4, h5⟩ := run_append_at (P := P) w base t o.type e i z bytes ht hi hz hsize hby hzs v n xs hown ad c y hy h1 h63 hbytes hbase
  unfold Oper.wp execOp
  simp only [ho, resolve, invoke, builtin, Sem.run_bind, Sem.run_pure, Result.andThen_ok, List.map_toArray, List.map_cons, List.map_nil, hs, hx, hr]
  exact h g off cap w' h2 h3 h4 h5
end

/-- From w to w' only the blocks of A have turned, and new ones have come. -/
structure Turned (w w' : World) (A : Nat → Prop) : Prop where
  os : w'.os = w.os
  tape : w'.tape = w.tape
  output : w'.output = w.output
  size : w.heap.size ≤ w'.heap.size
  block : ∀ k, k < w.heap.size → ¬ A k → w'.heap[k]? = w.heap[k]?
section
variable {w w' w2 : World} {A B : Nat → Prop}
theorem Turned.refl (w : World) (A : Nat → Prop) : Turned w w A := ⟨rfl, rfl, rfl, Nat.le_refl _, fun _ _ _ => rfl⟩
theorem Turned.alloc (h : Turned w w' A) (o : Obj) : Turned w (w'.alloc o) A :=
  ⟨h.os, h.tape, h.output, by have := h.size; simp; omega, fun k hk hn => (Below.heap_alloc w' o k (by have := h.size; omega)).trans (h.block k hk hn)⟩
theorem Turned.drew (h : Turned w w' A) : Turned w w'.drew A := ⟨h.os, h.tape, h.output, h.size, h.block⟩
theorem Turned.drewN (h : Turned w w' A) (m : Nat) : Turned w (w'.drewN m) A := ⟨h.os, h.tape, h.output, h.size, h.block⟩
theorem Turned.set (h : Turned w w' A) {p : Addr} (hp : A p.block) (u : Value) : Turned w (w'.setCell p u) A :=
  ⟨h.os, h.tape, h.output, by have := h.size; simpa [World.setCell] using this, fun k hk hn => (Below.heap_setCell w' p u k (fun e => hn (e ▸ hp))).trans (h.block k hk hn)⟩
theorem Turned.grown {row : Option Nat} (h : Turned w w' A) (hg : w'.grownBy w2 row) (hr : ∀ k, row = some k → A k ∨ w.heap.size ≤ k) : Turned w w2 A :=
  ⟨hg.os.trans h.os, hg.tape.trans h.tape, hg.output.trans h.output, Nat.le_trans h.size hg.size, fun k hk hn => (hg.block k (by have := h.size; omega) (fun e => by
    rcases hr k e.symm with h1 | h1
    · exact hn h1
    · omega)).trans (h.block k hk hn)⟩
theorem Turned.trans (h : Turned w w' A) (k : Turned w' w2 B) (hB : ∀ b, B b → A b ∨ w.heap.size ≤ b) : Turned w w2 A :=
  ⟨k.os.trans h.os, k.tape.trans h.tape, k.output.trans h.output, Nat.le_trans h.size k.size, fun b hb hn => (k.block b (by have := h.size; omega) (fun hc => by
    rcases hB b hc with h1 | h1
    · exact hn h1
    · omega)).trans (h.block b hb hn)⟩
theorem Turned.blk {g : Nat} {t : TypeId} {cs : Array Value} (h : Turned w w' A) (hb : Blk w g t cs) (hn : ¬ A g) : Blk w' g t cs := (h.block g hb.lt hn).trans hb
theorem Turned.ownsAt {base : Nat} {e : TypeId} {v : Value} {n : Nat} {xs : List Value} (h : Turned w w' A) (ho : w.ownsAt base e v n xs) (hn : ∀ g, v.ownBlock = some g → ¬ A g) : w'.ownsAt base e v n xs :=
  ho.same fun g hg => h.block g (ho.lt g hg).2 (hn g hg)
theorem Turned.below (h : Turned w w' A) {C : Nat} (hC : C ≤ w.heap.size) (hA : ∀ b, A b → C ≤ b) : Below C w w' :=
  ⟨h.os, h.tape, h.output, h.size, fun k hk => h.block k (by omega) (fun ha => by have := hA k ha; omega)⟩
end
/-- Two slices do not lie in one block. -/
def Apart (v u : Value) : Prop := ∀ g, v.ownBlock = some g → u.ownBlock ≠ some g
end Go
