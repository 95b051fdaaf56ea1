/- Texts in one: SlMin, Deq, WinLaw, Win0, Base, Clock, ClockW, Jitter, Clone, TcLaw. Conditions: those of each law. -/
import Derived.Test.YtgmljgcmfooniaaGreatDoorProg
import Derived.Test.YtgmljgcmfooniaaGreatDoorVdM
import Derived.Test.YtgmljgcmfooniaaGreatDoorKit2
import Derived.Deep.RegionLaw
import Derived.Test.YtgmljgcmfooniaaGreatDoorKit3
import Derived.Test.YtgmljgcmfooniaaGreatDoorTwo
import Derived.Test.YtgmljgcmfooniaaGreatDoorKitC
import Derived.Laws.EntriesVeiled
import Derived.Test.YtgmljgcmfooniaaGreatDoorSlEqual
import Derived.Test.YtgmljgcmfooniaaGreatDoorQuM
import Derived.Deep.RegionHeld3
import Derived.Deep.AppendLies
import Derived.Lib.SliceRun
/- SlMin -/
namespace Go.Tide
theorem isMin_one {f : Nat → Int} {x : Int} (h : x = f 0) : ∀ k, k < 1 → x ≤ f k := by
  intro j hj
  obtain rfl : j = 0 := by omega
  rw [h]
  exact Int.le_refl _
end Go.Tide
namespace Go.Proofs.YtgmljgcmfooniaaGreatDoor
open Go.RowKit Go.Tide
set_option linter.unusedVariables false
set_option linter.unusedSimpArgs false
set_option maxRecDepth 20000

set_option maxHeartbeats 400000 in
theorem min_any (a : Option Addr) (n c : Nat) (f : Nat → Int) (w : World) (hf : Row w a n f) (hn : n ≤ 1152921504606846976) (h0 : 0 < n) :
    Calls Tryz.prog 28 #[.slice a n c] w fun e w' => ∃ m : Int, e = .returned (.int .i64 m) ∧ IsMin n f m ∧ w = w' := by
  obtain ⟨b0, off0, x0, rfl, hb0, hc0, hx0⟩ := hf.at_ h0
  rw [Nat.add_zero] at hc0
  have hn1 : decide ((n : Int) < 1) = false := by simp; omega
  go_enter Tryz.func28, Tryz.ntmps28
  go_wp2
  go_loop [3, 4] (fun m i => ∃ (k : Nat) (x : Int), i = .int .i64 k ∧ 1 ≤ k ∧ k ≤ n ∧ m = .int .i64 x ∧ IsMin k f x) (fun _ i => n - (intOf i).toNat)
  case atStart => exact ⟨1, x0, rfl, by omega, by omega, rfl, ⟨0, by omega, hx0.out.symm⟩, isMin_one hx0.out⟩
  case round =>
    obtain ⟨k, x, rfl, hk1, hk, rfl, hm⟩ := hrel
    have HM := Lib.hid hm
    clear hm
    by_cases hlt : k < n
    · obtain ⟨b, off, y, he, hb, hc, hy⟩ := hf.at_ hlt
      injection he with he
      injection he with he1 he2
      subst he1 he2
      go_wp2
      all_goals
        go_round
        case rel =>
          refine ⟨k + 1, _, by go_num, by omega, by omega, rfl, ?_, fun j hj => ?_⟩
          · obtain ⟨⟨i, hi, hfi⟩, _⟩ := HM.out
            by_cases hxy : y < x
            · exact ⟨k, by omega, by rw [← hy.out]; first | rfl | (simp only [hxy, if_true]) | omega⟩
            · exact ⟨i, by omega, by rw [hfi]; first | rfl | (simp only [hxy, if_false]) | omega⟩
          · rcases Nat.lt_succ_iff_lt_or_eq.1 hj with h | h
            · have := HM.out.2 j h
              first | omega | (split <;> omega)
            · subst h
              rw [← hy.out]
              first | omega | (split <;> omega)
        case measure => simp [intOf]; omega
    · obtain rfl : k = n := by omega
      go_wp2
      go_ret
      exact ⟨x, rfl, HM.out, rfl⟩
end Go.Proofs.YtgmljgcmfooniaaGreatDoor
/- Deq -/
set_option linter.unusedVariables false
set_option linter.unusedSimpArgs false
namespace Go
open Go.RowKit

/-- A row of one-cell elements of the call's own, from some place of its block on: nil, or in a block from base on that nobody froze. -/
def World.ownsAt (w : World) (base : Nat) (e : TypeId) (v : Value) (n : Nat) (xs : List Value) : Prop :=
  xs.length = n ∧ ((v = .slice none 0 0 ∧ n = 0) ∨
    ∃ g off cap cur, v = .slice (some ⟨g, off, none⟩) n cap ∧ base ≤ g ∧ w.heap[g]? = some (.cells cur e (0, 0)) ∧ n ≤ cap ∧ cap ≤ maxLen ∧ off + cap ≤ cur.size ∧ (cur.toList.drop off).take n = xs)

section
variable {w w' : World} {base : Nat} {e : TypeId} {v : Value} {n : Nat} {xs : List Value}
theorem ownsAt_nil (w : World) (base : Nat) (e : TypeId) : w.ownsAt base e (.slice none 0 0) 0 [] := ⟨rfl, .inl ⟨rfl, rfl⟩⟩
theorem World.ownsAt.kept {row : Option Nat} (h : w.ownsAt base e v n xs) (hg : w.grownBy w' row) (hne : v.ownBlock = none ∨ v.ownBlock ≠ row) : w'.ownsAt base e v n xs := by
  refine ⟨h.1, ?_⟩
  rcases h.2 with hn | ⟨g, off, cap, cur, rfl, hb, hgg, rest⟩
  · exact .inl hn
  · refine .inr ⟨g, off, cap, cur, rfl, hb, ?_, rest⟩
    rw [hg.block g (Array.getElem?_eq_some_iff.1 hgg).1 (by simpa [Value.ownBlock] using hne)]
    exact hgg
theorem World.ownsAt.same (h : w.ownsAt base e v n xs) (hs : ∀ g, v.ownBlock = some g → w'.heap[g]? = w.heap[g]?) : w'.ownsAt base e v n xs := by
  refine ⟨h.1, ?_⟩
  rcases h.2 with hn | ⟨g, off, cap, cur, rfl, hb, hgg, rest⟩
  · exact .inl hn
  · exact .inr ⟨g, off, cap, cur, rfl, hb, (hs g rfl).trans hgg, rest⟩
theorem World.ownsAt.alloc (h : w.ownsAt base e v n xs) (o : Obj) : (w.alloc o).ownsAt base e v n xs :=
  h.kept (World.grownBy_alloc w o none) (by cases hv : v.ownBlock <;> simp)
theorem World.ownsAt.drew (h : w.ownsAt base e v n xs) : w.drew.ownsAt base e v n xs := h
theorem World.ownsAt.drewN (h : w.ownsAt base e v n xs) (m : Nat) : (w.drewN m).ownsAt base e v n xs := h
theorem World.ownsAt.set (h : w.ownsAt base e v n xs) {b i : Nat} (u : Value) (hb : b < base) : (w.setCell ⟨b, i, none⟩ u).ownsAt base e v n xs := by
  refine h.same fun g hg => Below.heap_setCell w ⟨b, i, none⟩ u g ?_
  rcases h.2 with ⟨rfl, _⟩ | ⟨g', off, cap, cur, rfl, hb', _⟩
  · simp [Value.ownBlock] at hg
  · simp [Value.ownBlock] at hg
    subst hg
    show g' ≠ b
    omega
theorem World.ownsAt.lt (h : w.ownsAt base e v n xs) : ∀ k, v.ownBlock = some k → base ≤ k ∧ k < w.heap.size := by
  intro k hk
  rcases h.2 with ⟨rfl, _⟩ | ⟨g, off, cap, cur, rfl, hb, hg, _⟩
  · simp [Value.ownBlock] at hk
  · simp [Value.ownBlock] at hk
    subst hk
    exact ⟨hb, (Array.getElem?_eq_some_iff.1 hg).1⟩
/-- It has elements: its form, and what lies in each cell. -/
theorem World.ownsAt.form (h : w.ownsAt base e v n xs) (hn : 0 < n) : ∃ g off cap, v = .slice (some ⟨g, off, none⟩) n cap ∧ n ≤ cap ∧ cap ≤ maxLen ∧ base ≤ g ∧ g < w.heap.size ∧ ∀ k u, xs[k]? = some u → w.cell? ⟨g, off + k, none⟩ = some u := by
  rcases h.2 with ⟨_, h0⟩ | ⟨g, off, cap, cur, rfl, hb, hg, hc, hm, hs, ht⟩
  · omega
  · refine ⟨g, off, cap, rfl, hc, hm, hb, (Array.getElem?_eq_some_iff.1 hg).1, fun k u hk => ?_⟩
    rw [cell_of_row w g (off + k) cur e (0, 0) hg]
    rw [← ht, List.getElem?_take] at hk
    split at hk
    · rw [List.getElem?_drop] at hk; simpa using hk
    · cases hk
theorem World.ownsAt.shape (h : w.ownsAt base e v n xs) : ∃ a cap, v = .slice a n cap ∧ n ≤ cap ∧ cap ≤ maxLen := by
  rcases h.2 with ⟨rfl, rfl⟩ | ⟨g, off, cap, cur, rfl, hb, hg, hc, hm, _⟩
  · exact ⟨none, 0, rfl, Nat.le_refl _, Nat.zero_le _⟩
  · exact ⟨_, cap, rfl, hc, hm⟩
end

section
variable {P : Program} (w : World)

/-- One element more. -/
theorem run_append_at (base : Nat) (t ty e : TypeId) (i : TypeInfo) (z : Value) (bytes : Nat) (ht : P.underlying t = some (.slice e)) (hi : P.info? e = some i) (hz : i.zero = some z)
    (hsize : i.size = 1) (hby : i.bytes = bytes) (hzs : z.cells.size = 1)
    (v : Value) (n : Nat) (xs : List Value) (hown : w.ownsAt base e v n xs)
    (a : Addr) (c : Nat) (x : Value) (hx : w.cell? a = some x) (h1 : x.oneCell' = true)
    (h63 : n + 1 ≤ maxLen) (hbytes : (n + 1) * bytes ≤ 140737488355328) (hbase : base ≤ w.heap.size) :
    ∃ g off cap w', (Builtin.append_ #[t, t] ty #[v, .slice (some a) 1 c]).run P w = .ok (.slice (some ⟨g, off, none⟩) (n + 1) cap) w' ∧ w'.ownsAt base e (.slice (some ⟨g, off, none⟩) (n + 1) cap) (n + 1) (xs ++ [x]) ∧ w.grownBy w' v.ownBlock ∧
      (v.ownBlock = some g ∨ g = w.heap.size) ∧ g < w'.heap.size := by
  subst hby
  have hsmall : n + 1 ≤ 9223372036854775807 := by simp only [maxLen] at h63; omega
  have hlen : (xs ++ [x]).length = n + 1 := by rw [List.length_append, hown.1]; rfl
  have hnews : ∀ j u, [x][j]? = some u → w.cell? (a.add j) = some u := by
    intro j u h
    cases j with
    | zero => simp at h; subst h; rw [Addr.add_zero']; exact hx
    | succ j => simp at h
  have grown : ∀ (old : Nat), old < n + 1 → ∀ (row : Option Nat),
      (w.drew.alloc (.cells (xs.toArray ++ [x].toArray ++ Builtin.zeroCells z.cells (grownCap w (n + 1) old e - (n + 1))) e)).ownsAt base e
        (.slice (some ⟨w.heap.size, 0, none⟩) (n + 1) (grownCap w (n + 1) old e)) (n + 1) (xs ++ [x]) ∧
      w.grownBy (w.drew.alloc (.cells (xs.toArray ++ [x].toArray ++ Builtin.zeroCells z.cells (grownCap w (n + 1) old e - (n + 1))) e)) row := by
    intro old ho row
    have hge := grownCap_ge w (n + 1) old e
    have hcm : grownCap w (n + 1) old e ≤ maxLen := grownCap_le_maxLen w (n + 1) old e h63
    refine ⟨⟨hlen, .inr ⟨w.heap.size, 0, _, _, rfl, hbase, heap_alloc_new w.drew _, hge, hcm, ?_, ?_⟩⟩, ⟨rfl, rfl, rfl, by simp, fun k hk _ => Below.heap_alloc w.drew _ k hk⟩⟩
    · simp only [Array.size_append, List.size_toArray, size_zeroCells, hzs, hown.1, List.length_cons, List.length_nil]
      omega
    · simp only [Array.toList_append, List.append_assoc, List.drop_zero]
      rw [← List.append_assoc, ← hlen]
      exact List.take_left
  rcases hown.2 with ⟨rfl, rfl⟩ | ⟨g, off, cap, cur, rfl, hbg, hg, hnc, hcm, hcs, htake⟩
  · have hxs : xs = [] := List.eq_nil_of_length_eq_zero hown.1
    subst hxs
    have hr := run_append_nil (P := P) w t ty e i z ht hi hz a 1 c [x] (by simp [hsize]) hnews (by omega) (by omega) (by have hb := hbytes; simp only [Nat.zero_add] at hb; omega)
    have hgr := grown 0 (by omega) (Value.ownBlock (.slice none 0 0))
    simp only [Nat.zero_add, List.nil_append, Array.empty_append] at hgr ⊢
    exact ⟨_, _, _, _, hr, hgr.1, hgr.2, .inr rfl, by simp⟩
  · by_cases hroom : n + 1 ≤ cap
    · have hspare : off + n < cur.size := by omega
      have hr := run_append_room_cells (P := P) w t ty e i ht hi g off n cap a 1 c [x] (by simp [hsize]) hnews (by simpa using h1) hroom
        (fun j hj => by
          obtain rfl : j = 0 := by simpa using hj
          rw [hsize, Nat.mul_one, Nat.add_zero, cell_of_row w g (off + n) cur e (0, 0) hg, Array.getElem?_eq_getElem hspare]; rfl)
        (fun j hj => by simp [World.frozen?, hg])
      simp only [hsize, Nat.mul_one, World.setCells] at hr
      refine ⟨g, off, cap, _, hr, ⟨hlen, .inr ⟨g, off, cap, cur.setIfInBounds (off + n) x, rfl, hbg, ?_, hroom, hcm, by simpa using hcs, ?_⟩⟩, ⟨rfl, rfl, rfl, by simp [World.setCell], fun k hk hne => ?_⟩, .inl rfl, by have := (Array.getElem?_eq_some_iff.1 hg).1; simpa [World.setCell] using this⟩
      · simp [World.setCell, Array.getElem?_modify, hg]
      · apply List.ext_getElem?
        intro k
        rw [List.getElem?_take, ← htake]
        by_cases hk : k < n + 1
        · rw [if_pos hk, List.getElem?_drop, Array.getElem?_toList, Array.getElem?_setIfInBounds]
          by_cases hkn : k = n
          · subst hkn
            rw [if_pos rfl, if_pos hspare]
            rw [List.getElem?_append_right (by rw [htake, hown.1]; exact Nat.le_refl _), htake, hown.1]
            simp
          · rw [if_neg (by omega), List.getElem?_append_left (by rw [htake, hown.1]; omega), List.getElem?_take, if_pos (by omega), List.getElem?_drop]
            simp
        · rw [if_neg hk, List.getElem?_eq_none (by rw [htake]; omega)]
      · exact Below.heap_setCell w ⟨g, off + n, none⟩ x k (fun h => hne (by simp [Value.ownBlock, h]))
    · have holds : ∀ j u, xs[j]? = some u → w.cell? ((⟨g, off, none⟩ : Addr).add j) = some u := fun j u hu => by
        rw [Addr.add_lit, cell_of_row w g (off + j) cur e (0, 0) hg]
        rw [← htake, List.getElem?_take] at hu
        split at hu
        · rw [List.getElem?_drop] at hu; simpa using hu
        · cases hu
      have hr := run_append_grow (P := P) w t ty e i z ht hi hz ⟨g, off, none⟩ n cap xs (by rw [hown.1, hsize, Nat.mul_one]) holds a 1 c [x] (by simp [hsize]) hnews (by omega) (by omega) (growslice_fits (by omega) hbytes)
      have hgr := grown cap (by omega) (Value.ownBlock (.slice (some ⟨g, off, none⟩) n cap))
      exact ⟨_, _, _, _, hr, hgr.1, hgr.2, .inr rfl, by simp⟩

theorem wp_append_at {o : Oper} {a : Act} {K : Act → World → Prop} {Q : Exit → Act → World → Prop} (s x : Operand) (t : TypeId)
    (ho : o.op = .call { callee := .builtin .append, args := #[s, x], argTypes := #[t, t] })
    (base : Nat) (e : TypeId) (i : TypeInfo) (z : Value) (bytes : Nat) (ht : P.underlying t = some (.slice e)) (hi : P.info? e = some i) (hz : i.zero = some z)
    (hsize : i.size = 1) (hby : i.bytes = bytes) (hzs : z.cells.size = 1)
    (v : Value) (n : Nat) (xs : List Value) (hs : a.eval s = v) (hown : w.ownsAt base e v n xs)
    (ad : Addr) (c : Nat) (y : Value) (hx : a.eval x = .slice (some ad) 1 c) (hy : w.cell? ad = some y) (h1 : y.oneCell' = true)
    (h63 : n + 1 ≤ maxLen) (hbytes : (n + 1) * bytes ≤ 140737488355328) (hbase : base ≤ w.heap.size)
    (h : ∀ g off cap w', w'.ownsAt base e (.slice (some ⟨g, off, none⟩) (n + 1) cap) (n + 1) (xs ++ [y]) → w.grownBy w' v.ownBlock → (v.ownBlock = some g ∨ g = w.heap.size) → g < w'.heap.size → K (a.put o.dst (.slice (some ⟨g, off, none⟩) (n + 1) cap)) w') : o.wp P a w K Q := by
  obtain ⟨g, off, cap, w', hr, h2, h3, h4, h5⟩ := run_append_at (P := P) w base t o.type e i z bytes ht hi hz hsize hby hzs v n xs hown ad c y hy h1 h63 hbytes hbase
  unfold Oper.wp execOp
  simp only [ho, resolve, invoke, builtin, Sem.run_bind, Sem.run_pure, Result.andThen_ok, List.map_toArray, List.map_cons, List.map_nil, hs, hx, hr]
  exact h g off cap w' h2 h3 h4 h5
end

/-- From w to w' only the blocks of A have turned, and new ones have come. -/
structure Turned (w w' : World) (A : Nat → Prop) : Prop where
  os : w'.os = w.os
  tape : w'.tape = w.tape
  output : w'.output = w.output
  size : w.heap.size ≤ w'.heap.size
  block : ∀ k, k < w.heap.size → ¬ A k → w'.heap[k]? = w.heap[k]?
section
variable {w w' w2 : World} {A B : Nat → Prop}
theorem Turned.refl (w : World) (A : Nat → Prop) : Turned w w A := ⟨rfl, rfl, rfl, Nat.le_refl _, fun _ _ _ => rfl⟩
theorem Turned.alloc (h : Turned w w' A) (o : Obj) : Turned w (w'.alloc o) A :=
  ⟨h.os, h.tape, h.output, by have := h.size; simp; omega, fun k hk hn => (Below.heap_alloc w' o k (by have := h.size; omega)).trans (h.block k hk hn)⟩
theorem Turned.drew (h : Turned w w' A) : Turned w w'.drew A := ⟨h.os, h.tape, h.output, h.size, h.block⟩
theorem Turned.drewN (h : Turned w w' A) (m : Nat) : Turned w (w'.drewN m) A := ⟨h.os, h.tape, h.output, h.size, h.block⟩
theorem Turned.set (h : Turned w w' A) {p : Addr} (hp : A p.block) (u : Value) : Turned w (w'.setCell p u) A :=
  ⟨h.os, h.tape, h.output, by have := h.size; simpa [World.setCell] using this, fun k hk hn => (Below.heap_setCell w' p u k (fun e => hn (e ▸ hp))).trans (h.block k hk hn)⟩
theorem Turned.grown {row : Option Nat} (h : Turned w w' A) (hg : w'.grownBy w2 row) (hr : ∀ k, row = some k → A k ∨ w.heap.size ≤ k) : Turned w w2 A :=
  ⟨hg.os.trans h.os, hg.tape.trans h.tape, hg.output.trans h.output, Nat.le_trans h.size hg.size, fun k hk hn => (hg.block k (by have := h.size; omega) (fun e => by
    rcases hr k e.symm with h1 | h1
    · exact hn h1
    · omega)).trans (h.block k hk hn)⟩
theorem Turned.trans (h : Turned w w' A) (k : Turned w' w2 B) (hB : ∀ b, B b → A b ∨ w.heap.size ≤ b) : Turned w w2 A :=
  ⟨k.os.trans h.os, k.tape.trans h.tape, k.output.trans h.output, Nat.le_trans h.size k.size, fun b hb hn => (k.block b (by have := h.size; omega) (fun hc => by
    rcases hB b hc with h1 | h1
    · exact hn h1
    · omega)).trans (h.block b hb hn)⟩
theorem Turned.blk {g : Nat} {t : TypeId} {cs : Array Value} (h : Turned w w' A) (hb : Blk w g t cs) (hn : ¬ A g) : Blk w' g t cs := (h.block g hb.lt hn).trans hb
theorem Turned.ownsAt {base : Nat} {e : TypeId} {v : Value} {n : Nat} {xs : List Value} (h : Turned w w' A) (ho : w.ownsAt base e v n xs) (hn : ∀ g, v.ownBlock = some g → ¬ A g) : w'.ownsAt base e v n xs :=
  ho.same fun g hg => h.block g (ho.lt g hg).2 (hn g hg)
theorem Turned.below (h : Turned w w' A) {C : Nat} (hC : C ≤ w.heap.size) (hA : ∀ b, A b → C ≤ b) : Below C w w' :=
  ⟨h.os, h.tape, h.output, h.size, fun k hk => h.block k (by omega) (fun ha => by have := hA k ha; omega)⟩
end
/-- Two slices do not lie in one block. -/
def Apart (v u : Value) : Prop := ∀ g, v.ownBlock = some g → u.ownBlock ≠ some g
end Go
/- WinLaw -/
set_option linter.unusedVariables false
set_option linter.unusedSimpArgs false
namespace Go.Tide

/-- A strict order of ints: 'is better than'. -/
structure Ord (h : Int → Int → Bool) : Prop where
  irrefl : ∀ a, h a a = false
  trans : ∀ a b c, h a b = true → h b c = true → h a c = true
  neg : ∀ a b c, h a b = false → h b c = false → h a c = false
  tri : ∀ a b, h a b = false → h b a = false → a = b
def ltB (a b : Int) : Bool := decide (a < b)
theorem ltB_iff {a b : Int} : ltB a b = true ↔ a < b := by simp [ltB]
theorem ltB_not {a b : Int} : ltB a b = false ↔ b ≤ a := by simp [ltB]
theorem ord_lt : Ord ltB := by
  constructor
  · intro a; rw [ltB_not]; omega
  · intro a b c; rw [ltB_iff, ltB_iff, ltB_iff]; omega
  · intro a b c; rw [ltB_not, ltB_not, ltB_not]; omega
  · intro a b; rw [ltB_not, ltB_not]; omega
/-- v is a best one of x from lo to k. -/
def BestIn (h : Int → Int → Bool) (x : Nat → Int) (lo : Int) (k : Nat) (v : Int) : Prop :=
  (∃ i : Nat, lo ≤ i ∧ i ≤ k ∧ x i = v) ∧ ∀ t : Nat, lo ≤ t → t ≤ k → h (x t) v = false
theorem BestIn.unique {h : Int → Int → Bool} (H : Ord h) {x : Nat → Int} {lo : Int} {k : Nat} {v u : Int} (hv : BestIn h x lo k v) (hu : BestIn h x lo k u) : v = u := by
  obtain ⟨⟨i, a1, a2, rfl⟩, a4⟩ := hv
  obtain ⟨⟨j, b1, b2, rfl⟩, b4⟩ := hu
  exact H.tri _ _ (b4 i a1 a2) (a4 j b1 b2)
/-- The best from lo to k. -/
def bestTo (h : Int → Int → Bool) (x : Nat → Int) (lo : Int) : Nat → Int
  | 0 => x 0
  | k + 1 => if lo ≤ k then (if h (bestTo h x lo k) (x (k + 1)) = true then bestTo h x lo k else x (k + 1)) else x (k + 1)
theorem bestTo_spec {h : Int → Int → Bool} (H : Ord h) (x : Nat → Int) (lo : Int) (k : Nat) (hk : lo ≤ k) : BestIn h x lo k (bestTo h x lo k) := by
  induction k with
  | zero =>
    refine ⟨⟨0, hk, Nat.le_refl _, rfl⟩, fun t _ ht => ?_⟩
    obtain rfl : t = 0 := by omega
    exact H.irrefl _
  | succ k ih =>
    unfold bestTo
    by_cases hl : lo ≤ k
    · rw [if_pos hl]
      obtain ⟨⟨i, a1, a2, a3⟩, a4⟩ := ih hl
      by_cases hb : h (bestTo h x lo k) (x (k + 1)) = true
      · rw [if_pos hb]
        refine ⟨⟨i, a1, by omega, a3⟩, fun t t1 t2 => ?_⟩
        rcases Nat.lt_succ_iff_lt_or_eq.1 (Nat.lt_succ_of_le t2) with ht | rfl
        · exact a4 t t1 (by omega)
        · rw [← Bool.not_eq_true]
          intro hc
          have := H.trans _ _ _ hb hc
          rw [H.irrefl] at this
          cases this
      · have hb' : h (bestTo h x lo k) (x (k + 1)) = false := by simpa using hb
        rw [if_neg hb]
        refine ⟨⟨k + 1, hk, Nat.le_refl _, rfl⟩, fun t t1 t2 => ?_⟩
        rcases Nat.lt_succ_iff_lt_or_eq.1 (Nat.lt_succ_of_le t2) with ht | rfl
        · exact H.neg _ _ _ (a4 t t1 (by omega)) hb'
        · exact H.irrefl _
    · rw [if_neg hl]
      refine ⟨⟨k + 1, hk, Nat.le_refl _, rfl⟩, fun t t1 t2 => ?_⟩
      obtain rfl : t = k + 1 := by omega
      exact H.irrefl _
theorem BestIn.lo {h : Int → Int → Bool} {x : Nat → Int} {lo lo' : Int} {k : Nat} {v : Int} (hv : BestIn h x lo k v) (hl : ∀ t : Nat, t ≤ k → (lo ≤ t ↔ lo' ≤ t)) : BestIn h x lo' k v := by
  obtain ⟨⟨i, a1, a2, a3⟩, a4⟩ := hv
  exact ⟨⟨i, (hl i a2).1 a1, a2, a3⟩, fun t t1 t2 => a4 t ((hl t t2).2 t1) t2⟩
theorem BestIn.congr {h : Int → Int → Bool} {x y : Nat → Int} {lo : Int} {k : Nat} {v : Int} (hv : BestIn h x lo k v) (hl : ∀ t : Nat, t ≤ k → x t = y t) : BestIn h y lo k v := by
  obtain ⟨⟨i, a1, a2, a3⟩, a4⟩ := hv
  exact ⟨⟨i, a1, a2, (hl i a2) ▸ a3⟩, fun t t1 t2 => (hl t t2) ▸ a4 t t1 t2⟩
/-- A deque of places: each is better than those behind it; whatever lies in the window has one behind it that is no worse. -/
structure DInv (h : Int → Int → Bool) (x : Nat → Int) (lo : Int) (n : Nat) (I : List Nat) : Prop where
  order : I.Pairwise fun i j => i < j ∧ h (x i) (x j) = true
  low : ∀ i ∈ I, lo ≤ i ∧ i < n
  cover : ∀ t : Nat, lo ≤ t → t < n → ∃ i ∈ I, t ≤ i ∧ h (x t) (x i) = false
/-- What is behind the place m goes; k comes. -/
theorem DInv.push {h : Int → Int → Bool} (H : Ord h) {x : Nat → Int} {lo : Int} {k : Nat} {I : List Nat} (d : DInv h x lo k I) (hlo : lo ≤ k) {m : Nat} (hm : m ≤ I.length)
    (hb : ∀ i, I[m - 1]? = some i → 0 < m → h (x i) (x k) = true) (hw : ∀ j i, m ≤ j → I[j]? = some i → h (x i) (x k) = false) : DInv h x lo (k + 1) (I.take m ++ [k]) := by
  have hall : ∀ i ∈ I.take m, h (x i) (x k) = true := by
    intro i hi
    obtain ⟨j, hj⟩ := List.getElem?_of_mem hi
    rw [List.getElem?_take] at hj
    split at hj
    · rename_i hjm
      have hlast : m - 1 < I.length := by omega
      have hl := hb (I[m - 1]) (List.getElem?_eq_getElem hlast) (by omega)
      by_cases hjl : j = m - 1
      · subst hjl
        rw [List.getElem?_eq_getElem hlast] at hj
        simp only [Option.some.injEq] at hj
        rw [← hj]
        exact hl
      · have hjlt : j < I.length := by omega
        have e := List.pairwise_iff_getElem.1 d.order j (m - 1) hjlt hlast (by omega)
        rw [List.getElem?_eq_getElem hjlt] at hj
        simp only [Option.some.injEq] at hj
        rw [← hj]
        exact H.trans _ _ _ e.2 hl
    · cases hj
  constructor
  · rw [List.pairwise_append]
    refine ⟨d.order.sublist (List.take_sublist _ _), List.pairwise_singleton _ _, fun i hi j hj => ?_⟩
    simp only [List.mem_singleton] at hj
    subst hj
    exact ⟨(d.low i (List.mem_of_mem_take hi)).2, hall i hi⟩
  · intro i hi
    rcases List.mem_append.1 hi with hi | hi
    · have := d.low i (List.mem_of_mem_take hi)
      exact ⟨this.1, by omega⟩
    · simp only [List.mem_singleton] at hi
      subst hi
      exact ⟨hlo, by omega⟩
  · intro t t1 t2
    rcases Nat.lt_succ_iff_lt_or_eq.1 t2 with ht | rfl
    · obtain ⟨i, hi, h1, h2⟩ := d.cover t t1 ht
      obtain ⟨j, hj⟩ := List.getElem?_of_mem hi
      by_cases hjm : j < m
      · refine ⟨i, List.mem_append_left _ ?_, h1, h2⟩
        apply List.mem_of_getElem? (i := j)
        rw [List.getElem?_take, if_pos hjm]
        exact hj
      · refine ⟨k, by simp, by omega, H.neg _ _ _ h2 (hw j i (by omega) hj)⟩
    · exact ⟨t, by simp, Nat.le_refl _, H.irrefl _⟩
/-- What lies below lo goes. -/
theorem DInv.old {h : Int → Int → Bool} {x : Nat → Int} {lo lo' : Int} {n : Nat} {I : List Nat} (d : DInv h x lo n I) (hl : lo ≤ lo') {m : Nat}
    (hd : ∀ j i, j < m → I[j]? = some i → (i : Int) < lo') (hk : ∀ i, I[m]? = some i → lo' ≤ i) : DInv h x lo' n (I.drop m) := by
  constructor
  · exact d.order.sublist (List.drop_sublist _ _)
  · intro i hi
    obtain ⟨j, hj⟩ := List.getElem?_of_mem hi
    rw [List.getElem?_drop] at hj
    have hlt : m + j < I.length := (List.getElem?_eq_some_iff.1 hj).1
    refine ⟨?_, (d.low i (List.mem_of_mem_drop hi)).2⟩
    have h0 := hk I[m] (List.getElem?_eq_getElem (by omega))
    rcases Nat.eq_zero_or_pos j with rfl | hj0
    · rw [Nat.add_zero, List.getElem?_eq_getElem (by omega)] at hj
      simp only [Option.some.injEq] at hj
      omega
    · have e := List.pairwise_iff_getElem.1 d.order m (m + j) (by omega) hlt (by omega)
      rw [List.getElem?_eq_getElem hlt] at hj
      simp only [Option.some.injEq] at hj
      omega
  · intro t t1 t2
    obtain ⟨i, hi, h1, h2⟩ := d.cover t (by omega) t2
    obtain ⟨j, hj⟩ := List.getElem?_of_mem hi
    by_cases hjm : j < m
    · have := hd j i hjm hj
      omega
    · refine ⟨i, ?_, h1, h2⟩
      apply List.mem_of_getElem? (i := j - m)
      rw [List.getElem?_drop, show m + (j - m) = j by omega]
      exact hj
/-! ### Parts -/
/-- Where the parts that still count begin, at k. -/
def partLo (part keep : Int) (k : Nat) : Int := part * ((k : Int) / part + 1 - keep)
/-- The base at k: the least from there on. -/
def baseOf (x : Nat → Int) (part keep : Int) (k : Nat) : Int := bestTo ltB x (partLo part keep k) k
theorem partLo_le {part keep : Int} (hp : 1 ≤ part) (hk : 1 ≤ keep) (k : Nat) : partLo part keep k ≤ k := by
  unfold partLo
  have h1 := Int.mul_ediv_self_le (x := (k : Int)) (k := part) (by omega)
  have h2 : part * ((k : Int) / part + 1 - keep) = part * ((k : Int) / part) - part * (keep - 1) := by
    rw [show (k : Int) / part + 1 - keep = (k : Int) / part - (keep - 1) by omega, Int.mul_sub]
  have h3 : 0 ≤ part * (keep - 1) := Int.mul_nonneg (by omega) (by omega)
  omega
theorem baseOf_spec {x : Nat → Int} {part keep : Int} (hp : 1 ≤ part) (hk : 1 ≤ keep) (k : Nat) : BestIn ltB x (partLo part keep k) k (baseOf x part keep k) := bestTo_spec ord_lt x _ k (partLo_le hp hk k)
end Go.Tide
/- Win0 -/
set_option linter.unusedVariables false
set_option linter.unusedSimpArgs false
namespace Go.Proofs.YtgmljgcmfooniaaGreatDoor
open Go.RowKit Go.Tide
set_option linter.unusedVariables false
set_option linter.unusedSimpArgs false
theorem wpList_append_at {P : Program} {ops : Array Oper} {rest : List Oper} {o : Oper} {a : Act} {w : World} {Q : Exit → Act → World → Prop} (hgd : o.guard = none) (s x : Operand) (t : TypeId)
    (ho : o.op = .call { callee := .builtin .append, args := #[s, x], argTypes := #[t, t] })
    (base : Nat) (e : TypeId) (i : TypeInfo) (z : Value) (bytes : Nat) (ht : P.underlying t = some (.slice e)) (hi : P.info? e = some i) (hz : i.zero = some z)
    (hsize : i.size = 1) (hby : i.bytes = bytes) (hzs : z.cells.size = 1)
    (v : Value) (n : Nat) (xs : List Value) (hs : a.eval s = v) (hown : w.ownsAt base e v n xs)
    (ad : Addr) (c : Nat) (y : Value) (hx : a.eval x = .slice (some ad) 1 c) (hy : w.cell? ad = some y) (h1 : y.oneCell' = true)
    (h63 : n + 1 ≤ maxLen) (hbytes : (n + 1) * bytes ≤ 140737488355328) (hbase : base ≤ w.heap.size)
    (h : ∀ g off cap w', w'.ownsAt base e (.slice (some ⟨g, off, none⟩) (n + 1) cap) (n + 1) (xs ++ [y]) → w.grownBy w' v.ownBlock → (v.ownBlock = some g ∨ g = w.heap.size) → g < w'.heap.size → wpList P ops Q rest (a.put o.dst (.slice (some ⟨g, off, none⟩) (n + 1) cap)) w') : wpList P ops Q (o :: rest) a w :=
  wpList_plain hgd fun _ hK => wp_append_at w s x t ho base e i z bytes ht hi hz hsize hby hzs v n xs hs hown ad c y hx hy h1 h63 hbytes hbase fun g off cap w' h2 h3 h4 h5 => hK _ _ (h g off cap w' h2 h3 h4 h5)

theorem Row.of_at {w : World} {base : Nat} {e : TypeId} {a : Option Addr} {n c : Nat} {f : Nat → Int} (h : w.ownsAt base e (.slice a n c) n (cellsOf n f)) : Row w a n f := by
  intro hn
  obtain ⟨g, off, cap, hv, _, _, _, hlt, hc⟩ := h.form hn
  have hA : a = some ⟨g, off, none⟩ := by injection hv
  subst hA
  exact ⟨g, off, rfl, hlt, fun k hk => hc k _ (cellsOf_get f hk)⟩

end Go.Proofs.YtgmljgcmfooniaaGreatDoor
/- Base -/
set_option linter.unusedVariables false
set_option linter.unusedSimpArgs false
namespace Go
theorem World.ownsAt.stored {w : World} {base : Nat} {e : TypeId} {g off n cap : Nat} {xs : List Value} (h : w.ownsAt base e (.slice (some ⟨g, off, none⟩) n cap) n xs) {j : Nat} (hj : j < n) (u : Value) :
    (w.setCell ⟨g, off + j, none⟩ u).ownsAt base e (.slice (some ⟨g, off, none⟩) n cap) n (xs.set j u) := by
  rcases h.2 with ⟨hv, _⟩ | ⟨g', off', cap', cur, hv, hb, hg, hc, hm, hs, ht⟩
  · cases hv
  · injection hv with h1 h2 h3
    injection h1 with h1
    injection h1 with h4 h5
    subst h4 h5 h3
    refine ⟨by rw [List.length_set]; exact h.1, .inr ⟨g, off, cap, cur.setIfInBounds (off + j) u, rfl, hb, ?_, hc, hm, by simpa using hs, ?_⟩⟩
    · simp [World.setCell, Array.getElem?_modify, hg]
    · rw [← ht]
      apply List.ext_getElem?
      intro k
      simp only [List.getElem?_take, List.getElem?_drop, Array.getElem?_toList, Array.getElem?_setIfInBounds, List.getElem?_set, List.length_take, List.length_drop, Array.length_toList]
      by_cases hk : k < n
      · simp only [if_pos hk]
        by_cases hkj : j = k
        · subst hkj
          rw [if_pos rfl, if_pos rfl, if_pos (by omega), if_pos (by omega)]
        · rw [if_neg (by omega), if_neg hkj]
      · simp only [if_neg hk]
        by_cases hkj : j = k
        · omega
        · rw [if_neg hkj]
theorem World.ownsAt.cellAt {w : World} {base : Nat} {e : TypeId} {g off n cap : Nat} {xs : List Value} (h : w.ownsAt base e (.slice (some ⟨g, off, none⟩) n cap) n xs) {k : Nat} {u : Value} (hk : xs[k]? = some u) : w.cell? ⟨g, off + k, none⟩ = some u := by
  have hn : 0 < n := by
    have := (List.getElem?_eq_some_iff.1 hk).1
    rw [h.1] at this
    omega
  obtain ⟨g', off', cap', hv, _, _, _, _, hc⟩ := h.form hn
  injection hv with h1 h2 h3
  injection h1 with h1
  injection h1 with h4 h5
  subst h4 h5
  exact hc k u hk
theorem World.ownsAt.frozenAt {w : World} {base : Nat} {e : TypeId} {g off n cap : Nat} {xs : List Value} (h : w.ownsAt base e (.slice (some ⟨g, off, none⟩) n cap) n xs) (k : Nat) : w.frozen? ⟨g, k, none⟩ = false := by
  rcases h.2 with ⟨hv, _⟩ | ⟨g', off', cap', cur, hv, hb, hg, hc, hm, hs, ht⟩
  · cases hv
  · injection hv with h1 h2 h3
    injection h1 with h1
    injection h1 with h4 h5
    subst h4 h5
    simp [World.frozen?, hg]
end Go
namespace Go.Tide
/-- P parts, each with its least one, when k have come. -/
structure BParts (x : Nat → Int) (part : Int) (k P : Nat) (f : Nat → Int) : Prop where
  many : ((P : Int) - 1) * part < k ∧ (k : Int) ≤ P * part
  some : ∀ p : Nat, p < P → ∃ i : Nat, part * p ≤ i ∧ (i : Int) < part * (p + 1) ∧ i < k ∧ f p = x i
  least : ∀ p i : Nat, p < P → part * p ≤ i → (i : Int) < part * (p + 1) → i < k → f p ≤ x i
theorem parts_zero (x : Nat → Int) {part : Int} (hp : 1 ≤ part) (f : Nat → Int) : BParts x part 0 0 f := by
  refine ⟨⟨by simp; omega, by simp⟩, fun p h => absurd h (by omega), fun p i h => absurd h (by omega)⟩
/-- The number with which the last part is told. -/
def setAt (f : Nat → Int) (j : Nat) (v : Int) (k : Nat) : Int := if k = j then v else f k
theorem cells_set (n j : Nat) (f : Nat → Int) (v : Int) (hj : j < n) : (cellsOf n f).set j (.int .i64 v) = cellsOf n (setAt f j v) := by
  apply List.ext_getElem?
  intro k
  rw [List.getElem?_set]
  by_cases hk : k < n
  · rw [cellsOf_get _ hk]
    by_cases hkj : j = k
    · subst hkj
      rw [if_pos rfl, if_pos (by rw [cellsOf_length]; exact hj), cellsOf_get _ hj]
      unfold setAt
      rw [if_pos rfl]
    · rw [if_neg hkj, cellsOf_get _ hk]
      unfold setAt
      rw [if_neg (Ne.symm hkj)]
  · by_cases hkj : j = k
    · omega
    · rw [if_neg hkj, List.getElem?_eq_none (by rw [cellsOf_length]; omega), List.getElem?_eq_none (by rw [cellsOf_length]; omega)]
theorem cells_snoc (n : Nat) (f : Nat → Int) (v : Int) : cellsOf n f ++ [.int .i64 v] = cellsOf (n + 1) (setAt f n v) := by
  have h : cellsOf n f = cellsOf n (setAt f n v) := cellsOf_congr fun k hk => by unfold setAt; rw [if_neg (by omega)]
  rw [cellsOf_succ, ← h]
  simp [setAt]
/-- How many parts there are. -/
theorem BParts.count {x : Nat → Int} {part : Int} {k P : Nat} {f : Nat → Int} (h : BParts x part (k + 1) P f) (hp : 1 ≤ part) : (P : Int) = (k : Int) / part + 1 := by
  have h1 := h.many
  have e1 : ((P : Int) - 1) * part ≤ k := by omega
  have e2 : (k : Int) < P * part := by omega
  have a1 : (P : Int) - 1 ≤ (k : Int) / part := (Int.le_ediv_iff_mul_le (by omega)).2 e1
  have a2 : (k : Int) / part < P := (Int.ediv_lt_iff_lt_mul (by omega)).2 e2
  omega
theorem parts_new {x : Nat → Int} {part : Int} {k P : Nat} {f : Nat → Int} (h : BParts x part k P f) (hp : 1 ≤ part) (hk : (k : Int) % part = 0) : BParts x part (k + 1) (P + 1) (setAt (setAt f P (x k)) P (x k)) := by
  have h1 := h.many
  have hkd : (k : Int) = P * part := by
    have hd := Int.mul_ediv_add_emod (k : Int) part
    rw [hk] at hd
    have a1 : (P : Int) - 1 < (k : Int) / part := by
      rw [← Int.not_le]
      intro hc
      have := Int.mul_le_mul_of_nonneg_left hc (show 0 ≤ part by omega)
      rw [Int.mul_comm part ((P : Int) - 1)] at this
      omega
    have a2 : (k : Int) / part ≤ P := by
      rw [← Int.not_lt]
      intro hc
      have := Int.mul_le_mul_of_nonneg_left (show (P : Int) + 1 ≤ (k : Int) / part by omega) (show 0 ≤ part by omega)
      rw [Int.mul_add, Int.mul_comm part (P : Int)] at this
      omega
    have : (k : Int) / part = P := by omega
    rw [this] at hd
    rw [Int.mul_comm]
    omega
  refine ⟨⟨?_, ?_⟩, fun p hpp => ?_, fun p i hpp l1 l2 l3 => ?_⟩
  · have : (((P + 1 : Nat) : Int) - 1) * part = P * part := by congr 1; omega
    omega
  · have : ((P + 1 : Nat) : Int) * part = P * part + part := by rw [Int.natCast_add, Int.add_mul]; omega
    omega
  · by_cases e : p = P
    · subst e
      refine ⟨k, by rw [Int.mul_comm]; omega, ?_, by omega, by simp [setAt]⟩
      rw [Int.mul_add, Int.mul_comm part]
      omega
    · obtain ⟨i, i1, i2, i3, i4⟩ := h.some p (by omega)
      exact ⟨i, i1, i2, by omega, by simp [setAt, e, i4]⟩
  · by_cases e : p = P
    · subst e
      have : i = k := by
        rw [Int.mul_comm] at l1
        omega
      subst this
      simp [setAt]
    · have hlt : i < k := by
        have := Int.mul_le_mul_of_nonneg_left (show ((p : Int) + 1) ≤ P by omega) (show 0 ≤ part by omega)
        rw [Int.mul_comm part (P : Int)] at this
        omega
      have := h.least p i (by omega) l1 l2 hlt
      simpa [setAt, e] using this
theorem parts_same {x : Nat → Int} {part : Int} {k P : Nat} {f : Nat → Int} (h : BParts x part k (P + 1) f) (hp : 1 ≤ part) (hk : (k : Int) % part ≠ 0) {v : Int} (hv : v = min (f P) (x k)) : BParts x part (k + 1) (P + 1) (setAt f P v) := by
  have h1 := h.many
  have hkd : (k : Int) < ((P + 1 : Nat) : Int) * part := by
    rcases Int.lt_or_eq_of_le h1.2 with hc | hc
    · exact hc
    · exfalso
      apply hk
      rw [hc]
      exact Int.mul_emod_left _ _
  have hP : (((P + 1 : Nat) : Int) - 1) * part = P * part := by congr 1; omega
  rw [hP] at h1
  have hP1 : ((P + 1 : Nat) : Int) * part = P * part + part := by rw [Int.natCast_add, Int.add_mul]; omega
  rw [hP1] at hkd
  have hPp : part * (P : Int) = P * part := Int.mul_comm _ _
  have hPq : part * ((P : Int) + 1) = P * part + part := by rw [Int.mul_add, Int.mul_comm]; omega
  refine ⟨⟨by rw [hP]; omega, by rw [hP1]; omega⟩, fun p hpp => ?_, fun p i hpp l1 l2 l3 => ?_⟩
  · by_cases e : p = P
    · subst e
      obtain ⟨i, i1, i2, i3, i4⟩ := h.some p (by omega)
      by_cases hc : f p ≤ x k
      · exact ⟨i, i1, i2, by omega, by simp [setAt]; omega⟩
      · exact ⟨k, by omega, by omega, by omega, by simp [setAt]; omega⟩
    · obtain ⟨i, i1, i2, i3, i4⟩ := h.some p (by omega)
      exact ⟨i, i1, i2, by omega, by simp [setAt, e, i4]⟩
  · by_cases e : p = P
    · subst e
      simp only [setAt, if_true]
      rcases Nat.lt_succ_iff_lt_or_eq.1 l3 with hl | rfl
      · have := h.least p i (by omega) l1 l2 hl
        omega
      · omega
    · have hlt : i < k := by
        have := Int.mul_le_mul_of_nonneg_left (show ((p : Int) + 1) ≤ P by omega) (show 0 ≤ part by omega)
        omega
      have := h.least p i (by omega) l1 l2 hlt
      simpa [setAt, e] using this
/-- The least of the parts that count is the base. -/
theorem BParts.base {x : Nat → Int} {part keep : Int} {k P lo : Nat} {f : Nat → Int} {m : Int} (h : BParts x part (k + 1) P f) (hp : 1 ≤ part) (hkp : 1 ≤ keep) (hlo : (lo : Int) = max 0 (P - keep)) (hm : IsMin (P - lo) (fun j => f (lo + j)) m) : m = baseOf x part keep k := by
  have hc := h.count hp
  refine BestIn.unique ord_lt (v := m) ?_ (baseOf_spec hp hkp k)
  have hll : part * (lo : Int) ≥ partLo part keep k := by
    unfold partLo
    exact Int.mul_le_mul_of_nonneg_left (by omega) (by omega)
  obtain ⟨⟨j, hj, hfj⟩, hle⟩ := hm
  refine ⟨?_, fun t t1 t2 => ?_⟩
  · obtain ⟨i, i1, i2, i3, i4⟩ := h.some (lo + j) (by omega)
    refine ⟨i, ?_, by omega, by rw [← i4]; exact hfj⟩
    have := Int.mul_le_mul_of_nonneg_left (show (lo : Int) ≤ ((lo + j : Nat) : Int) by omega) (show 0 ≤ part by omega)
    omega
  · rw [ltB_not]
    have d0 : 0 ≤ (t : Int) / part := Int.ediv_nonneg (by omega) (by omega)
    obtain ⟨p, hpt⟩ : ∃ p : Nat, (p : Int) = (t : Int) / part := ⟨((t : Int) / part).toNat, by omega⟩
    have d1 : (t : Int) / part ≤ (k : Int) / part := Int.ediv_le_ediv (by omega) (by omega)
    have d2 : (P : Int) - keep ≤ (t : Int) / part := by
      refine (Int.le_ediv_iff_mul_le (by omega)).2 ?_
      unfold partLo at t1
      rw [Int.mul_comm]
      have : (k : Int) / part + 1 - keep = P - keep := by omega
      rw [this] at t1
      exact t1
    have hpl : lo ≤ p := by omega
    have e1 := Int.mul_ediv_add_emod (t : Int) part
    have e2 := Int.emod_nonneg (t : Int) (show part ≠ 0 by omega)
    have e3 := Int.emod_lt_of_pos (t : Int) (show 0 < part by omega)
    rw [← hpt] at e1
    have h1 := h.least p t (by omega) (by omega) (by rw [Int.mul_add]; omega) (by omega)
    have h2 := hle (p - lo) (by omega)
    simp only [show lo + (p - lo) = p by omega] at h2
    omega
end Go.Tide
namespace Go.Proofs.YtgmljgcmfooniaaGreatDoor
open Go.RowKit Go.Tide
set_option linter.unusedVariables false
set_option linter.unusedSimpArgs false
set_option maxRecDepth 20000

theorem base_none (a : Option Addr) (n c : Nat) (part keep : Int) (hw : part < 1 ∨ keep < 1) (w : World) :
    Calls Tryz.prog 27 #[.slice a n c, .int .i64 part, .int .i64 keep] w fun e w' => e = .returned (.slice none 0 0) ∧ w = w' := by
  by_cases h1 : part < 1
  · have k1 : decide (part < 1) = true := by simpa using h1
    clear hw
    go_enter Tryz.func27, Tryz.ntmps27
    go_wp2
    go_ret
    exact ⟨rfl, rfl⟩
  · have h2 : keep < 1 := by omega
    have k1 : decide (part < 1) = false := by simpa using h1
    have k2 : decide (keep < 1) = true := by simpa using h2
    clear hw
    go_enter Tryz.func27, Tryz.ntmps27
    go_wp2
    go_ret
    exact ⟨rfl, rfl⟩

/-- What holds at each round's head of Base. -/
def Based (w : World) (x : Nat → Int) (part keep : Int) (k : Nat) (out parts : Value) (wr : World) : Prop :=
  (∃ P f, BParts x part k P f ∧ P ≤ k ∧ wr.ownsAt w.heap.size 3 parts P (cellsOf P f)) ∧
  wr.ownsAt w.heap.size 3 out k (cellsOf k (baseOf x part keep)) ∧ Below w.heap.size w wr ∧ Apart out parts

/-- Behind the parts' turn, ahead of the call of slices.Min. -/
structure BRdy (w W : World) (x : Nat → Int) (part keep : Int) (k : Nat) (out parts : Value) (P : Nat) (f : Nat → Int) : Prop where
  told : BParts x part (k + 1) P f
  le : P ≤ k + 1
  ownP : W.ownsAt w.heap.size 3 parts P (cellsOf P f)
  ownO : W.ownsAt w.heap.size 3 out k (cellsOf k (baseOf x part keep))
  below : Below w.heap.size w W
  apart : Apart out parts
theorem rdy_new {w wr w3 : World} {o : Obj} {x : Nat → Int} {part keep : Int} {k P g off cap : Nat} {out parts : Value} {f : Nat → Int} {y : Int} (hp : 1 ≤ part) (hP : BParts x part k P f) (hPk : P ≤ k) (hm : (k : Int) % part = 0) (hy : y = x k)
    (hown : wr.ownsAt w.heap.size 3 out k (cellsOf k (baseOf x part keep))) (hbe : Below w.heap.size w wr) (hap : Apart out parts) (hpr : wr.ownsAt w.heap.size 3 parts P (cellsOf P f))
    (hown3 : w3.ownsAt w.heap.size 3 (.slice (some ⟨g, off, none⟩) (P + 1) cap) (P + 1) (cellsOf P f ++ [.int .i64 y])) (hgrow : (wr.alloc o).grownBy w3 parts.ownBlock) (hlie : parts.ownBlock = some g ∨ g = (wr.alloc o).heap.size) :
    BRdy w (w3.setCell ⟨g, off + P, none⟩ (.int .i64 y)) x part keep k out (.slice (some ⟨g, off, none⟩) (P + 1) cap) (P + 1) (setAt (setAt f P y) P y) := by
  subst hy
  have hne : ∀ b, out.ownBlock = some b → b ≠ g := fun b hb e => by
    subst e
    rcases hlie with h | h
    · exact hap _ hb h
    · have := (hown.lt _ hb).2
      simp at h
      omega
  have hg : w.heap.size ≤ g := (hown3.lt g rfl).1
  refine ⟨parts_new hP hp hm, by omega, ?_, ?_, ?_, ?_⟩
  · rw [← cells_set _ _ _ _ (by omega), ← cells_snoc]
    exact hown3.stored (by omega) _
  · have h1 := (hown.alloc o).kept hgrow (by
      rcases hb : out.ownBlock with _ | b
      · exact .inl rfl
      · exact .inr fun e => hap b hb e.symm)
    exact h1.same fun b hb => Below.heap_setCell w3 _ _ b (hne b hb)
  · exact ((hbe.alloc hbe.size o).grown hgrow (by have := hbe.size; simp; omega) fun b hb => (hpr.lt b hb).1).setCell (p := ⟨g, off + P, none⟩) hg _
  · intro b hb e
    exact hne b hb (by simpa [Value.ownBlock] using e.symm)
theorem rdy_same {w wr : World} {x : Nat → Int} {part keep : Int} {k Q g off cap : Nat} {out : Value} {f : Nat → Int} {v : Int} (hp : 1 ≤ part) (hP : BParts x part k (Q + 1) f) (hPk : Q + 1 ≤ k) (hm : (k : Int) % part ≠ 0) (hv : v = min (f Q) (x k))
    (hown : wr.ownsAt w.heap.size 3 out k (cellsOf k (baseOf x part keep))) (hbe : Below w.heap.size w wr) (hap : Apart out (.slice (some ⟨g, off, none⟩) (Q + 1) cap))
    (hpr : wr.ownsAt w.heap.size 3 (.slice (some ⟨g, off, none⟩) (Q + 1) cap) (Q + 1) (cellsOf (Q + 1) f)) :
    BRdy w (wr.setCell ⟨g, off + Q, none⟩ (.int .i64 v)) x part keep k out (.slice (some ⟨g, off, none⟩) (Q + 1) cap) (Q + 1) (setAt f Q v) := by
  have hg : w.heap.size ≤ g := (hpr.lt g rfl).1
  refine ⟨parts_same hP hp hm hv, by omega, ?_, ?_, hbe.setCell (p := ⟨g, off + Q, none⟩) hg _, hap⟩
  · rw [← cells_set _ _ _ _ (by omega)]
    exact hpr.stored (by omega) _
  · exact hown.same fun b hb => Below.heap_setCell wr _ _ b (fun e => hap b hb (by rw [e]; rfl))
theorem Row.of_at_from {w : World} {base : Nat} {e : TypeId} {g off n cap : Nat} {f : Nat → Int} (h : w.ownsAt base e (.slice (some ⟨g, off, none⟩) n cap) n (cellsOf n f)) (lo : Nat) : Row w (some ⟨g, off + lo, none⟩) (n - lo) (fun j => f (lo + j)) := by
  intro hn
  refine ⟨g, off + lo, rfl, (h.lt g rfl).2, fun k hk => ?_⟩
  rw [Nat.add_assoc]
  exact h.cellAt (cellsOf_get f (by omega))
theorem based_step {w W w5 : World} {o : Obj} {x : Nat → Int} {part keep : Int} {k P lo g off cap : Nat} {out parts : Value} {f : Nat → Int} {m : Int} (hp : 1 ≤ part) (hk : 1 ≤ keep) (R : BRdy w W x part keep k out parts P f)
    (hlo : (lo : Int) = max 0 (P - keep)) (hm : IsMin (P - lo) (fun j => f (lo + j)) m)
    (hown5 : w5.ownsAt w.heap.size 3 (.slice (some ⟨g, off, none⟩) (k + 1) cap) (k + 1) (cellsOf k (baseOf x part keep) ++ [.int .i64 m])) (hgrow : (W.alloc o).grownBy w5 out.ownBlock) (hlie : out.ownBlock = some g ∨ g = (W.alloc o).heap.size) :
    Based w x part keep (k + 1) (.slice (some ⟨g, off, none⟩) (k + 1) cap) parts w5 := by
  have hmb := R.told.base hp hk hlo hm
  refine ⟨⟨P, f, R.told, R.le, ?_⟩, ?_, ?_, ?_⟩
  · refine (R.ownP.alloc o).kept hgrow ?_
    rcases hb : parts.ownBlock with _ | b
    · exact .inl rfl
    · exact .inr fun e => R.apart b e.symm hb
  · rw [cellsOf_succ, ← hmb]
    exact hown5
  · exact (R.below.alloc R.below.size o).grown hgrow (by have := R.below.size; simp; omega) fun b hb => (R.ownO.lt b hb).1
  · intro b hb e
    have e1 : g = b := by simpa [Value.ownBlock] using hb
    subst e1
    rcases hlie with h | h
    · exact R.apart _ h e
    · have := (R.ownP.lt _ e).2
      simp at h
      omega

set_option maxHeartbeats 1000000 in
theorem base_any (a : Option Addr) (n c : Nat) (x : Nat → Int) (w : World) (hx : Row w a n x) (hn : n ≤ 17592186044300) (part keep : Int) (hp : 1 ≤ part) (hpb : part ≤ 9223372036854775807) (hk : 1 ≤ keep) (hkb : keep ≤ 9223372036854775807) :
    Calls Tryz.prog 27 #[.slice a n c, .int .i64 part, .int .i64 keep] w fun e w' => ∃ a' c', e = .returned (.slice a' n c') ∧ n ≤ c' ∧ Row w' a' n (baseOf x part keep) ∧ Below w.heap.size w w' := by
  obtain ⟨i0_, hi, hz0, hz1, hz2⟩ := info_parts intInfo
  have hS : Based w x part keep 0 (.slice none 0 0) (.slice none 0 0) w := ⟨⟨0, fun _ => 0, parts_zero x hp _, Nat.le_refl _, ownsAt_nil _ _ _⟩, ownsAt_nil _ _ _, Below.refl _ _, fun g hg => by simp [Value.ownBlock] at hg⟩
  have kd1 : decide (part < 1) = false := by simp; omega
  have kd2 : decide (keep < 1) = false := by simp; omega
  go_enter Tryz.func27, Tryz.ntmps27
  go_wp2
  go_loopw [7, 8, 20] (fun out parts i wr => ∃ k : Nat, i = .int .i64 k ∧ k ≤ n ∧ Based w x part keep k out parts wr) (fun _ _ i _ => n - (intOf i).toNat)
  case atStart => exact ⟨0, rfl, Nat.zero_le _, hS⟩
  case round =>
    clear hS
    obtain ⟨k, rfl, hkn, ⟨P, f, hP, hPk, hpr⟩, hown, hbe, hap⟩ := hrel
    obtain ⟨ao, co, rfl, hco, hco'⟩ := hown.shape
    obtain ⟨ap, cp, rfl, hcp, hcp'⟩ := hpr.shape
    have hsz := hbe.size
    by_cases hlt : k < n
    · obtain ⟨b, off, y, rfl, hb, hc0, hy⟩ := (hx.below hbe (Nat.le_refl _)).at_ hlt
      have hc : wr.cell? ⟨b, off + k, none⟩ = some (.int .i64 y) := hc0
      have k0 : (0 : Int) ≤ (k : Int) := by omega
      have k1 : (k : Int) < (n : Int) := by omega
      have HP := Lib.hid hP
      by_cases hmod : (k : Int) % part = 0
      · have hm0 : ((k : Int) % part == 0) = true := by simpa using hmod
        have HM := Lib.hid hmod
        clear hmod hP
        obtain ⟨lo, hlT⟩ : ∃ lo : Nat, Hid ((lo : Int) = max 0 ((P : Int) + 1 - keep)) := ⟨(max 0 ((P : Int) + 1 - keep)).toNat, show _ = _ by omega⟩
        by_cases hkp : (P : Int) + 1 ≤ keep
        · have hlo0 : decide ((0 : Int) < (P : Int) + 1 - keep) = false := by simp; omega
          have hlo2 : lo < P + 1 := by have := hlT.out; omega
          go_wp2_with (at_builtin; refine wpList_append_at rfl (.tmp 29) (.tmp 31) 49 rfl w.heap.size 3 i0_ (.int .i64 0) 8 Tryz.underlying49 hi hz0 hz1 hz2 rfl (.slice ap P cp) P (cellsOf P f) rfl (hpr.alloc _) _ _ (.int .i64 y) rfl (Blk.cell (cs := #[.int .i64 y]) (t := 3) (by repeat (first | (with_reducible assumption) | ((with_reducible refine Blk.new' ?_); (simp [Nat.add_assoc]; done)) | (with_reducible refine Blk.alloc ?_ _) | (with_reducible refine Blk.more ?_ _ _) | (with_reducible refine Blk.drew ?_) | (with_reducible refine Blk.drewN ?_ _))) 0) rfl (by simp only [maxLen]; omega) (by omega) (by simp; omega) ?_; intro g3 o3 c3 w3 hown3 hgrow hlie hlt3; have hl3 : w3.cell? ⟨g3, o3 + P, none⟩ = some (.int .i64 y) := hown3.cellAt (by rw [List.getElem?_append_right (by rw [cellsOf_length]; exact Nat.le_refl _), cellsOf_length]; simp); have hf3 := hown3.frozenAt (o3 + P); obtain ⟨a3', c3', he3, hc3, hc3'⟩ := hown3.shape; injection he3 with he31 he32 he33; subst he33; clear he31 he32)
          obtain ⟨G, HR⟩ : ∃ G, Hid (BRdy w (w3.setCell ⟨g3, o3 + P, none⟩ (.int .i64 y)) x part keep k (.slice ao k co) (.slice (some ⟨g3, o3, none⟩) (P + 1) c3) (P + 1) G) := ⟨_, rdy_new hp HP.out hPk HM.out hy.out hown hbe hap hpr hown3 hgrow hlie⟩
          obtain rfl : lo = 0 := by have := hlT.out; omega
          refine (min_any _ (P + 1) _ G _ (Row.of_at HR.out.ownP) (by omega) (by omega)).mono ?_
          rintro e w4 ⟨mv, rfl, hmv, rfl⟩
          have HMV := Lib.hid hmv
          have hownW := HR.out.ownO
          have hszW := HR.out.below.size
          (try simp at hszW)
          clear hmv
          go_wp2_with (at_builtin; refine wpList_append_at rfl (.tmp 45) (.tmp 54) 49 rfl w.heap.size 3 i0_ (.int .i64 0) 8 Tryz.underlying49 hi hz0 hz1 hz2 rfl (.slice ao k co) k (cellsOf k (baseOf x part keep)) rfl (hownW.alloc _) _ _ (.int .i64 mv) rfl (Blk.cell (cs := #[.int .i64 mv]) (t := 3) (by repeat (first | (with_reducible assumption) | ((with_reducible refine Blk.new' ?_); (simp [Nat.add_assoc]; done)) | (with_reducible refine Blk.alloc ?_ _) | (with_reducible refine Blk.more ?_ _ _) | (with_reducible refine Blk.drew ?_) | (with_reducible refine Blk.drewN ?_ _))) 0) rfl (by simp only [maxLen]; omega) (by omega) (by simp; omega) ?_; intro g5 o5 c5 w5 hown5 hgrow5 hlie5 hlt5)
          go_roundw
          case rel => exact ⟨k + 1, by go_num, by omega, based_step (lo := 0) hp hk HR.out hlT.out (by simpa using HMV.out) hown5 hgrow5 hlie5⟩
          case measure => simp [intOf]; omega
        · have hlo0 : (P : Int) + 1 - keep = (lo : Int) := by have := hlT.out; omega
          have hlo1 : 0 < lo := by omega
          have hlo2 : lo < P + 1 := by omega
          go_wp2_with (at_builtin; refine wpList_append_at rfl (.tmp 29) (.tmp 31) 49 rfl w.heap.size 3 i0_ (.int .i64 0) 8 Tryz.underlying49 hi hz0 hz1 hz2 rfl (.slice ap P cp) P (cellsOf P f) rfl (hpr.alloc _) _ _ (.int .i64 y) rfl (Blk.cell (cs := #[.int .i64 y]) (t := 3) (by repeat (first | (with_reducible assumption) | ((with_reducible refine Blk.new' ?_); (simp [Nat.add_assoc]; done)) | (with_reducible refine Blk.alloc ?_ _) | (with_reducible refine Blk.more ?_ _ _) | (with_reducible refine Blk.drew ?_) | (with_reducible refine Blk.drewN ?_ _))) 0) rfl (by simp only [maxLen]; omega) (by omega) (by simp; omega) ?_; intro g3 o3 c3 w3 hown3 hgrow hlie hlt3; have hl3 : w3.cell? ⟨g3, o3 + P, none⟩ = some (.int .i64 y) := hown3.cellAt (by rw [List.getElem?_append_right (by rw [cellsOf_length]; exact Nat.le_refl _), cellsOf_length]; simp); have hf3 := hown3.frozenAt (o3 + P); obtain ⟨a3', c3', he3, hc3, hc3'⟩ := hown3.shape; injection he3 with he31 he32 he33; subst he33; clear he31 he32)
          obtain ⟨G, HR⟩ : ∃ G, Hid (BRdy w (w3.setCell ⟨g3, o3 + P, none⟩ (.int .i64 y)) x part keep k (.slice ao k co) (.slice (some ⟨g3, o3, none⟩) (P + 1) c3) (P + 1) G) := ⟨_, rdy_new hp HP.out hPk HM.out hy.out hown hbe hap hpr hown3 hgrow hlie⟩
          skip
          refine (min_any _ (P + 1 - lo) _ (fun j => G (lo + j)) _ (Row.of_at_from HR.out.ownP lo) (by omega) (by omega)).mono ?_
          rintro e w4 ⟨mv, rfl, hmv, rfl⟩
          have HMV := Lib.hid hmv
          have hownW := HR.out.ownO
          have hszW := HR.out.below.size
          (try simp at hszW)
          clear hmv
          go_wp2_with (at_builtin; refine wpList_append_at rfl (.tmp 45) (.tmp 54) 49 rfl w.heap.size 3 i0_ (.int .i64 0) 8 Tryz.underlying49 hi hz0 hz1 hz2 rfl (.slice ao k co) k (cellsOf k (baseOf x part keep)) rfl (hownW.alloc _) _ _ (.int .i64 mv) rfl (Blk.cell (cs := #[.int .i64 mv]) (t := 3) (by repeat (first | (with_reducible assumption) | ((with_reducible refine Blk.new' ?_); (simp [Nat.add_assoc]; done)) | (with_reducible refine Blk.alloc ?_ _) | (with_reducible refine Blk.more ?_ _ _) | (with_reducible refine Blk.drew ?_) | (with_reducible refine Blk.drewN ?_ _))) 0) rfl (by simp only [maxLen]; omega) (by omega) (by simp; omega) ?_; intro g5 o5 c5 w5 hown5 hgrow5 hlie5 hlt5)
          go_roundw
          case rel => exact ⟨k + 1, by go_num, by omega, based_step (lo := lo) hp hk HR.out hlT.out (by simpa using HMV.out) hown5 hgrow5 hlie5⟩
          case measure => simp [intOf]; omega
      · have hm0 : ((k : Int) % part == 0) = false := by simpa using hmod
        have HM := Lib.hid hmod
        have hP1 : 0 < P := by
          rcases Nat.eq_zero_or_pos P with h | h
          · subst h
            have := hP.many.2
            simp at this
            have hk0 : k = 0 := by omega
            subst hk0
            exact absurd (by simp) hmod
          · exact h
        obtain ⟨Q, rfl⟩ : ∃ Q, P = Q + 1 := ⟨P - 1, by omega⟩
        obtain ⟨gp, op, cp2, he, hcp3, hcp4, hgb, hgl, hcell⟩ := hpr.form (by omega)
        injection he with he1 he2 he3
        subst he1 he3
        obtain ⟨u, hu⟩ : ∃ u, Hid (u = f Q) := ⟨_, rfl⟩
        have hl3 : wr.cell? ⟨gp, op + Q, none⟩ = some (.int .i64 u) := by rw [hu.out]; exact hcell Q _ (cellsOf_get f (by omega))
        have hf3 := hpr.frozenAt (op + Q)
        clear hcell hmod hP hP1 he2
        by_cases hyu : y < u
        · have kyu : decide (y < u) = true := by simpa using hyu
          have hmin : y = min (f Q) (x k) := by rw [← hu.out, ← hy.out]; omega
          have HMI := Lib.hid hmin
          clear hmin
          obtain ⟨lo, hlT⟩ : ∃ lo : Nat, Hid ((lo : Int) = max 0 ((Q : Int) + 1 - keep)) := ⟨(max 0 ((Q : Int) + 1 - keep)).toNat, show _ = _ by omega⟩
          by_cases hkp : (Q : Int) + 1 ≤ keep
          · have hlo0 : decide ((0 : Int) < (Q : Int) + 1 - keep) = false := by simp; omega
            have hlo2 : lo < Q + 1 := by have := hlT.out; omega
            go_wp2_with fail
            obtain ⟨G, HR⟩ : ∃ G, Hid (BRdy w (wr.setCell ⟨gp, op + Q, none⟩ (.int .i64 y)) x part keep k (.slice ao k co) (.slice (some ⟨gp, op, none⟩) (Q + 1) cp) (Q + 1) G) := ⟨_, rdy_same hp HP.out hPk HM.out HMI.out hown hbe hap hpr⟩
            obtain rfl : lo = 0 := by have := hlT.out; omega
            refine (min_any _ (Q + 1) _ G _ (Row.of_at HR.out.ownP) (by omega) (by omega)).mono ?_
            rintro e w4 ⟨mv, rfl, hmv, rfl⟩
            have HMV := Lib.hid hmv
            have hownW := HR.out.ownO
            have hszW := HR.out.below.size
            (try simp at hszW)
            clear hmv
            go_wp2_with (at_builtin; refine wpList_append_at rfl (.tmp 45) (.tmp 54) 49 rfl w.heap.size 3 i0_ (.int .i64 0) 8 Tryz.underlying49 hi hz0 hz1 hz2 rfl (.slice ao k co) k (cellsOf k (baseOf x part keep)) rfl (hownW.alloc _) _ _ (.int .i64 mv) rfl (Blk.cell (cs := #[.int .i64 mv]) (t := 3) (by repeat (first | (with_reducible assumption) | ((with_reducible refine Blk.new' ?_); (simp [Nat.add_assoc]; done)) | (with_reducible refine Blk.alloc ?_ _) | (with_reducible refine Blk.more ?_ _ _) | (with_reducible refine Blk.drew ?_) | (with_reducible refine Blk.drewN ?_ _))) 0) rfl (by simp only [maxLen]; omega) (by omega) (by simp; omega) ?_; intro g5 o5 c5 w5 hown5 hgrow5 hlie5 hlt5)
            go_roundw
            case rel => exact ⟨k + 1, by go_num, by omega, based_step (lo := 0) hp hk HR.out hlT.out (by simpa using HMV.out) hown5 hgrow5 hlie5⟩
            case measure => simp [intOf]; omega
          · have hlo0 : (Q : Int) + 1 - keep = (lo : Int) := by have := hlT.out; omega
            have hlo1 : 0 < lo := by omega
            have hlo2 : lo < Q + 1 := by omega
            go_wp2_with fail
            obtain ⟨G, HR⟩ : ∃ G, Hid (BRdy w (wr.setCell ⟨gp, op + Q, none⟩ (.int .i64 y)) x part keep k (.slice ao k co) (.slice (some ⟨gp, op, none⟩) (Q + 1) cp) (Q + 1) G) := ⟨_, rdy_same hp HP.out hPk HM.out HMI.out hown hbe hap hpr⟩
            skip
            refine (min_any _ (Q + 1 - lo) _ (fun j => G (lo + j)) _ (Row.of_at_from HR.out.ownP lo) (by omega) (by omega)).mono ?_
            rintro e w4 ⟨mv, rfl, hmv, rfl⟩
            have HMV := Lib.hid hmv
            have hownW := HR.out.ownO
            have hszW := HR.out.below.size
            (try simp at hszW)
            clear hmv
            go_wp2_with (at_builtin; refine wpList_append_at rfl (.tmp 45) (.tmp 54) 49 rfl w.heap.size 3 i0_ (.int .i64 0) 8 Tryz.underlying49 hi hz0 hz1 hz2 rfl (.slice ao k co) k (cellsOf k (baseOf x part keep)) rfl (hownW.alloc _) _ _ (.int .i64 mv) rfl (Blk.cell (cs := #[.int .i64 mv]) (t := 3) (by repeat (first | (with_reducible assumption) | ((with_reducible refine Blk.new' ?_); (simp [Nat.add_assoc]; done)) | (with_reducible refine Blk.alloc ?_ _) | (with_reducible refine Blk.more ?_ _ _) | (with_reducible refine Blk.drew ?_) | (with_reducible refine Blk.drewN ?_ _))) 0) rfl (by simp only [maxLen]; omega) (by omega) (by simp; omega) ?_; intro g5 o5 c5 w5 hown5 hgrow5 hlie5 hlt5)
            go_roundw
            case rel => exact ⟨k + 1, by go_num, by omega, based_step (lo := lo) hp hk HR.out hlT.out (by simpa using HMV.out) hown5 hgrow5 hlie5⟩
            case measure => simp [intOf]; omega
        · have kyu : decide (y < u) = false := by simpa using hyu
          have hmin : u = min (f Q) (x k) := by rw [← hu.out, ← hy.out]; omega
          have HMI := Lib.hid hmin
          clear hmin
          obtain ⟨lo, hlT⟩ : ∃ lo : Nat, Hid ((lo : Int) = max 0 ((Q : Int) + 1 - keep)) := ⟨(max 0 ((Q : Int) + 1 - keep)).toNat, show _ = _ by omega⟩
          by_cases hkp : (Q : Int) + 1 ≤ keep
          · have hlo0 : decide ((0 : Int) < (Q : Int) + 1 - keep) = false := by simp; omega
            have hlo2 : lo < Q + 1 := by have := hlT.out; omega
            go_wp2_with fail
            obtain ⟨G, HR⟩ : ∃ G, Hid (BRdy w (wr.setCell ⟨gp, op + Q, none⟩ (.int .i64 u)) x part keep k (.slice ao k co) (.slice (some ⟨gp, op, none⟩) (Q + 1) cp) (Q + 1) G) := ⟨_, rdy_same hp HP.out hPk HM.out HMI.out hown hbe hap hpr⟩
            obtain rfl : lo = 0 := by have := hlT.out; omega
            refine (min_any _ (Q + 1) _ G _ (Row.of_at HR.out.ownP) (by omega) (by omega)).mono ?_
            rintro e w4 ⟨mv, rfl, hmv, rfl⟩
            have HMV := Lib.hid hmv
            have hownW := HR.out.ownO
            have hszW := HR.out.below.size
            (try simp at hszW)
            clear hmv
            go_wp2_with (at_builtin; refine wpList_append_at rfl (.tmp 45) (.tmp 54) 49 rfl w.heap.size 3 i0_ (.int .i64 0) 8 Tryz.underlying49 hi hz0 hz1 hz2 rfl (.slice ao k co) k (cellsOf k (baseOf x part keep)) rfl (hownW.alloc _) _ _ (.int .i64 mv) rfl (Blk.cell (cs := #[.int .i64 mv]) (t := 3) (by repeat (first | (with_reducible assumption) | ((with_reducible refine Blk.new' ?_); (simp [Nat.add_assoc]; done)) | (with_reducible refine Blk.alloc ?_ _) | (with_reducible refine Blk.more ?_ _ _) | (with_reducible refine Blk.drew ?_) | (with_reducible refine Blk.drewN ?_ _))) 0) rfl (by simp only [maxLen]; omega) (by omega) (by simp; omega) ?_; intro g5 o5 c5 w5 hown5 hgrow5 hlie5 hlt5)
            go_roundw
            case rel => exact ⟨k + 1, by go_num, by omega, based_step (lo := 0) hp hk HR.out hlT.out (by simpa using HMV.out) hown5 hgrow5 hlie5⟩
            case measure => simp [intOf]; omega
          · have hlo0 : (Q : Int) + 1 - keep = (lo : Int) := by have := hlT.out; omega
            have hlo1 : 0 < lo := by omega
            have hlo2 : lo < Q + 1 := by omega
            go_wp2_with fail
            obtain ⟨G, HR⟩ : ∃ G, Hid (BRdy w (wr.setCell ⟨gp, op + Q, none⟩ (.int .i64 u)) x part keep k (.slice ao k co) (.slice (some ⟨gp, op, none⟩) (Q + 1) cp) (Q + 1) G) := ⟨_, rdy_same hp HP.out hPk HM.out HMI.out hown hbe hap hpr⟩
            skip
            refine (min_any _ (Q + 1 - lo) _ (fun j => G (lo + j)) _ (Row.of_at_from HR.out.ownP lo) (by omega) (by omega)).mono ?_
            rintro e w4 ⟨mv, rfl, hmv, rfl⟩
            have HMV := Lib.hid hmv
            have hownW := HR.out.ownO
            have hszW := HR.out.below.size
            (try simp at hszW)
            clear hmv
            go_wp2_with (at_builtin; refine wpList_append_at rfl (.tmp 45) (.tmp 54) 49 rfl w.heap.size 3 i0_ (.int .i64 0) 8 Tryz.underlying49 hi hz0 hz1 hz2 rfl (.slice ao k co) k (cellsOf k (baseOf x part keep)) rfl (hownW.alloc _) _ _ (.int .i64 mv) rfl (Blk.cell (cs := #[.int .i64 mv]) (t := 3) (by repeat (first | (with_reducible assumption) | ((with_reducible refine Blk.new' ?_); (simp [Nat.add_assoc]; done)) | (with_reducible refine Blk.alloc ?_ _) | (with_reducible refine Blk.more ?_ _ _) | (with_reducible refine Blk.drew ?_) | (with_reducible refine Blk.drewN ?_ _))) 0) rfl (by simp only [maxLen]; omega) (by omega) (by simp; omega) ?_; intro g5 o5 c5 w5 hown5 hgrow5 hlie5 hlt5)
            go_roundw
            case rel => exact ⟨k + 1, by go_num, by omega, based_step (lo := lo) hp hk HR.out hlT.out (by simpa using HMV.out) hown5 hgrow5 hlie5⟩
            case measure => simp [intOf]; omega
    · obtain rfl : k = n := by omega
      go_wp2
      go_ret
      exact ⟨ao, co, rfl, hco, Row.of_at hown, hbe⟩
end Go.Proofs.YtgmljgcmfooniaaGreatDoor
/- Clock -/
set_option linter.unusedVariables false
set_option linter.unusedSimpArgs false
namespace Go.Tide
def pbad (x : Int) : Bool := decide (x < -1099511627776) || decide (1099511627776 < x)
/-- What clock.Right asks. -/
def PRight (n : Nat) (f : Nat → Nat → Int) : Prop := ∀ k, k < n → (-1099511627776 ≤ f k 0 ∧ f k 0 ≤ 1099511627776) ∧ (-1099511627776 ≤ f k 1 ∧ f k 1 ≤ 1099511627776)
noncomputable def pRight (n : Nat) (f : Nat → Nat → Int) : Bool := @decide (PRight n f) (Classical.propDecidable _)
theorem pRight_iff {n : Nat} {f : Nat → Nat → Int} : pRight n f = true ↔ PRight n f := by simp [pRight]
theorem pRight_true {n : Nat} {f : Nat → Nat → Int} (h : PRight n f) : pRight n f = true := pRight_iff.2 h
theorem pbad_iff {x : Int} : pbad x = false ↔ -1099511627776 ≤ x ∧ x ≤ 1099511627776 := by simp [pbad]
def pways (f : Nat → Nat → Int) (k : Nat) : Int := f k 1 - f k 0
def pwaits (f : Nat → Nat → Int) (part keep : Int) (k : Nat) : Int := pways f k - baseOf (pways f) part keep k
theorem pways_bounds {n : Nat} {f : Nat → Nat → Int} (h : PRight n f) {k : Nat} (hk : k < n) : -2199023255552 ≤ pways f k ∧ pways f k ≤ 2199023255552 := by
  have := h k hk
  unfold pways
  omega
theorem base_bounds {x : Nat → Int} {part keep : Int} {n k : Nat} {lo hi : Int} (hp : 1 ≤ part) (hk : 1 ≤ keep) (hkn : k < n) (hx : ∀ k, k < n → lo ≤ x k ∧ x k ≤ hi) : lo ≤ baseOf x part keep k ∧ baseOf x part keep k ≤ hi := by
  obtain ⟨⟨i, _, h2, h3⟩, _⟩ := baseOf_spec (x := x) hp hk k
  rw [← h3]
  exact hx i (by omega)
end Go.Tide
namespace Go.Proofs.YtgmljgcmfooniaaGreatDoor
open Go.RowKit Go.Tide
set_option linter.unusedVariables false
set_option linter.unusedSimpArgs false
set_option maxRecDepth 20000

theorem pbad_any (x : Int) (w : World) : Calls Tryz.prog 106 #[.int .i64 x] w fun e w' => e = .returned (.bool (pbad x)) ∧ w = w' := by
  go_enter Tryz.func106, Tryz.ntmps106
  go_wp2
  all_goals
    go_ret
    refine ⟨ret_bool_iff ?_, rfl⟩
    unfold pbad
    simp only [Bool.or_eq_true, decide_eq_true_eq, true_iff, iff_true, Bool.true_eq, Bool.false_eq_true] <;> omega

theorem plook_any (x y : Int) (H : Nat) (w : World) (hH : Blk w H 103 #[.func (.func 106) #[] #[]]) :
    Calls Tryz.prog 108 #[.agg #[.int .i64 x, .int .i64 y], .pointer (some ⟨H, 0, none⟩)] w fun e w' => e = .returned (.bool (pbad x || pbad y)) ∧ More w w' := by
  have hc := hH.cell 0
  have hl := hH.lt
  simp at hc
  by_cases hx : pbad x = true
  · go_enter Tryz.func108, Tryz.ntmps108
    go_wp2_with (go_at_call 106; refine (pbad_any _ _).mono ?_; rintro e w' ⟨rfl, rfl⟩)
    go_ret
    exact ⟨ret_bool (by rw [hx]; rfl), (by repeat (first | (with_reducible assumption) | (with_reducible exact More.refl _) | (with_reducible refine More.alloc ?_ _) | (with_reducible refine More.more ?_ _ _) | (with_reducible refine More.drewN ?_ _) | (with_reducible refine More.drew ?_)))⟩
  · have hx' : pbad x = false := by simpa using hx
    go_enter Tryz.func108, Tryz.ntmps108
    go_wp2_with (go_at_call 106; refine (pbad_any _ _).mono ?_; rintro e w' ⟨rfl, rfl⟩)
    go_ret
    exact ⟨ret_bool (by rw [hx']; rfl), (by repeat (first | (with_reducible assumption) | (with_reducible exact More.refl _) | (with_reducible refine More.alloc ?_ _) | (with_reducible refine More.more ?_ _ _) | (with_reducible refine More.drewN ?_ _) | (with_reducible refine More.drew ?_)))⟩

set_option maxHeartbeats 400000 in
theorem pindex_any (H : Nat) (a : Option Addr) (n c : Nat) (f : Nat → Nat → Int) (w : World) (hf : RowC w 2 a n f) (hH : Blk w H 103 #[.func (.func 106) #[] #[]]) (hn : n ≤ 1152921504606846976) :
    Calls Tryz.prog 128 #[.slice a n c, .func (.func 108) #[] #[.pointer (some ⟨H, 0, none⟩)]] w fun e w' => ∃ r : Int, e = .returned (.int .i64 r) ∧ (0 ≤ r ↔ ¬ PRight n f) ∧ More w w' := by
  go_enter Tryz.func128, Tryz.ntmps128
  go_wp2
  go_loopw [8] (fun i wr => ∃ (k : Nat) (os : Array Obj) (d : Nat), i = .int .i64 k ∧ k ≤ n ∧ wr = w.more os d ∧ Hid (PRight k f)) (fun i _ => n - (intOf i).toNat)
  case atStart => exact ⟨0, #[], w.drawn, rfl, Nat.zero_le _, by simp [World.more], fun j hj => absurd hj (by omega)⟩
  case round =>
    obtain ⟨k, os, d, rfl, hk, rfl, hall⟩ := hrel
    by_cases hlt : k < n
    · obtain ⟨b, off, x, y, rfl, hb, hcx, hcy, hx, hy⟩ := (hf.more os d).at2 hlt
      have hHm := hH.more os d
      by_cases hp : (pbad x || pbad y) = true
      · have HP := Lib.hid hp
        go_wp2_with fail
        refine (plook_any x y H _ hHm).mono ?_
        rintro e w1 ⟨rfl, os1, d1, rfl⟩
        rw [hp]
        go_wp2_with fail
        go_ret
        refine ⟨_, rfl, ⟨fun _ hc => ?_, fun _ => by omega⟩, (by repeat (first | (with_reducible assumption) | (with_reducible exact More.refl _) | (with_reducible refine More.alloc ?_ _) | (with_reducible refine More.more ?_ _ _) | (with_reducible refine More.drewN ?_ _) | (with_reducible refine More.drew ?_)))⟩
        have h1 := hc k hlt
        have h2 := HP.out
        rw [hx.out, hy.out, Bool.or_eq_true] at h2
        rcases h2 with h2 | h2
        · rw [pbad_iff.2 h1.1] at h2; cases h2
        · rw [pbad_iff.2 h1.2] at h2; cases h2
      · have hp' : (pbad x || pbad y) = false := by simpa using hp
        have HP := Lib.hid hp'
        clear hp hp'
        go_wp2_with fail
        refine (plook_any x y H _ hHm).mono ?_
        rintro e w1 ⟨rfl, os1, d1, rfl⟩
        rw [HP.out]
        go_wp2_with fail
        go_roundw
        case rel =>
          refine ⟨k + 1, os ++ os1, d1, by go_num, by omega, by simp [World.more], fun j hj => ?_⟩
          rcases Nat.lt_succ_iff_lt_or_eq.1 hj with h | h
          · exact hall.out j h
          · subst h
            have h2 := HP.out
            rw [Bool.or_eq_false_iff, hx.out, hy.out] at h2
            exact ⟨pbad_iff.1 h2.1, pbad_iff.1 h2.2⟩
        case measure => simp [intOf]; omega
    · obtain rfl : k = n := by omega
      go_wp2
      go_ret
      exact ⟨_, rfl, ⟨fun h => by omega, fun h => absurd hall.out h⟩, (by repeat (first | (with_reducible assumption) | (with_reducible exact More.refl _) | (with_reducible refine More.alloc ?_ _) | (with_reducible refine More.more ?_ _ _) | (with_reducible refine More.drewN ?_ _) | (with_reducible refine More.drew ?_)))⟩

theorem pcontains_any (H : Nat) (a : Option Addr) (n c : Nat) (f : Nat → Nat → Int) (w : World) (hf : RowC w 2 a n f) (hH : Blk w H 103 #[.func (.func 106) #[] #[]]) (hn : n ≤ 1152921504606846976) :
    Calls Tryz.prog 107 #[.slice a n c, .func (.func 108) #[] #[.pointer (some ⟨H, 0, none⟩)]] w fun e w' => e = .returned (.bool !(pRight n f)) ∧ More w w' := by
  go_enter Tryz.func107, Tryz.ntmps107
  go_wp2_with fail
  refine (pindex_any H a n c f _ hf hH hn).mono ?_
  rintro e w' ⟨r, rfl, hr, os, d, rfl⟩
  have HR := Lib.hid hr
  clear hr
  go_wp2
  go_ret
  refine ⟨ret_bool_iff ?_, (by repeat (first | (with_reducible assumption) | (with_reducible exact More.refl _) | (with_reducible refine More.alloc ?_ _) | (with_reducible refine More.more ?_ _ _) | (with_reducible refine More.drewN ?_ _) | (with_reducible refine More.drew ?_)))⟩
  rw [Bool.not_eq_true', ← Bool.not_eq_true, pRight_iff, ← HR.out]
  simp

theorem pright_any (a : Option Addr) (n c : Nat) (f : Nat → Nat → Int) (w : World) (hf : RowC w 2 a n f) (hn : n ≤ 1152921504606846976) :
    Calls Tryz.prog 76 #[.slice a n c] w fun e w' => e = .returned (.bool (pRight n f)) ∧ More w w' := by
  go_enter Tryz.func76, Tryz.ntmps76
  go_wp2_with fail
  refine (pcontains_any _ a n c f _ (hf.alloc _) (Blk.new _ _ _) hn).mono ?_
  rintro e w' ⟨rfl, os, d, rfl⟩
  go_wp2
  go_ret
  exact ⟨ret_bool (by simp), (by repeat (first | (with_reducible assumption) | (with_reducible exact More.refl _) | (with_reducible refine More.alloc ?_ _) | (with_reducible refine More.more ?_ _ _) | (with_reducible refine More.drewN ?_ _) | (with_reducible refine More.drew ?_)))⟩

set_option maxHeartbeats 1000000 in
theorem pways_any (a : Option Addr) (n c : Nat) (f : Nat → Nat → Int) (w : World) (hf : RowC w 2 a n f) (hn : n ≤ 17592186044300) (hr : PRight n f) :
    Calls Tryz.prog 51 #[.slice a n c] w fun e w' => ∃ a' c', e = .returned (.slice a' n c') ∧ n ≤ c' ∧ Row w' a' n (pways f) ∧ Below w.heap.size w w' := by
  obtain ⟨i0_, hi, hz0, hz1, hz2⟩ := info_parts intInfo
  have HR := Lib.hid (pRight_true hr)
  have HB := Lib.hid hr
  clear hr
  go_enter Tryz.func51, Tryz.ntmps51
  go_wp2_with fail
  refine (pright_any a n c f _ hf (by omega)).mono ?_
  rintro e w' ⟨rfl, os, d, rfl⟩
  rw [HR.out]
  go_wp2_with fail
  go_loopw [3, 11] (fun out i wr => ∃ k : Nat, i = .int .i64 k ∧ k ≤ n ∧ wr.ownsAt w.heap.size 3 out k (cellsOf k (pways f)) ∧ Below w.heap.size w wr) (fun _ i _ => n - (intOf i).toNat)
  case atStart => exact ⟨0, rfl, Nat.zero_le _, ownsAt_nil _ _ _, More.below (by repeat (first | (with_reducible assumption) | (with_reducible exact More.refl _) | (with_reducible refine More.alloc ?_ _) | (with_reducible refine More.more ?_ _ _) | (with_reducible refine More.drewN ?_ _) | (with_reducible refine More.drew ?_)))⟩
  case round =>
    obtain ⟨k, rfl, hk, hown, hbe⟩ := hrel
    obtain ⟨ao, co, rfl, hco, hco'⟩ := hown.shape
    have hsz := hbe.size
    by_cases hlt : k < n
    · obtain ⟨b, off, x, y, rfl, hb, hcx, hcy, hx, hy⟩ := (hf.below hbe (Nat.le_refl _)).at2 hlt
      have hxb := HB.out k hlt
      rw [← hx.out, ← hy.out] at hxb
      obtain ⟨⟨x1, x2⟩, y1, y2⟩ := hxb
      have HW : Hid (y - x = pways f k) := by rw [hx.out, hy.out]; exact rfl
      go_wp2_with (at_builtin; refine wpList_append_at rfl (.tmp 15) (.tmp 21) 49 rfl w.heap.size 3 i0_ (.int .i64 0) 8 Tryz.underlying49 hi hz0 hz1 hz2 rfl (.slice ao k co) k (cellsOf k (pways f)) rfl ((hown.alloc _).alloc _) _ _ (.int .i64 (y - x)) rfl (Blk.cell (cs := #[.int .i64 (y - x)]) (t := 3) (by repeat (first | (with_reducible assumption) | ((with_reducible refine Blk.new' ?_); (simp [Nat.add_assoc]; done)) | (with_reducible refine Blk.alloc ?_ _) | (with_reducible refine Blk.more ?_ _ _) | (with_reducible refine Blk.drew ?_) | (with_reducible refine Blk.drewN ?_ _))) 0) rfl (by simp only [maxLen]; omega) (by omega) (by simp; omega) ?_; intro g5 o5 c5 w5 hown5 hgrow5 hlie5 hlt5)
      go_roundw
      case rel => exact ⟨k + 1, by go_num, by omega, by rw [cellsOf_succ, ← HW.out]; exact hown5, (((hbe.alloc hsz _).alloc (by simp; omega) _).grown hgrow5 (by simp; omega) fun b hb => (hown.lt b hb).1)⟩
      case measure => simp [intOf]; omega
    · obtain rfl : k = n := by omega
      go_wp2
      go_ret
      exact ⟨ao, co, rfl, hco, Row.of_at hown, hbe⟩
end Go.Proofs.YtgmljgcmfooniaaGreatDoor
/- ClockW -/
set_option linter.unusedVariables false
set_option linter.unusedSimpArgs false
namespace Go.Proofs.YtgmljgcmfooniaaGreatDoor
open Go.RowKit Go.Tide
set_option linter.unusedVariables false
set_option linter.unusedSimpArgs false
set_option maxRecDepth 20000

set_option maxHeartbeats 1000000 in
theorem pwaits_any (a : Option Addr) (n c : Nat) (f : Nat → Nat → Int) (w : World) (hf : RowC w 2 a n f) (hn : n ≤ 17592186044300) (hr : PRight n f) (part keep : Int) (hp : 1 ≤ part) (hpb : part ≤ 9223372036854775807) (hk : 1 ≤ keep) (hkb : keep ≤ 9223372036854775807) :
    Calls Tryz.prog 25 #[.slice a n c, .int .i64 part, .int .i64 keep] w fun e w' => ∃ a' c', e = .returned (.slice a' n c') ∧ n ≤ c' ∧ Row w' a' n (pwaits f part keep) ∧ Below w.heap.size w w' := by
  obtain ⟨i0_, hi, hz0, hz1, hz2⟩ := info_parts intInfo
  have HB : Hid (∀ k, k < n → (-2199023255552 ≤ pways f k ∧ pways f k ≤ 2199023255552) ∧ -2199023255552 ≤ baseOf (pways f) part keep k ∧ baseOf (pways f) part keep k ≤ 2199023255552) := fun k h => ⟨pways_bounds hr h, base_bounds hp hk h fun j hj => pways_bounds hr hj⟩
  go_enter Tryz.func25, Tryz.ntmps25
  go_wp2_with fail
  refine (pways_any a n c f _ hf hn hr).mono ?_
  rintro e w1 ⟨a_1, c_1, rfl, hc_1, hr_1, hb_1⟩
  obtain ⟨os_1, d_1, rfl⟩ := More.of_below hb_1
  go_wp2_with fail
  refine (base_any _ n _ (pways f) _ (by repeat (first | (with_reducible assumption) | (with_reducible exact Row.nil) | (with_reducible apply Row.drewN) | (with_reducible apply Row.drew) | (with_reducible apply Row.more) | (with_reducible apply Row.alloc))) hn part keep hp hpb hk hkb).mono ?_
  rintro e w1 ⟨a_2, c_2, rfl, hc_2, hr_2, hb_2⟩
  obtain ⟨os_2, d_2, rfl⟩ := More.of_below hb_2
  have hmz : More w ((w.more os_1 d_1).more os_2 d_2) := (by repeat (first | (with_reducible assumption) | (with_reducible exact More.refl _) | (with_reducible refine More.alloc ?_ _) | (with_reducible refine More.more ?_ _ _) | (with_reducible refine More.drewN ?_ _) | (with_reducible refine More.drew ?_)))
  have hWz : Row ((w.more os_1 d_1).more os_2 d_2) a_1 n (pways f) := (by repeat (first | (with_reducible assumption) | (with_reducible exact Row.nil) | (with_reducible apply Row.drewN) | (with_reducible apply Row.drew) | (with_reducible apply Row.more) | (with_reducible apply Row.alloc)))
  have hBz : Row ((w.more os_1 d_1).more os_2 d_2) a_2 n (baseOf (pways f) part keep) := (by repeat (first | (with_reducible assumption) | (with_reducible exact Row.nil) | (with_reducible apply Row.drewN) | (with_reducible apply Row.drew) | (with_reducible apply Row.more) | (with_reducible apply Row.alloc)))
  clear hr_1 hr_2 hb_1 hb_2
  generalize (w.more os_1 d_1).more os_2 d_2 = wz at *
  have hbz := hmz.below
  go_wp2_with fail
  go_loopw [8, 18] (fun out i wr => ∃ k : Nat, i = .int .i64 k ∧ k ≤ n ∧ wr.ownsAt wz.heap.size 3 out k (cellsOf k (pwaits f part keep)) ∧ Below wz.heap.size wz wr) (fun _ i _ => n - (intOf i).toNat)
  case atStart => exact ⟨0, rfl, Nat.zero_le _, ownsAt_nil _ _ _, Below.refl _ _⟩
  case round =>
    obtain ⟨k, rfl, hk', hown, hbe⟩ := hrel
    obtain ⟨ao, co, rfl, hco, hco'⟩ := hown.shape
    have hsz := hbe.size
    by_cases hlt : k < n
    · obtain ⟨b1, o1, x, rfl, hb1, hc1, hx⟩ := (hWz.below hbe (Nat.le_refl _)).at_ hlt
      obtain ⟨b2, o2, y, rfl, hb2, hc2, hy⟩ := (hBz.below hbe (Nat.le_refl _)).at_ hlt
      have hxb := HB.out k hlt
      rw [← hx.out, ← hy.out] at hxb
      obtain ⟨⟨x1, x2⟩, y1, y2⟩ := hxb
      have HW : Hid (x - y = pwaits f part keep k) := by rw [hx.out, hy.out]; exact rfl
      go_wp2_with (at_builtin; refine wpList_append_at rfl (.tmp 23) (.tmp 30) 49 rfl wz.heap.size 3 i0_ (.int .i64 0) 8 Tryz.underlying49 hi hz0 hz1 hz2 rfl (.slice ao k co) k (cellsOf k (pwaits f part keep)) rfl (hown.alloc _) _ _ (.int .i64 (x - y)) rfl (Blk.cell (cs := #[.int .i64 (x - y)]) (t := 3) (by repeat (first | (with_reducible assumption) | ((with_reducible refine Blk.new' ?_); (simp [Nat.add_assoc]; done)) | (with_reducible refine Blk.alloc ?_ _) | (with_reducible refine Blk.more ?_ _ _) | (with_reducible refine Blk.drew ?_) | (with_reducible refine Blk.drewN ?_ _))) 0) rfl (by simp only [maxLen]; omega) (by omega) (by simp; omega) ?_; intro g5 o5 c5 w5 hown5 hgrow5 hlie5 hlt5)
      go_roundw
      case rel => exact ⟨k + 1, by go_num, by omega, by rw [cellsOf_succ, ← HW.out]; exact hown5, ((hbe.alloc hsz _).grown hgrow5 (by simp; omega) fun b hb => (hown.lt b hb).1)⟩
      case measure => simp [intOf]; omega
    · obtain rfl : k = n := by omega
      have hs0 := hbz.size
      go_wp2
      go_ret
      exact ⟨ao, co, rfl, hco, Row.of_at hown, hbz.trans (hbe.mono hs0)⟩

set_option maxHeartbeats 400000 in
theorem pwaits_off (a : Option Addr) (n c : Nat) (f : Nat → Nat → Int) (w : World) (hf : RowC w 2 a n f) (hn : n ≤ 17592186044300) (hr : PRight n f) (part keep : Int) (hp : part < 1 ∨ keep < 1) :
    Calls Tryz.prog 25 #[.slice a n c, .int .i64 part, .int .i64 keep] w fun e w' => e = .returned (.slice none 0 0) ∧ More w w' := by
  go_enter Tryz.func25, Tryz.ntmps25
  go_wp2_with fail
  refine (pways_any a n c f _ hf hn hr).mono ?_
  rintro e w1 ⟨a_1, c_1, rfl, hc_1, hr_1, hb_1⟩
  obtain ⟨os_1, d_1, rfl⟩ := More.of_below hb_1
  have HP := Lib.hid hp
  clear hp hb_1 hr_1
  go_wp2_with fail
  refine (base_none _ _ _ part keep HP.out _).mono ?_
  rintro e w1 ⟨rfl, rfl⟩
  go_wp2_with fail
  have hmz : More w (w.more os_1 d_1) := (by repeat (first | (with_reducible assumption) | (with_reducible exact More.refl _) | (with_reducible refine More.alloc ?_ _) | (with_reducible refine More.more ?_ _ _) | (with_reducible refine More.drewN ?_ _) | (with_reducible refine More.drew ?_)))
  generalize w.more os_1 d_1 = wz at *
  go_loopw [8, 18] (fun out i wr => out = .slice none 0 0 ∧ i = .int .i64 0 ∧ wr = wz) (fun _ i _ => 0)
  case atStart => exact ⟨rfl, rfl, rfl⟩
  case round =>
    obtain ⟨rfl, rfl, rfl⟩ := hrel
    go_wp2
    go_ret
    exact ⟨rfl, hmz⟩

end Go.Proofs.YtgmljgcmfooniaaGreatDoor
/- Jitter -/
namespace Go.Tide
/-- What jitter.Right asks. -/
def JRight (n m : Nat) (f g : Nat → Int) : Prop := n = m ∧ AllIn n f 0 1099511627776 ∧ AllIn m g 0 1099511627776 ∧ Sorted n f
noncomputable def jRight (n m : Nat) (f g : Nat → Int) : Bool := @decide (JRight n m f g) (Classical.propDecidable _)
theorem jRight_iff {n m : Nat} {f g : Nat → Int} : jRight n m f g = true ↔ JRight n m f g := by simp [jRight]
/-- When packet k comes. -/
def jPass (f g : Nat → Int) : Nat → Int
  | 0 => max 0 (f 0 + g 0)
  | k + 1 => max (jPass f g k) (f (k + 1) + g (k + 1))
def jLast (f g : Nat → Int) : Nat → Int
  | 0 => 0
  | k + 1 => jPass f g k
theorem jPass_eq (f g : Nat → Int) (k : Nat) : jPass f g k = max (jLast f g k) (f k + g k) := by cases k <;> rfl
theorem jLast_bounds {n : Nat} {f g : Nat → Int} (hf : AllIn n f 0 1099511627776) (hg : AllIn n g 0 1099511627776) : ∀ k, k ≤ n → 0 ≤ jLast f g k ∧ jLast f g k ≤ 2199023255552 := by
  intro k
  induction k with
  | zero => intro _; simp only [jLast]; omega
  | succ k ih =>
    intro hk
    have h1 := ih (by omega)
    have h2 := hf k (by omega)
    have h3 := hg k (by omega)
    show 0 ≤ jPass f g k ∧ jPass f g k ≤ 2199023255552
    rw [jPass_eq]
    omega
end Go.Tide
namespace Go.Proofs.YtgmljgcmfooniaaGreatDoor
open Go.RowKit Go.Tide
set_option linter.unusedVariables false
set_option linter.unusedSimpArgs false
set_option maxRecDepth 20000

theorem jbad_looks : Looks 49 (fun x => decide (x < 0) || decide (1099511627776 < x)) := by
  refine ⟨fun x w => ?_, fun _ _ => rfl⟩
  go_enter Tryz.func49, Tryz.ntmps49
  go_wp2
  all_goals
    go_ret
    refine ⟨ret_bool_iff ?_, rfl⟩
    simp only [Bool.or_eq_true, decide_eq_true_eq, true_iff, iff_true, Bool.true_eq, Bool.false_eq_true] <;> omega

theorem jsmall_any (a : Option Addr) (n c : Nat) (f : Nat → Int) (w : World) (hf : Row w a n f) (hn : n ≤ 1152921504606846976) :
    Calls Tryz.prog 47 #[.slice a n c] w fun e w' => e = .returned (.bool (allIn n f 0 1099511627776)) ∧ w = w' := by
  go_enter Tryz.func47, Tryz.ntmps47
  go_wp2_with fail
  refine (contains_any _ _ jbad_looks a n c f _ hf hn).mono ?_
  rintro e w' ⟨rfl, rfl⟩
  go_wp2
  go_ret
  exact ⟨ret_bool not_someIn, rfl⟩

set_option maxHeartbeats 400000 in
theorem jright_any (a b : Option Addr) (n m c d : Nat) (f g : Nat → Int) (w : World) (hf : Row w a n f) (hg : Row w b m g) (hn : n ≤ 1152921504606846976) (hm : m ≤ 1152921504606846976) :
    Calls Tryz.prog 22 #[.slice a n c, .slice b m d] w fun e w' => e = .returned (.bool (jRight n m f g)) ∧ More w w' := by
  go_enter Tryz.func22, Tryz.ntmps22
  go_wp2_with (first
    | (with_reducible refine (jsmall_any a n c f _ hf hn).mono ?_; rintro e w' ⟨rfl, rfl⟩)
    | (with_reducible refine (jsmall_any b m d g _ hg hm).mono ?_; rintro e w' ⟨rfl, rfl⟩)
    | (go_at_call 50; refine (issorted_any a n c f _ hf hn).mono ?_; rintro e w' ⟨rfl, os, dr, rfl⟩))
  all_goals
    go_ret
    refine ⟨ret_bool_iff ?_, (by repeat (first | (with_reducible exact More.refl _) | (with_reducible refine More.alloc ?_ _) | (with_reducible refine More.more ?_ _ _) | (with_reducible refine More.drewN ?_ _) | (with_reducible refine More.drew ?_)))⟩
    clear hf hg hn hm
    rw [jRight_iff]
    simp_all [JRight, allIn_iff, sorted_iff]
    try omega

theorem jpass_none (a b : Option Addr) (n m c d : Nat) (f g : Nat → Int) (w : World) (hf : Row w a n f) (hg : Row w b m g) (hn : n ≤ 1152921504606846976) (hm : m ≤ 1152921504606846976) (hr : jRight n m f g = false) :
    Calls Tryz.prog 21 #[.slice a n c, .slice b m d] w fun e w' => e = .returned (.slice none 0 0) ∧ More w w' := by
  go_enter Tryz.func21, Tryz.ntmps21
  go_wp2_with (go_at_call 22; refine (jright_any a b n m c d f g _ hf hg hn hm).mono ?_; rintro e w' ⟨rfl, os, dr, rfl⟩)
  go_ret
  exact ⟨rfl, (by repeat (first | (with_reducible exact More.refl _) | (with_reducible refine More.alloc ?_ _) | (with_reducible refine More.more ?_ _ _) | (with_reducible refine More.drewN ?_ _) | (with_reducible refine More.drew ?_)))⟩

set_option maxHeartbeats 1000000 in
theorem jpass_any (a b : Option Addr) (n c d : Nat) (f g : Nat → Int) (w : World) (hf : Row w a n f) (hg : Row w b n g) (hn : n ≤ 17592186044416) (hr : JRight n n f g) :
    Calls Tryz.prog 21 #[.slice a n c, .slice b n d] w fun e w' => ∃ a' c', e = .returned (.slice a' n c') ∧ n ≤ c' ∧ Row w' a' n (jPass f g) ∧ Below w.heap.size w w' := by
  have hr' : jRight n n f g = true := jRight_iff.2 hr
  obtain ⟨_, hr1, hr2, _⟩ := hr
  have HB := Lib.hid (jLast_bounds hr1 hr2)
  have HR1 := Lib.hid hr1
  have HR2 := Lib.hid hr2
  clear hr1 hr2
  obtain ⟨i0, hi, hz0, hz1, hz2⟩ := info_parts intInfo
  go_enter Tryz.func21, Tryz.ntmps21
  go_wp2_with (go_at_call 22; refine (jright_any a b n n c d f g _ hf hg (by omega) (by omega)).mono ?_; rintro e w' ⟨rfl, os, dr, rfl⟩)
  have hb0 := (Below.refl w.heap.size w).more (Nat.le_refl _) os dr
  generalize w.more os dr = w0 at *
  go_loopw [5, 6, 15] (fun out last i wr => ∃ k : Nat, i = .int .i64 k ∧ k ≤ n ∧ last = .int .i64 (jLast f g k) ∧ wr.ownsRow w0.heap.size 3 1 out k (cellsOf k (jPass f g)) ∧ Below w0.heap.size w0 wr) (fun _ _ i _ => n - (intOf i).toNat)
  case atStart => exact ⟨0, rfl, Nat.zero_le _, rfl, World.ownsRow_nil _ _ _ _, Below.refl _ _⟩
  case round =>
    obtain ⟨k, rfl, hk, rfl, hown, hbe⟩ := hrel
    have hsz := hbe.size
    by_cases hlt : k < n
    · obtain ⟨b1, o1, x, rfl, hb1, hc1, hx⟩ := ((hf.below hb0 (Nat.le_refl _)).below hbe (Nat.le_refl _)).at_ hlt
      obtain ⟨b2, o2, y, rfl, hb2, hc2, hy⟩ := ((hg.below hb0 (Nat.le_refl _)).below hbe (Nat.le_refl _)).at_ hlt
      have hl := HB.out k hk
      have hxb : 0 ≤ x ∧ x ≤ 1099511627776 := by rw [hx.out]; exact HR1.out k hlt
      have hyb : 0 ≤ y ∧ y ≤ 1099511627776 := by rw [hy.out]; exact HR2.out k hlt
      have hnew : Hid (jPass f g k = max (jLast f g k) (x + y)) := by show _ = _; rw [hx.out, hy.out]; exact jPass_eq f g k
      generalize jLast f g k = L at *
      obtain ⟨l0, l1⟩ := hl
      obtain ⟨x0, x1⟩ := hxb
      obtain ⟨y0, y1⟩ := hyb
      go_wp2_with (at_builtin; refine wpList_append_own _ rfl _ _ 49 rfl _ 3 i0 (.int .i64 0) 1 8 Tryz.underlying49 hi hz0 hz1 hz2 rfl (by decide) _ _ _ rfl (hown.alloc _) _ _ _ [.int .i64 _] rfl rfl (cell_one _ _ _) (oneCell_int _ _) (by simp only [maxLen]; omega) (by omega) (by simp; omega) ?_; intro v' w1 hown' hgrow hnil; clear hnil)
      all_goals
        go_roundw
        case rel =>
          refine ⟨k + 1, by go_num, by omega, ?_, ?_, below_append hbe hsz hown hgrow⟩
          · show _ = Value.int .i64 (jPass f g k)
            rw [hnew.out]
            congr 1
            omega
          · rw [cellsOf_succ]
            have hv := hnew.out
            first
              | (rw [show jPass f g k = if L < x + y then x + y else L by omega]; exact hown')
              | (rw [show jPass f g k = x + y by omega]; exact hown')
              | (rw [show jPass f g k = L by omega]; exact hown')
        case measure => simp [intOf]; omega
    · obtain rfl : k = n := by omega
      obtain ⟨a', c', hv, hc'⟩ := own_slice hown
      subst hv
      go_wp2
      go_ret
      exact ⟨a', c', rfl, hc', Row.of_own hown, hb0.trans (hbe.mono hb0.size)⟩

set_option maxHeartbeats 1000000 in
theorem jdelays_any (a b : Option Addr) (n m c d : Nat) (f g : Nat → Int) (w : World) (hf : Row w a n f) (hg : Row w b m g) (hn : n ≤ 17592186044416) (hm : m ≤ 17592186044416)
    (hF : AllIn n f (-2305843009213693952) 2305843009213693952) (hG : AllIn m g (-2305843009213693952) 2305843009213693952) :
    Calls Tryz.prog 26 #[.slice a n c, .slice b m d] w fun e w' => ∃ a' c', e = .returned (.slice a' (min n m) c') ∧ min n m ≤ c' ∧ Row w' a' (min n m) (fun k => g k - f k) ∧ Below w.heap.size w w' := by
  have HF := Lib.hid hF
  have HG := Lib.hid hG
  clear hF hG
  obtain ⟨i0, hi, hz0, hz1, hz2⟩ := info_parts intInfo
  have hmin : (if m < n then (m : Int) else (n : Int)) = ((min n m : Nat) : Int) := by split <;> omega
  obtain ⟨q, hq⟩ : ∃ q, Hid (min n m = q) := ⟨_, rfl⟩
  rw [hq.out] at hmin ⊢
  have hqn : q ≤ n := by have := hq.out; omega
  have hqm : q ≤ m := by have := hq.out; omega
  go_enter Tryz.func26, Tryz.ntmps26
  go_wp2
  go_loopw [5, 12] (fun out i wr => ∃ k : Nat, i = .int .i64 k ∧ k ≤ q ∧ wr.ownsRow w.heap.size 3 1 out k (cellsOf k (fun k => g k - f k)) ∧ Below w.heap.size w wr) (fun _ i _ => q - (intOf i).toNat)
  case atStart => exact ⟨0, rfl, Nat.zero_le _, World.ownsRow_nil _ _ _ _, Below.refl _ _⟩
  case round =>
    obtain ⟨k, rfl, hk, hown, hbe⟩ := hrel
    have hsz := hbe.size
    by_cases hlt : k < q
    · obtain ⟨b1, o1, x, rfl, hb1, hc1', hx⟩ := hf.at_ (show k < n by omega)
      obtain ⟨b2, o2, y, rfl, hb2, hc2', hy⟩ := hg.at_ (show k < m by omega)
      have hc1 : wr.cell? ⟨b1, o1 + k, none⟩ = some (.int .i64 x) := (hbe.cell (p := ⟨b1, o1 + k, none⟩) hb1).trans hc1'
      have hc2 : wr.cell? ⟨b2, o2 + k, none⟩ = some (.int .i64 y) := (hbe.cell (p := ⟨b2, o2 + k, none⟩) hb2).trans hc2'
      have ha1 := own_ne hown hb1
      have ha2 := own_ne hown hb2
      clear hc1' hc2'
      have hxb := HF.out k (by omega)
      have hyb := HG.out k (by omega)
      rw [← hx.out] at hxb
      rw [← hy.out] at hyb
      obtain ⟨x0, x1⟩ := hxb
      obtain ⟨y0, y1⟩ := hyb
      have hw1 : IntKind.i64.wrap (y - x) = y - x := IntWalk.i64_in _ (by omega)
      have k0 : (0 : Int) ≤ (k : Int) := Int.natCast_nonneg _
      have k1 : (k : Int) < (n : Int) := by omega
      have k2 : (k : Int) < (m : Int) := by omega
      go_wp2
      go_region_held3 (fun w' => w'.cell? ⟨b1, o1 + k, none⟩ = some (.int .i64 x) ∧ w'.cell? ⟨b2, o2 + k, none⟩ = some (.int .i64 y))
        (first
          | go_keep
          | (go_split_ands
             refine ⟨?_, ?_⟩
             · (rw [hgrow.cell_far ⟨b1, o1 + k, none⟩ (by simp; omega) ha1.symm]; assumption)
             · (rw [hgrow.cell_far ⟨b2, o2 + k, none⟩ (by simp; omega) ha2.symm]; assumption)))
        ((refine step_append_lies _ (by rfl) _ _ _ (by rfl) _ 3 i0 _ 1 8 Tryz.underlying49 hi hz0 hz1 hz2 rfl (by omega) _ _ _ (by rfl) ((hown.alloc _).drew) ⟨wr.heap.size, 0, none⟩ 1 1 [.int .i64 (y - x)] (by rfl) (by rfl) (World.news_of_block (cs := #[.int .i64 (y - x)]) (t := 3) (fr := (0, 0)) (heap_alloc_new wr _)) (by simp [Value.oneCell']) (by omega) (by simp only [maxLen]; omega) (by omega) (by simp; omega) (wr.heap.size + 1) (by simp) ?_; intro gg cap w1 hown' hgrow hat hlt0))
      go_wp2
      go_roundw
      case rel =>
        refine ⟨k + 1, by go_num, by omega, ?_, below_appendd hbe hsz hown hgrow⟩
        rw [cellsOf_succ, show g k - f k = y - x by rw [hx.out, hy.out]]
        exact hown'
      case measure => simp [intOf]; omega
    · obtain rfl : k = q := by omega
      obtain ⟨a', c', hv, hc'⟩ := own_slice hown
      subst hv
      go_wp2
      go_ret
      exact ⟨a', c', rfl, hc', Row.of_own hown, hbe⟩
end Go.Proofs.YtgmljgcmfooniaaGreatDoor
/- Clone -/
set_option linter.unusedVariables false
set_option linter.unusedSimpArgs false
namespace Go.Proofs.YtgmljgcmfooniaaGreatDoor
open Go.RowKit Go.Tide
set_option linter.unusedVariables false
set_option linter.unusedSimpArgs false
set_option maxRecDepth 20000

theorem cellsOf_one (n : Nat) (f : Nat → Int) : ∀ u ∈ cellsOf n f, u.oneCell' = true := by
  intro u hu
  simp only [cellsOf, List.mem_map] at hu
  obtain ⟨i, _, rfl⟩ := hu
  rfl
theorem clone_news {w : World} {b off n : Nat} {f : Nat → Int} (hf : Row w (some ⟨b, off, none⟩) n f) (o : Obj) (j : Nat) (u : Value) (hj : (cellsOf n f)[j]? = some u) : (w.alloc o).cell? ⟨b, off + j, none⟩ = some u := by
  have hl : j < n := by
    have := (List.getElem?_eq_some_iff.1 hj).1
    rwa [cellsOf_length] at this
  obtain ⟨b', off', e, hb, hc⟩ := hf.alloc o (by omega)
  injection e with e
  injection e with e1 e2
  subst e1 e2
  rw [cellsOf_get f hl] at hj
  rw [hc j hl]
  exact hj
set_option maxHeartbeats 400000 in
theorem clone_any (b off : Nat) (n c : Nat) (f : Nat → Int) (w : World) (hf : Row w (some ⟨b, off, none⟩) n f) (hn : n ≤ 8796093022208) (h0 : 0 < n) :
    Calls Tryz.prog 24 #[.slice (some ⟨b, off, none⟩) n c] w fun e w' => ∃ g cap, e = .returned (.slice (some ⟨g, 0, none⟩) n cap) ∧ n ≤ cap ∧ w'.ownsRow w.heap.size 3 1 (.slice (some ⟨g, 0, none⟩) n cap) n (cellsOf n f) ∧ Below w.heap.size w w' := by
  obtain ⟨i0_, hi, hz0, hz1, hz2⟩ := info_parts intInfo
  have hq := fun (wx : World) => Lib.run_eql_slice_nil (P := Tryz.prog) wx 49 3 (some ⟨b, off, none⟩) n c 0 0 Tryz.underlying49
  have hnews : ∀ (o : Obj) (j : Nat) (u : Value), (cellsOf n f)[j]? = some u → (w.alloc o).cell? ((⟨b, off, none⟩ : Addr).add j) = some u := fun o j u hj => by
    rw [Addr.add_lit]
    exact clone_news hf o j u hj
  have HN := Lib.hid hnews
  clear hnews
  have hown0 : (w.alloc (.cells #[] 3)).ownsRow w.heap.size 3 1 (.slice (some ⟨w.heap.size, 0, none⟩) 0 0) 0 [] := World.ownsRow_lit w #[] 0 (Nat.le_refl _) (Nat.zero_le _) (by simp)
  go_enter Tryz.func24, Tryz.ntmps24
  go_wp2_with (at_builtin; refine wpList_append_own _ rfl (.tmp 5) (.tmp 6) 49 rfl w.heap.size 3 i0_ (.int .i64 0) 1 8 Tryz.underlying49 hi hz0 hz1 hz2 rfl (by decide) (.slice (some ⟨w.heap.size, 0, none⟩) 0 0) 0 [] rfl hown0 ⟨b, off, none⟩ n c (cellsOf n f) rfl (by rw [cellsOf_length, Nat.mul_one]) (HN.out _) (cellsOf_one n f) (by simp only [maxLen]; omega) (by omega) (by simp) ?_; intro v' w5 hown5 hgrow5 hnil; clear hnil; rw [Nat.zero_add, List.nil_append] at hown5)
  have hbe : Below w.heap.size w w5 := ((Below.refl _ _).alloc (Nat.le_refl _) _).grown hgrow5 (by simp) fun k hk => by
    have : w.heap.size = k := by simpa [Value.ownBlock] using hk
    omega
  obtain ⟨g, cap, rfl, _, _⟩ := hown5.form h0
  have hcap : n ≤ cap := by
    obtain ⟨a', c', he, hc⟩ := own_sliceC hown5
    injection he with h1 h2 h3
    omega
  go_ret
  exact ⟨g, cap, rfl, hcap, hown5, hbe⟩

end Go.Proofs.YtgmljgcmfooniaaGreatDoor
/- TcLaw -/
set_option linter.unusedVariables false
set_option linter.unusedSimpArgs false
namespace Go.Tide
theorem JRight.sums {n m : Nat} {f g : Nat → Int} (h : JRight n m f g) : ∀ k, k < n → f k + g k ≤ jPass f g k := by
  intro k _
  rw [jPass_eq]
  omega
theorem JRight.upto {n : Nat} {f g : Nat → Int} {M : Int} (h : JRight n n f g) (hM : ∀ k, k < n → g k ≤ M) : ∀ k, k < n → jPass f g k ≤ f k + M := by
  obtain ⟨_, h1, h2, h3⟩ := h
  intro k
  induction k with
  | zero => intro hk; have := h1 0 hk; have := h2 0 hk; have := hM 0 hk; simp only [jPass]; omega
  | succ k ih =>
    intro hk
    have := ih (by omega)
    have := h3 k hk
    have := hM (k + 1) hk
    simp only [jPass]
    omega
theorem jPass_bounds {n : Nat} {f g : Nat → Int} (hf : AllIn n f 0 1099511627776) (hg : AllIn n g 0 1099511627776) : AllIn n (jPass f g) 0 2199023255552 := fun k hk => jLast_bounds hf hg (k + 1) hk
theorem AllIn.wide {n : Nat} {f : Nat → Int} {lo hi lo' hi' : Int} (h : AllIn n f lo hi) (h1 : lo' ≤ lo) (h2 : hi ≤ hi') : AllIn n f lo' hi' := fun k hk => by have := h k hk; omega
theorem BestIn.shift {x : Nat → Int} {lo : Int} {k : Nat} {v : Int} (h : BestIn ltB x lo k v) (d : Int) : BestIn ltB (fun k => x k + d) lo k (v + d) := by
  obtain ⟨⟨i, a1, a2, a3⟩, a4⟩ := h
  refine ⟨⟨i, a1, a2, by rw [← a3]⟩, fun t t1 t2 => ?_⟩
  have := ltB_not.1 (a4 t t1 t2)
  rw [ltB_not]
  show v + d ≤ x t + d
  omega
theorem base_shift {x : Nat → Int} {part keep : Int} (hp : 1 ≤ part) (hk : 1 ≤ keep) (d : Int) (k : Nat) : baseOf (fun k => x k + d) part keep k = baseOf x part keep k + d :=
  (baseOf_spec hp hk k).unique ord_lt ((baseOf_spec hp hk k).shift d)
theorem isMax_ex {f : Nat → Int} {n : Nat} (h0 : 0 < n) : ∃ m, IsMax n f m := by
  induction n with
  | zero => omega
  | succ n ih =>
    by_cases hn : 0 < n
    · obtain ⟨m, ⟨k, a1, a2⟩, a3⟩ := ih hn
      by_cases hc : m ≤ f n
      · refine ⟨f n, ⟨n, by omega, rfl⟩, fun j hj => ?_⟩
        rcases Nat.lt_succ_iff_lt_or_eq.1 hj with h | h
        · have := a3 j h; omega
        · subst h; omega
      · refine ⟨m, ⟨k, by omega, a2⟩, fun j hj => ?_⟩
        rcases Nat.lt_succ_iff_lt_or_eq.1 hj with h | h
        · exact a3 j h
        · subst h; omega
    · obtain rfl : n = 0 := by omega
      exact ⟨f 0, ⟨0, by omega, rfl⟩, fun j hj => by obtain rfl : j = 0 := by omega
                                                     exact Int.le_refl _⟩
theorem isMin_ex {f : Nat → Int} {n : Nat} (h0 : 0 < n) : ∃ m, IsMin n f m := by
  induction n with
  | zero => omega
  | succ n ih =>
    by_cases hn : 0 < n
    · obtain ⟨m, ⟨k, a1, a2⟩, a3⟩ := ih hn
      by_cases hc : f n ≤ m
      · refine ⟨f n, ⟨n, by omega, rfl⟩, fun j hj => ?_⟩
        rcases Nat.lt_succ_iff_lt_or_eq.1 hj with h | h
        · have := a3 j h; omega
        · subst h; omega
      · refine ⟨m, ⟨k, by omega, a2⟩, fun j hj => ?_⟩
        rcases Nat.lt_succ_iff_lt_or_eq.1 hj with h | h
        · exact a3 j h
        · subst h; omega
    · obtain rfl : n = 0 := by omega
      exact ⟨f 0, ⟨0, by omega, rfl⟩, fun j hj => by obtain rfl : j = 0 := by omega
                                                     exact Int.le_refl _⟩
theorem IsMax.same {n : Nat} {f : Nat → Int} {a b : Int} (ha : IsMax n f a) (hb : IsMax n f b) : a = b := by
  obtain ⟨⟨i, i1, i2⟩, i3⟩ := ha
  obtain ⟨⟨j, j1, j2⟩, j3⟩ := hb
  have := i3 j j1
  have := j3 i i1
  omega
theorem IsMin.same {n : Nat} {f : Nat → Int} {a b : Int} (ha : IsMin n f a) (hb : IsMin n f b) : a = b := by
  obtain ⟨⟨i, i1, i2⟩, i3⟩ := ha
  obtain ⟨⟨j, j1, j2⟩, j3⟩ := hb
  have := i3 j j1
  have := j3 i i1
  omega
/-- Packets that were sent, and came by a clock that is so much ahead. -/
def pkOf (f p : Nat → Int) (off : Int) (k j : Nat) : Int := if j = 0 then f k else p k + off
/-- How late each one is. -/
def jLate (f p : Nat → Int) (k : Nat) : Int := p k - f k
theorem tc_right {n : Nat} {f g : Nat → Int} {off : Int} (h : JRight n n f g) (hp : ∀ k, k < n → jPass f g k ≤ 549755813888) (h1 : -274877906944 ≤ off) (h2 : off ≤ 274877906944) : PRight n (pkOf f (jPass f g) off) := by
  intro k hk
  have hf := h.2.1 k hk
  have hb := jPass_bounds h.2.1 h.2.2.1 k hk
  have := hp k hk
  refine ⟨?_, ?_⟩
  · show -1099511627776 ≤ f k ∧ f k ≤ 1099511627776
    omega
  · show -1099511627776 ≤ jPass f g k + off ∧ jPass f g k + off ≤ 1099511627776
    omega
theorem tc_waits (f p : Nat → Int) (off : Int) {part keep : Int} (hp : 1 ≤ part) (hk : 1 ≤ keep) (k : Nat) : pwaits (pkOf f p off) part keep k = jLate f p k - baseOf (jLate f p) part keep k := by
  have e : pways (pkOf f p off) = fun k => jLate f p k + off := by
    funext k
    simp only [pways, pkOf, jLate]
    simp
    omega
  unfold pwaits
  rw [e, base_shift hp hk]
  show jLate f p k + off - _ = _
  omega
theorem late_in {n : Nat} {f g : Nat → Int} (h : JRight n n f g) {M m : Int} (hM : ∀ k, k < n → g k ≤ M) (hm : ∀ k, k < n → m ≤ g k) : ∀ k, k < n → m ≤ jLate f (jPass f g) k ∧ jLate f (jPass f g) k ≤ M := by
  intro k hk
  have h1 := h.sums k hk
  have h2 := h.upto hM k hk
  have h3 := hm k hk
  unfold jLate
  omega
theorem tc_most {n : Nat} {f g : Nat → Int} (h : JRight n n f g) {M m : Int} (hM : IsMax n g M) (hm : IsMin n g m) {part keep : Int} (hp : 1 ≤ part) (hk : 1 ≤ keep) {k : Nat} (hkn : k < n) : jLate f (jPass f g) k - baseOf (jLate f (jPass f g)) part keep k ≤ M - m := by
  have h1 := late_in h hM.2 hm.2
  have h2 := base_bounds hp hk hkn h1
  have h3 := h1 k hkn
  omega
end Go.Tide
namespace Go.Proofs.YtgmljgcmfooniaaGreatDoor
open Go.RowKit Go.Tide
set_option linter.unusedVariables false
set_option linter.unusedSimpArgs false
set_option maxRecDepth 20000
theorem pktInfo : (Tryz.prog.info? 60).map (fun i => (i.zero, i.size, i.bytes)) = some (some (.agg #[.int .i64 0, .int .i64 0]), 2, 16) := by kernel_rfl

theorem max_is (a : Option Addr) (n c : Nat) (f : Nat → Int) (w : World) (hf : Row w a n f) (hn : n ≤ 1152921504606846976) (h0 : 0 < n) {M : Int} (hM : IsMax n f M) :
    Calls Tryz.prog 23 #[.slice a n c] w fun e w' => e = .returned (.int .i64 M) ∧ w = w' :=
  (max_any a n c f w hf hn h0).mono fun e w' ⟨m, he, hm, hw⟩ => ⟨by rw [he, hm.same hM], hw⟩
theorem min_is (a : Option Addr) (n c : Nat) (f : Nat → Int) (w : World) (hf : Row w a n f) (hn : n ≤ 1152921504606846976) (h0 : 0 < n) {M : Int} (hM : IsMin n f M) :
    Calls Tryz.prog 28 #[.slice a n c] w fun e w' => e = .returned (.int .i64 M) ∧ w = w' :=
  (min_any a n c f w hf hn h0).mono fun e w' ⟨m, he, hm, hw⟩ => ⟨by rw [he, hm.same hM], hw⟩
theorem jpass_zero (a b : Option Addr) (c d : Nat) (w : World) :
    Calls Tryz.prog 21 #[.slice a 0 c, .slice b 0 d] w fun e w' => e = .returned (.slice none 0 0) ∧ More w w' := by
  have hr' : jRight 0 0 (fun _ => 0) (fun _ => 0) = true := jRight_iff.2 ⟨rfl, fun k hk => absurd hk (by omega), fun k hk => absurd hk (by omega), fun k hk => absurd hk (by omega)⟩
  go_enter Tryz.func21, Tryz.ntmps21
  go_wp2_with (go_at_call 22; refine (jright_any a b 0 0 c d (fun _ => 0) (fun _ => 0) _ Row.nil Row.nil (by omega) (by omega)).mono ?_; rintro e w' ⟨rfl, os, dr, rfl⟩)
  go_loopw [5, 6, 15] (fun out last i wr => i = .int .i64 0 ∧ out = .slice none 0 0 ∧ More w wr) (fun _ _ i _ => 0)
  case atStart => exact ⟨rfl, rfl, (by repeat (first | (with_reducible exact More.refl _) | (with_reducible refine More.alloc ?_ _) | (with_reducible refine More.more ?_ _ _) | (with_reducible refine More.drewN ?_ _) | (with_reducible refine More.drew ?_)))⟩
  case round =>
    obtain ⟨rfl, rfl, os2, d2, rfl⟩ := hrel
    go_wp2
    go_ret
    exact ⟨rfl, (by repeat (first | (with_reducible exact More.refl _) | (with_reducible refine More.alloc ?_ _) | (with_reducible refine More.more ?_ _ _) | (with_reducible refine More.drewN ?_ _) | (with_reducible refine More.drew ?_)))⟩
/-- jitter.Pass, with what its row is where nothing was sent. -/
theorem jpass_v (a b : Option Addr) (n c d : Nat) (f g : Nat → Int) (w : World) (hf : Row w a n f) (hg : Row w b n g) (hn : n ≤ 17592186044416) (hr : JRight n n f g) :
    Calls Tryz.prog 21 #[.slice a n c, .slice b n d] w fun e w' => ∃ a' c', e = .returned (.slice a' n c') ∧ n ≤ c' ∧ (n = 0 → a' = none ∧ c' = 0) ∧ Row w' a' n (jPass f g) ∧ Below w.heap.size w w' := by
  rcases Nat.eq_zero_or_pos n with h0 | h0
  · subst h0
    exact (jpass_zero a b c d w).mono fun e w' ⟨he, hm⟩ => ⟨none, 0, he, Nat.le_refl _, fun _ => ⟨rfl, rfl⟩, Row.nil, More.below hm⟩
  · exact (jpass_any a b n c d f g w hf hg hn hr).mono fun e w' ⟨a', c', he, hc, hrow, hb⟩ => ⟨a', c', he, hc, fun h => absurd h (by omega), hrow, hb⟩
theorem clone_nil (w : World) : Calls Tryz.prog 24 #[.slice none 0 0] w fun e w' => e = .returned (.slice none 0 0) ∧ More w w' := by
  have hq := fun (wx : World) => Lib.run_eql_slice_nil (P := Tryz.prog) wx 49 3 none 0 0 0 0 Tryz.underlying49
  go_enter Tryz.func24, Tryz.ntmps24
  go_wp2
  go_ret
  exact ⟨rfl, (by repeat (first | (with_reducible exact More.refl _) | (with_reducible refine More.alloc ?_ _) | (with_reducible refine More.more ?_ _ _) | (with_reducible refine More.drewN ?_ _) | (with_reducible refine More.drew ?_)))⟩
theorem clone_v (a : Option Addr) (n c : Nat) (f : Nat → Int) (w : World) (hf : Row w a n f) (hz : n = 0 → a = none ∧ c = 0) (hn : n ≤ 8796093022208) :
    Calls Tryz.prog 24 #[.slice a n c] w fun e w' => ∃ v, e = .returned v ∧ w'.ownsRow w.heap.size 3 1 v n (cellsOf n f) ∧ Below w.heap.size w w' := by
  rcases Nat.eq_zero_or_pos n with h0 | h0
  · subst h0
    obtain ⟨rfl, rfl⟩ := hz rfl
    exact (clone_nil w).mono fun e w' ⟨he, hm⟩ => ⟨_, he, World.ownsRow_nil _ _ _ _, More.below hm⟩
  · obtain ⟨b, off, rfl, _, _⟩ := hf h0
    exact (clone_any b off n c f w hf hn h0).mono fun e w' ⟨g, cap, he, _, ho, hb⟩ => ⟨_, he, ho, hb⟩
end Go.Proofs.YtgmljgcmfooniaaGreatDoor
