/- Slices of structs or arrays of C ints each: where one has elements it leads to rows of cells. Conditions: none. -/
import Derived.Test.YtgmljgcmfooniaaGreatDoorKit2
import Derived.Test.YtgmljgcmfooniaaGreatDoorOpen
set_option linter.unusedVariables false
set_option linter.unusedSimpArgs false
namespace Go
open Go.RowKit
/-- A slice of n elements of C ints each: element k holds f k 0, f k 1 .. -/
def RowC (w : World) (C : Nat) (a : Option Addr) (n : Nat) (f : Nat → Nat → Int) : Prop :=
  0 < n → ∃ b off, a = some ⟨b, off, none⟩ ∧ b < w.heap.size ∧ ∀ k j, k < n → j < C → w.cell? ⟨b, off + (k * C + j), none⟩ = some (.int .i64 (f k j))
section
variable {w w' : World} {C : Nat} {a : Option Addr} {n : Nat} {f g : Nat → Nat → Int}
theorem RowC.keep (h : RowC w C a n f) (hs : w.heap.size ≤ w'.heap.size) (hk : ∀ b o, b < w.heap.size → w'.cell? ⟨b, o, none⟩ = w.cell? ⟨b, o, none⟩) : RowC w' C a n f := by
  intro hn
  obtain ⟨b, off, e, hb, hc⟩ := h hn
  exact ⟨b, off, e, by omega, fun k j hk' hj => (hk _ _ hb).trans (hc k j hk' hj)⟩
theorem RowC.below {B : Nat} (h : RowC w C a n f) (hb : Below B w w') (hB : w.heap.size ≤ B) : RowC w' C a n f :=
  h.keep hb.size fun b o hb' => hb.cell (p := ⟨b, o, none⟩) (by show b < B; omega)
theorem RowC.alloc (h : RowC w C a n f) (o : Obj) : RowC (w.alloc o) C a n f := h.keep (by simp) fun b i hb => World.cell?_alloc_past o b i hb
theorem RowC.more (h : RowC w C a n f) (os : Array Obj) (d : Nat) : RowC (w.more os d) C a n f := h.keep (by simp) fun b i hb => World.cell?_more w os d b i hb
theorem RowC.drew (h : RowC w C a n f) : RowC w.drew C a n f := h
theorem RowC.drewN (h : RowC w C a n f) (m : Nat) : RowC (w.drewN m) C a n f := h
theorem RowC.nil : RowC w C a 0 f := fun h => absurd h (by omega)
theorem RowC.congr (h : RowC w C a n f) (hfg : ∀ k j, k < n → j < C → f k j = g k j) : RowC w C a n g := by
  intro hn
  obtain ⟨b, off, e, hb, hc⟩ := h hn
  exact ⟨b, off, e, hb, fun k j hk hj => by rw [hc k j hk hj, hfg k j hk hj]⟩
theorem RowC.at2 (h : RowC w 2 a n f) {k : Nat} (hk : k < n) : ∃ b off x y, a = some ⟨b, off, none⟩ ∧ b < w.heap.size ∧ w.cell? ⟨b, off + k * 2, none⟩ = some (.int .i64 x) ∧ w.cell? ⟨b, off + (k * 2 + 1), none⟩ = some (.int .i64 y) ∧ Hid (x = f k 0) ∧ Hid (y = f k 1) := by
  obtain ⟨b, off, e, hb, hc⟩ := h (by omega)
  exact ⟨b, off, _, _, e, hb, hc k 0 hk (by omega), hc k 1 hk (by omega), rfl, rfl⟩
theorem RowC.at3 (h : RowC w 3 a n f) {k : Nat} (hk : k < n) : ∃ b off x y z, a = some ⟨b, off, none⟩ ∧ b < w.heap.size ∧ w.cell? ⟨b, off + k * 3, none⟩ = some (.int .i64 x) ∧ w.cell? ⟨b, off + (k * 3 + 1), none⟩ = some (.int .i64 y) ∧ w.cell? ⟨b, off + (k * 3 + 2), none⟩ = some (.int .i64 z) ∧ Hid (x = f k 0) ∧ Hid (y = f k 1) ∧ Hid (z = f k 2) := by
  obtain ⟨b, off, e, hb, hc⟩ := h (by omega)
  exact ⟨b, off, _, _, _, e, hb, hc k 0 hk (by omega), hc k 1 hk (by omega), hc k 2 hk (by omega), rfl, rfl, rfl⟩
/-- The cells of n elements. -/
def cellsC (C n : Nat) (f : Nat → Nat → Int) : List Value := (List.range (n * C)).map fun i => Value.int .i64 (f (i / C) (i % C))
theorem cellsC_length (C n : Nat) (f : Nat → Nat → Int) : (cellsC C n f).length = n * C := by simp [cellsC]
theorem cellsC_get {C n k j : Nat} (f : Nat → Nat → Int) (hk : k < n) (hj : j < C) : (cellsC C n f)[k * C + j]? = some (.int .i64 (f k j)) := by
  have h1 : k * C + j < n * C := by
    have := Nat.mul_le_mul_right C (show k + 1 ≤ n by omega)
    rw [Nat.add_mul] at this
    omega
  have e1 : (k * C + j) / C = k := by
    rw [Nat.mul_comm, Nat.mul_add_div (by omega), Nat.div_eq_of_lt hj, Nat.add_zero]
  have e2 : (k * C + j) % C = j := by
    rw [Nat.mul_comm, Nat.mul_add_mod, Nat.mod_eq_of_lt hj]
  simp [cellsC, h1, e1, e2]
theorem cellsC_succ (C n : Nat) (f : Nat → Nat → Int) : cellsC C (n + 1) f = cellsC C n f ++ (List.range C).map fun j => Value.int .i64 (f n j) := by
  apply List.ext_getElem?
  intro i
  rcases Nat.eq_zero_or_pos C with rfl | hC
  · simp [cellsC]
  obtain ⟨k, r, hr, rfl⟩ : ∃ k r, r < C ∧ i = k * C + r := ⟨i / C, i % C, Nat.mod_lt _ hC, by rw [Nat.mul_comm]; exact (Nat.div_add_mod i C).symm⟩
  rcases Nat.lt_trichotomy k n with h | rfl | h
  · have h1 : k * C + r < n * C := by
      have := Nat.mul_le_mul_right C (show k + 1 ≤ n by omega)
      rw [Nat.add_mul] at this
      omega
    rw [List.getElem?_append_left (by rw [cellsC_length]; exact h1), cellsC_get f (by omega) hr, cellsC_get f h hr]
  · rw [List.getElem?_append_right (by rw [cellsC_length]; omega), cellsC_length, cellsC_get f (by omega) hr, Nat.add_sub_cancel_left, List.getElem?_map, List.getElem?_range hr]
    rfl
  · have h1 : (n + 1) * C ≤ k * C := Nat.mul_le_mul_right C h
    rw [Nat.add_mul] at h1
    rw [List.getElem?_eq_none (by rw [cellsC_length, Nat.add_mul]; omega), List.getElem?_eq_none (by rw [List.length_append, cellsC_length, List.length_map, List.length_range]; omega)]
theorem cellsC_congr {C n : Nat} {f g : Nat → Nat → Int} (h : ∀ k j, k < n → j < C → f k j = g k j) : cellsC C n f = cellsC C n g := by
  induction n with
  | zero => simp [cellsC]
  | succ n ih =>
    rw [cellsC_succ, cellsC_succ, ih (fun k j hk hj => h k j (by omega) hj)]
    congr 1
    exact List.map_congr_left fun j hj => by rw [h n j (by omega) (by simpa using hj)]
theorem RowC.of_own {base : Nat} {e : TypeId} {c : Nat} (hC : 0 < C) (h : w.ownsRow base e C (.slice a n c) n (cellsC C n f)) : RowC w C a n f := by
  intro hn
  obtain ⟨g, cap, hv, _, hlt⟩ := h.form hn
  have hA : a = some ⟨g, 0, none⟩ := by injection hv
  subst hA
  refine ⟨g, 0, rfl, hlt, fun k j hk hj => ?_⟩
  have := h.cells (g := g) rfl (k * C + j) _ (cellsC_get f hk hj)
  rw [Addr.add_lit] at this
  exact this
theorem cellsC_one (C n : Nat) (f : Nat → Nat → Int) : ∀ u ∈ cellsC C n f, u.oneCell' = true := by
  intro u hu
  simp only [cellsC, List.mem_map] at hu
  obtain ⟨i, _, rfl⟩ := hu
  rfl
/-- A slice literal of structs. -/
theorem RowC.lit {w : World} {C : Nat} {cs : Array Value} {t : TypeId} {g n : Nat} (l : List Int) (hC : 0 < C) (hg : g = w.heap.size) (hcs : cs = (l.map (Value.int .i64)).toArray) (hn : l.length = n * C) :
    RowC (w.alloc (.cells cs t)) C (some ⟨g, 0, none⟩) n (fun k j => l.getD (k * C + j) 0) := by
  subst hg hcs
  intro _
  refine ⟨_, _, rfl, by simp, fun k j hk hj => ?_⟩
  have h1 : k * C + j < l.length := by
    have := Nat.mul_le_mul_right C (show k + 1 ≤ n by omega)
    rw [Nat.add_mul] at this
    omega
  rw [World.cell?_alloc_at _ _ _ _ rfl]
  simp [List.getD, List.getElem?_eq_getElem h1]
theorem own_sliceC {base : Nat} {e : TypeId} {C : Nat} {v : Value} {xs : List Value} (h : w.ownsRow base e C v n xs) : ∃ a cap, v = .slice a n cap ∧ n ≤ cap := by
  rcases h.2 with ⟨hv, hn⟩ | ⟨g, cap, cur, hv, _, _, hc, _⟩
  · subst hn
    exact ⟨none, 0, hv, Nat.le_refl _⟩
  · exact ⟨_, cap, hv, hc⟩
theorem Blk.news {g : Nat} {t : TypeId} {cs : Array Value} (h : Blk w g t cs) : ∀ j u, cs.toList[j]? = some u → w.cell? ((⟨g, 0, none⟩ : Addr).add j) = some u := World.news_of_block (fr := (0, 0)) h
theorem below_then {B : Nat} {w wr W : World} (h : Below B w wr) (hB : B ≤ wr.heap.size) (m : More wr W) : Below B w W := h.trans (m.below.mono hB)
/-- A literal's numbers, by element and place. -/
def rowOfC (C : Nat) (l : List Int) (k j : Nat) : Int := l.getD (k * C + j) 0
theorem RowC.litR {w : World} {C : Nat} {cs : Array Value} {t : TypeId} {g n : Nat} (l : List Int) (hC : 0 < C) (hg : g = w.heap.size) (hcs : cs = (l.map (Value.int .i64)).toArray) (hn : l.length = n * C) :
    RowC (w.alloc (.cells cs t)) C (some ⟨g, 0, none⟩) n (rowOfC C l) := RowC.lit l hC hg hcs hn
end
end Go
namespace Go.Tide
theorem IsFlat.rowC {w : World} {C : Nat} {a : Option Addr} {len cap : Nat} {z : List Int} (f : IsFlat w a len cap C z) (hC : 0 < C) : RowC w C a len (fun k j => z.getD (k * C + j) 0) := by
  intro hn
  rcases f with ⟨_, h0, _⟩ | ⟨x, rfl, hl, hm, hz, hc, hb⟩
  · omega
  · have h1 : ∀ k j, k < len → j < C → k * C + j < len * C := fun k j hk hj => by
      have := Nat.mul_le_mul_right C (show k + 1 ≤ len by omega)
      rw [Nat.add_mul] at this
      omega
    obtain ⟨h0, _⟩ := hc 0 (by have := h1 0 0 hn hC; omega)
    obtain ⟨b, off, spot⟩ := x
    have hs : spot = none := by simpa [Addr.add] using World.cell?_spot h0
    subst hs
    refine ⟨b, off, rfl, ?_, fun k j hk hj => ?_⟩
    · have := (hc 0 (by have := h1 0 0 hn hC; omega)).2
      rw [Addr.add_lit] at this
      exact this
    · have := (hc (k * C + j) (h1 k j hk hj)).1
      rw [Addr.add_lit] at this
      exact this
/-- The numbers fit. -/
theorem IsFlat.boundC {w : World} {C : Nat} {a : Option Addr} {len cap : Nat} {z : List Int} (f : IsFlat w a len cap C z) (i : Nat) : InI64 (z.getD i 0) := by
  have h0 : InI64 0 := by unfold InI64; omega
  rcases f with ⟨_, _, _, rfl⟩ | ⟨x, rfl, hl, hm, hz, hc, hb⟩
  · exact h0
  · rw [List.getD_eq_getElem?_getD]
    rcases h : z[i]? with _ | u
    · exact h0
    · exact hb u (List.mem_of_getElem? h)
theorem IsFlat.le' {w : World} {C : Nat} {a : Option Addr} {len cap : Nat} {z : List Int} (f : IsFlat w a len cap C z) : len ≤ cap := by
  rcases f with ⟨_, rfl, rfl, _⟩ | ⟨_, _, h, _⟩ <;> omega
end Go.Tide
