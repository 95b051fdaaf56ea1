/- mean.table: the rows of what walks weigh at most. Conditions: the graph is right. -/
import Derived.Test.YtnbjcohkkaijaaaMeW
import Derived.Test.YtnbjcohkkaijaaaPotT
import Derived.Test.YtnbjcohkkaijaaaOff
import Derived.Test.YtnbjcohkkaijaaaTwo
import Derived.Test.YtnbjcohkkaijaaaSq
import Derived.Deep.Cut
import Derived.Laws.Tables
set_option linter.unusedVariables false
set_option linter.unusedSimpArgs false
namespace Go.Proofs.Ytnbjcohkkaijaaa
open Go.RowKit Go.Tide
set_option linter.unusedVariables false
set_option linter.unusedSimpArgs false

theorem rowInfo : (Try.prog.info? 35).map (fun i => (i.zero, i.size, i.bytes)) = some (some (.slice none 0 0), 1, 24) := by kernel_rfl
/-- The slices of rows, each of N numbers, at the blocks that gb tells. -/
def rowsL (N : Nat) (gb : Nat → Nat) (t : Nat) : List Value := (List.range t).map fun k => .slice (some ⟨gb k, 0, none⟩) N N
theorem rowsL_len (N : Nat) (gb : Nat → Nat) (t : Nat) : (rowsL N gb t).length = t := by simp [rowsL]
theorem rowsL_get {N : Nat} {gb : Nat → Nat} {t k : Nat} (h : k < t) : (rowsL N gb t)[k]? = some (.slice (some ⟨gb k, 0, none⟩) N N) := by simp [rowsL, h]
theorem rowsL_succ (N : Nat) (gb : Nat → Nat) (t : Nat) : rowsL N gb (t + 1) = rowsL N gb t ++ [.slice (some ⟨gb t, 0, none⟩) N N] := by simp [rowsL, List.range_succ]
theorem rowsL_congr {N : Nat} {gb gb' : Nat → Nat} {t : Nat} (h : ∀ k, k < t → gb k = gb' k) : rowsL N gb t = rowsL N gb' t := by
  unfold rowsL
  exact List.map_congr_left fun k hk => by rw [h k (List.mem_range.1 hk)]
/-- The rows lie in blocks of their own. -/
def Tab (w : World) (N : Nat) (gb : Nat → Nat) (F : Nat → Nat → Int) (t : Nat) : Prop := ∀ k, k < t → Blk w (gb k) 3 (cellsOf N (F k)).toArray
theorem own_cell {w : World} {base n c k : Nat} {e : TypeId} {a : Option Addr} {xs : List Value} (h : w.ownsRow base e 1 (.slice a n c) n xs) (hk : k < n) : ∃ g, a = some ⟨g, 0, none⟩ ∧ g < w.heap.size ∧ base ≤ g ∧ w.cell? ⟨g, k, none⟩ = xs[k]? := by
  obtain ⟨g, cap, hv, hb, hlt⟩ := h.form (by omega)
  have hA : a = some ⟨g, 0, none⟩ := by injection hv
  subst hA
  have hl : k < xs.length := by rw [h.1]; omega
  refine ⟨g, rfl, hlt, hb, ?_⟩
  have := h.cells (g := g) rfl k _ (List.getElem?_eq_getElem hl)
  rw [Addr.add_lit, Nat.zero_add] at this
  rw [this, List.getElem?_eq_getElem hl]
theorem own_blk_ne {w : World} {base n g size : Nat} {e t : TypeId} {v : Value} {xs : List Value} {cs : Array Value} (h : w.ownsRow base e size v n xs) (hB : Blk w g t cs) (hne : t ≠ e) : v.ownBlock ≠ some g := by
  rcases h.2 with ⟨rfl, _⟩ | ⟨g', cap, cur, rfl, _, hc, _⟩
  · simp [Value.ownBlock]
  · intro hg
    simp [Value.ownBlock] at hg
    subst hg
    have h2 : w.heap[g']? = some (.cells cs t (0, 0)) := hB
    rw [hc] at h2
    injection h2 with h2
    injection h2 with h3 h4
    exact hne h4.symm
theorem blkAt {w : World} {g N j : Nat} {t : TypeId} {F : Nat → Int} (h : Blk w g t (cellsOf N F).toArray) (hj : j < N) : w.cell? ⟨g, j, none⟩ = some (.int .i64 (F j)) := by
  rw [h.cell j, List.getElem?_toArray, cellsOf_get F hj]
theorem rowC_off {X : Nat → Prop} {w w' : World} {C : Nat} {a : Option Addr} {n : Nat} {f : Nat → Nat → Int} (h : RowC w C a n f) (hb : Off X w w') (hX : ∀ p : Addr, a = some p → ¬ X p.block) : RowC w' C a n f := by
  intro h0
  obtain ⟨b, off, rfl, hl, hc⟩ := h h0
  refine ⟨b, off, rfl, by have := hb.size; omega, fun k j hk hj => ?_⟩
  rw [← hc k j hk hj]
  exact World.cell?_of_block (a := ⟨b, off + (k * C + j), none⟩) (hb.block b hl (hX _ rfl))
theorem own_off {X : Nat → Prop} {w w' : World} {base size n : Nat} {e : TypeId} {v : Value} {xs : List Value} (h : w.ownsRow base e size v n xs) (k : Off X w w') (hy : ∀ g, v.ownBlock = some g → ¬ X g) : w'.ownsRow base e size v n xs := by
  refine ⟨h.1, ?_⟩
  rcases h.2 with h1 | ⟨g, cap, cur, rfl, hb, hc, hr⟩
  · exact .inl h1
  · refine .inr ⟨g, cap, cur, rfl, hb, ?_, hr⟩
    have hl : g < w.heap.size := (Array.getElem?_eq_some_iff.1 hc).1
    exact (k.block g hl (hy g rfl)).trans hc
theorem Tab.off {X : Nat → Prop} {w w' : World} {N t : Nat} {gb : Nat → Nat} {F : Nat → Nat → Int} (h : Tab w N gb F t) (k : Off X w w') (hx : ∀ q, q < t → ¬ X (gb q)) : Tab w' N gb F t := fun q hq => (h q hq).off k (hx q hq)
theorem mRow_succ (f : Nat → Nat → Int) (last : Nat → Int) (k : Nat) : mRow f last (k + 1) = if -4611686018427387904 < last (f k 0).toNat then putAt (mRow f last k) (f k 1).toNat (max (mRow f last k (f k 1).toNat) (last (f k 0).toNat + f k 2)) else mRow f last k := by rw [mRow]
theorem mF_succ (f : Nat → Nat → Int) (n t : Nat) : mF f n (t + 1) = mRow f (mF f n t) n := rfl

set_option maxRecDepth 20000 in
set_option maxHeartbeats 8000000 in
theorem table_any (N : Nat) (a : Option Addr) (n c : Nat) (f : Nat → Nat → Int) (w : World) (hf : RowC w 3 a n f) (hG : GRight N n f) :
    Calls Try.prog 13 #[.agg #[.int .i64 N, .slice a n c]] w fun e w' => ∃ (v : Value) (gb : Nat → Nat), e = .returned v ∧ w'.ownsRow w.heap.size 35 1 v (N + 1) (rowsL N gb (N + 1)) ∧ Tab w' N gb (mF f n) (N + 1) ∧ Below w.heap.size w w' := by
  obtain ⟨i0_, hi, hz0, hz1, hz2⟩ := info_parts rowInfo
  have HG := Lib.hid hG
  have hN' : N ≤ 300 := by have := hG.2.1; omega
  have hn' : n ≤ 4800 := hG.2.2.1
  clear hG
  have hmk := fun W => run_make_row' (P := Try.prog) 35 3 (.int .i64 0) 8 Try.underlying35 intInfo rfl .i64 .i64 N (by omega) (by omega) W
  have hbg := Blk.new w 24 #[.int .i64 N, .slice a n c]
  have hg0 : (w.alloc (.cells #[.int .i64 N, .slice a n c] 24)).cell? ⟨w.heap.size, 0, none⟩ = some (.int .i64 N) := hbg.cell 0
  have hg1 : (w.alloc (.cells #[.int .i64 N, .slice a n c] 24)).cell? ⟨w.heap.size, 1, none⟩ = some (.slice a n c) := hbg.cell 1
  have hgl := hbg.lt
  go_enter Try.func13, Try.ntmps13
  go_upto_region 1 with fail
  have HBG : Hid (Below w.heap.size w (w.alloc (.cells #[.int .i64 N, .slice a n c] 24))) := (Below.refl _ _).alloc (Nat.le_refl _) _
  have hf := hf.alloc (.cells #[.int .i64 N, .slice a n c] 24)
  generalize w.alloc (.cells #[.int .i64 N, .slice a n c] 24) = wg at *
  generalize hGe : w.heap.size = G at *
  have HGe := Lib.hid hGe
  clear hGe
  go_upto_region 2 with fail
  have hB0 : Blk ((wg.alloc (.cells (madeCells #[.int .i64 0] N) 3)).alloc (.cells #[.slice (some ⟨wg.heap.size, 0, none⟩) N N] 35)) wg.heap.size 3 (cellsOf N (mF f n 0)).toArray := by
    rw [show (cellsOf N (mF f n 0)).toArray = madeCells #[.int .i64 0] N from (made_cells N).symm]
    exact (Blk.new wg _ _).alloc _
  have hT0 : Hid (Tab ((wg.alloc (.cells (madeCells #[.int .i64 0] N) 3)).alloc (.cells #[.slice (some ⟨wg.heap.size, 0, none⟩) N N] 35)) N (fun _ => wg.heap.size) (mF f n) 1) := fun q hq => by
    obtain rfl : q = 0 := by omega
    exact hB0
  have hown0 : ((wg.alloc (.cells (madeCells #[.int .i64 0] N) 3)).alloc (.cells #[.slice (some ⟨wg.heap.size, 0, none⟩) N N] 35)).ownsRow wg.heap.size 35 1 (.slice (some ⟨wg.heap.size + 1, 0, none⟩) 1 1) 1 (rowsL N (fun _ => wg.heap.size) 1) :=
    ⟨rfl, .inr ⟨wg.heap.size + 1, 1, _, rfl, by omega, Blk.new' (by simp), Nat.le_refl _, by unfold maxLen; omega, rfl, rfl⟩⟩
  have hbe0 : Below wg.heap.size wg ((wg.alloc (.cells (madeCells #[.int .i64 0] N) 3)).alloc (.cells #[.slice (some ⟨wg.heap.size, 0, none⟩) N N] 35)) := ((Below.refl _ _).alloc (Nat.le_refl _) _).alloc (by simp) _
  clear hB0 hmk
  generalize ((wg.alloc (.cells (madeCells #[.int .i64 0] N) 3)).alloc (.cells #[.slice (some ⟨wg.heap.size, 0, none⟩) N N] 35)) = wh at *
  generalize hgbx : (fun (_ : Nat) => wg.heap.size) = gb0 at hT0 hown0
  clear hgbx
  have hGh := hbg.below hbe0 hgl
  have hGh0 : wh.cell? ⟨G, 0, none⟩ = some (.int .i64 N) := hGh.cell 0
  have hGhl := hGh.lt
  clear hGh
  go_wp2_with fail
  clear hGh0 hGhl
  go_loopw [3, 14] (fun v i wr => ∃ (t : Nat) (gb : Nat → Nat), i = .int .i64 t ∧ t ≤ N ∧ wr.ownsRow wg.heap.size 35 1 v (t + 1) (rowsL N gb (t + 1)) ∧ Hid (Tab wr N gb (mF f n) (t + 1)) ∧ Below wg.heap.size wg wr) (fun _ i _ => N - (intOf i).toNat)
  case atStart => exact ⟨0, gb0, rfl, Nat.zero_le _, hown0, hT0, hbe0⟩
  case round =>
    obtain ⟨t, gb, rfl, ht, hown, hT, hbe⟩ := hrel
    clear hown0 hT0 hbe0
    have hsz := hbe.size
    have hGr := hbg.below hbe hgl
    have hG0 : wr.cell? ⟨G, 0, none⟩ = some (.int .i64 N) := hGr.cell 0
    have hG1 : wr.cell? ⟨G, 1, none⟩ = some (.slice a n c) := hGr.cell 1
    have hlG := hGr.lt
    clear hGr
    by_cases hlt : t < N
    · have t1 : (t : Int) < (N : Int) := by omega
      obtain ⟨L, hL⟩ : ∃ L, Hid (t + 1 = L) := ⟨_, rfl⟩
      rw [hL.out] at hown
      have hL2 : L ≤ 301 := by rw [← hL.out]; omega
      obtain ⟨va, vc, hv, -⟩ := own_slice hown
      subst hv
      obtain ⟨g, rfl, hlg, hgb, hc⟩ := own_cell hown (show t < L by rw [← hL.out]; omega)
      rw [rowsL_get (show t < L by rw [← hL.out]; omega)] at hc
      have hwt : IntKind.i64.wrap ((L : Int) - 1) = (t : Int) := by rw [← hL.out, IntWalk.i64_in _ (by omega)]; omega
      have htL : (t : Int) < (L : Int) := by rw [← hL.out]; omega
      have ht0 : (0 : Int) ≤ (t : Int) := by omega
      have htn : (t : Int).toNat = t := by omega
      have HW := hT.out t (by omega)
      have hgne := own_blk_ne hown HW (by decide)
      obtain ⟨gl, hgl'⟩ : ∃ gl, Hid (gb t = gl) := ⟨_, rfl⟩
      rw [hgl'.out] at hc HW
      clear hgb
      go_wp2_with fail
      refine wp_region_held_drew (S := (fun w' => Below wr.heap.size wr w')) (by kernel_rfl) ?_ (fun hHeld => ?_)
      · exact (Below.refl _ _).drew
      generalize wr.drew = q0 at *
      refine wpAnyH_take (i := 0) (v := ?_) rfl (by kernel_rfl) (by kernel_rfl) (by kernel_rfl) (fun _ _ _ h => h) (Or.inl ⟨by rfl, ?_⟩) (by assumption) ?_
      rotate_left 1
      · intro w' hSw
        have hl0 := (hSw.cell (p := ⟨g, t, none⟩) hlg).trans hc
        have hl1 := (hSw.cell (p := ⟨G, 0, none⟩) hlG).trans hG0
        clear hSw
        go_simp
        try (with_reducible rfl)
      try simp only [List.getElem_toArray, List.getElem_cons_zero, List.getElem_cons_succ, Act.put, List.setIfInBounds_toArray, List.set_cons_zero, List.set_cons_succ]
      refine wpAnyH_take (i := 1) (v := ?_) rfl (by kernel_rfl) (by kernel_rfl) (by kernel_rfl) (fun _ _ _ h => h) (Or.inl ⟨by rfl, ?_⟩) (by assumption) ?_
      rotate_left 1
      · intro w' hSw
        have hl0 := (hSw.cell (p := ⟨g, t, none⟩) hlg).trans hc
        have hl1 := (hSw.cell (p := ⟨G, 0, none⟩) hlG).trans hG0
        clear hSw
        go_simp
        try (with_reducible rfl)
      try simp only [List.getElem_toArray, List.getElem_cons_zero, List.getElem_cons_succ, Act.put, List.setIfInBounds_toArray, List.set_cons_zero, List.set_cons_succ]
      refine wpAnyH_take (i := 2) (v := ?_) rfl (by kernel_rfl) (by kernel_rfl) (by kernel_rfl) (fun _ _ _ h => h) (Or.inl ⟨by rfl, ?_⟩) (by assumption) ?_
      rotate_left 1
      · intro w' hSw
        have hl0 := (hSw.cell (p := ⟨g, t, none⟩) hlg).trans hc
        have hl1 := (hSw.cell (p := ⟨G, 0, none⟩) hlG).trans hG0
        clear hSw
        go_simp
        try (with_reducible rfl)
      try simp only [List.getElem_toArray, List.getElem_cons_zero, List.getElem_cons_succ, Act.put, List.setIfInBounds_toArray, List.set_cons_zero, List.set_cons_succ]
      refine wpAnyH_take (i := 3) (v := ?_) rfl (by kernel_rfl) (by kernel_rfl) (by kernel_rfl) (fun _ _ _ h => h) (Or.inl ⟨by rfl, ?_⟩) (by assumption) ?_
      rotate_left 1
      · intro w' hSw
        have hl0 := (hSw.cell (p := ⟨g, t, none⟩) hlg).trans hc
        have hl1 := (hSw.cell (p := ⟨G, 0, none⟩) hlG).trans hG0
        clear hSw
        go_simp
        try (with_reducible rfl)
      try simp only [List.getElem_toArray, List.getElem_cons_zero, List.getElem_cons_succ, Act.put, List.setIfInBounds_toArray, List.set_cons_zero, List.set_cons_succ]
      refine wpAnyH_take (i := 4) (v := ?_) rfl (by kernel_rfl) (by kernel_rfl) (by kernel_rfl) (fun _ _ _ h => h) (Or.inl ⟨by rfl, ?_⟩) (by assumption) ?_
      rotate_left 1
      · intro w' hSw
        have hl0 := (hSw.cell (p := ⟨g, t, none⟩) hlg).trans hc
        have hl1 := (hSw.cell (p := ⟨G, 0, none⟩) hlG).trans hG0
        clear hSw
        go_simp
        try (with_reducible rfl)
      try simp only [List.getElem_toArray, List.getElem_cons_zero, List.getElem_cons_succ, Act.put, List.setIfInBounds_toArray, List.set_cons_zero, List.set_cons_succ]
      refine wpAnyH_take (i := 5) (v := ?_) rfl (by kernel_rfl) (by kernel_rfl) (by kernel_rfl) (fun _ _ _ h => h) (Or.inl ⟨by rfl, ?_⟩) (by assumption) ?_
      rotate_left 1
      · intro w' hSw
        have hl0 := (hSw.cell (p := ⟨g, t, none⟩) hlg).trans hc
        have hl1 := (hSw.cell (p := ⟨G, 0, none⟩) hlG).trans hG0
        clear hSw
        go_simp
        try (with_reducible rfl)
      try simp only [List.getElem_toArray, List.getElem_cons_zero, List.getElem_cons_succ, Act.put, List.setIfInBounds_toArray, List.set_cons_zero, List.set_cons_succ]
      refine wpAnyH_take (i := 7) (v := ?_) rfl (by kernel_rfl) (by kernel_rfl) (by kernel_rfl) (fun _ _ _ h => h) (Or.inl ⟨by rfl, ?_⟩) (by assumption) ?_
      rotate_left 1
      · intro w' hSw
        have hl0 := (hSw.cell (p := ⟨g, t, none⟩) hlg).trans hc
        have hl1 := (hSw.cell (p := ⟨G, 0, none⟩) hlG).trans hG0
        clear hSw
        go_simp
        try (with_reducible rfl)
      try simp only [List.getElem_toArray, List.getElem_cons_zero, List.getElem_cons_succ, Act.put, List.setIfInBounds_toArray, List.set_cons_zero, List.set_cons_succ]
      refine wpAnyH_take (i := 8) (v := ?_) rfl (by kernel_rfl) (by kernel_rfl) (by kernel_rfl) (fun _ _ _ h => h) (Or.inl ⟨by rfl, ?_⟩) (by assumption) ?_
      rotate_left 1
      · intro w' hSw
        have hl0 := (hSw.cell (p := ⟨g, t, none⟩) hlg).trans hc
        have hl1 := (hSw.cell (p := ⟨G, 0, none⟩) hlG).trans hG0
        clear hSw
        go_simp
        try (with_reducible rfl)
      try simp only [List.getElem_toArray, List.getElem_cons_zero, List.getElem_cons_succ, Act.put, List.setIfInBounds_toArray, List.set_cons_zero, List.set_cons_succ]
      refine wpAnyH_ready (rs := [6]) (by kernel_rfl) (by simp) ?_
      refine AllReadyH.cons rfl (fun K hK => ?_) AllReadyH.nil
      go_simp
      have hC6 : Blk (q0.alloc (.cells #[.int .i64 (-4611686018427387904)] 3)) q0.heap.size 3 #[.int .i64 (-4611686018427387904)] := Blk.new _ _ _
      have hh := hHeld.alloc hHeld.size (.cells #[.int .i64 (-4611686018427387904)] 3)
      clear hHeld
      refine hK.out _ _ ?_ (fun hHeld => ?_)
      · exact hh
      clear hK K hh
      try simp only [lay]
      generalize (q0.alloc (.cells #[.int .i64 (-4611686018427387904)] 3)) = q1 at *
      generalize q0.heap.size = C6 at *
      refine wpAnyH_ready (rs := [9]) (by kernel_rfl) (by simp) ?_
      refine AllReadyH.cons rfl (fun K hK => ?_) AllReadyH.nil
      go_simp
      refine (repeat_at C6 0 _ (-4611686018427387904) N _ (hC6.cell 0) hC6.lt hN').mono ?_
      rintro e w7 ⟨gn, os7, d7, rfl, hgn, rfl, hB7⟩
      have hh : Below wr.heap.size wr (q1.more os7 d7) := hHeld.trans (below_more q1 os7 d7 _ hHeld.size)
      have hgr : wr.heap.size ≤ gn := by rw [← hgn]; exact hHeld.size
      clear hHeld hgn hC6
      refine hK.out _ _ ?_ (fun hHeld => ?_)
      · exact hh
      clear hK K hh
      try simp only [lay]
      generalize q1.more os7 d7 = wq at *
      refine wpAnyH_take (i := 10) (v := ?_) rfl (by kernel_rfl) (by kernel_rfl) (by kernel_rfl) (fun _ _ _ h => h) (Or.inl ⟨by rfl, ?_⟩) (by assumption) ?_
      rotate_left 1
      · intro w' hSw
        have hl0 := (hSw.cell (p := ⟨g, t, none⟩) hlg).trans hc
        have hl1 := (hSw.cell (p := ⟨G, 0, none⟩) hlG).trans hG0
        clear hSw
        go_simp
        try (with_reducible rfl)
      try simp only [List.getElem_toArray, List.getElem_cons_zero, List.getElem_cons_succ, Act.put, List.setIfInBounds_toArray, List.set_cons_zero, List.set_cons_succ]
      refine wpAnyH_take (i := 11) (v := ?_) rfl (by kernel_rfl) (by kernel_rfl) (by kernel_rfl) (fun _ _ _ h => h) (Or.inl ⟨by rfl, ?_⟩) (by assumption) ?_
      rotate_left 1
      · intro w' hSw
        have hl0 := (hSw.cell (p := ⟨g, t, none⟩) hlg).trans hc
        have hl1 := (hSw.cell (p := ⟨G, 0, none⟩) hlG).trans hG0
        clear hSw
        go_simp
        try (with_reducible rfl)
      try simp only [List.getElem_toArray, List.getElem_cons_zero, List.getElem_cons_succ, Act.put, List.setIfInBounds_toArray, List.set_cons_zero, List.set_cons_succ]
      refine wpAnyH_done (by kernel_rfl) ?_ _
      have hlgl := HW.lt
      have hne : gl ≠ gn := by omega
      have hownq := own_off hown (Off.of_below hHeld : Off (fun _ => False) wr wq) (fun _ _ h => h)
      have HTq : Hid (Tab wq N gb (mF f n) (t + 1)) := hT.out.off (Off.of_below hHeld : Off (fun _ => False) wr wq) (fun _ _ h => h)
      have hTl : Hid (∀ q, q < t + 1 → gb q < wr.heap.size) := fun q hq => (hT.out q hq).lt
      have hbq : Below wg.heap.size wg wq := hbe.trans (hHeld.mono hsz)
      have hWq := HW.below hHeld hlgl
      have hGq0 : wq.cell? ⟨G, 0, none⟩ = some (.int .i64 N) := (hHeld.cell (p := ⟨G, 0, none⟩) hlG).trans hG0
      have hGq1 : wq.cell? ⟨G, 1, none⟩ = some (.slice a n c) := (hHeld.cell (p := ⟨G, 1, none⟩) hlG).trans hG1
      have hlGq : G < wq.heap.size := by have := hHeld.size; omega
      have hlgn := hB7.lt
      have hgn2 : wg.heap.size ≤ gn := by omega
      have hqsz := hHeld.size
      clear hown hT hbe HW hG0 hG1 hc hHeld
      go_wp2_with fail
      clear hGq0 hGq1 hlGq
      obtain ⟨wo, rfl⟩ : ∃ wo : World, wo = wr := ⟨_, rfl⟩
      go_loopw [29] (fun i wx => ∃ k : Nat, i = .int .i64 k ∧ k ≤ n ∧ Off (fun y => y = gn) wq wx ∧ Blk wx gn 3 (cellsOf N (mRow f (mF f n t) k)).toArray) (fun i _ => n - (intOf i).toNat)
      case atStart => exact ⟨0, rfl, Nat.zero_le _, Off.refl _ _, hB7⟩
      case round =>
        clear hB7
        obtain ⟨k, rfl, hk, hoff, hBn⟩ := hrel
        have hxs := hoff.size
        have hbx : Below wg.heap.size wg wr := hbq.trans (hoff.below (B := wg.heap.size) (fun y hy => by omega) (by omega))
        by_cases hkn : k < n
        · have t2 : (k : Int) < (n : Int) := by omega
          obtain ⟨b, off, x, y, z, rfl, hb, hcx, hcy, hcz, hx, hy, hz⟩ := (hf.below hbx (Nat.le_refl _)).at3 hkn
          have hff := HG.out.2.2.2 k hkn
          rw [← hx.out, ← hy.out, ← hz.out] at hff
          obtain ⟨f1, f2, f3, f4, f5, f6⟩ := hff
          obtain ⟨X, rfl⟩ : ∃ X : Nat, x = X := ⟨x.toNat, by omega⟩
          obtain ⟨Y, rfl⟩ : ∃ Y : Nat, y = Y := ⟨y.toNat, by omega⟩
          have hX : X < N := by omega
          have hY : Y < N := by omega
          have hWx := hWq.off hoff (fun h => hne h)
          have cu := blkAt hWx hX
          have cv := blkAt hBn hY
          have hok := mF_ok HG.out t (by omega) X hX
          have hok2 := mRow_ok HG.out (show 0 ≤ 1048576 * (t : Int) ∧ 1048576 * (t : Int) ≤ 1000000000 by omega) (mF_ok HG.out t (by omega)) hk hY
          have HR : Hid (mRow f (mF f n t) (k + 1) = if -4611686018427387904 < mF f n t X then putAt (mRow f (mF f n t) k) Y (max (mRow f (mF f n t) k Y) (mF f n t X + z)) else mRow f (mF f n t) k) := by
            show mRow f (mF f n t) (k + 1) = _
            rw [mRow_succ]
            rw [← hx.out, ← hy.out, ← hz.out, Int.toNat_natCast, Int.toNat_natCast]
          obtain ⟨u, hu⟩ : ∃ u, mF f n t X = u := ⟨_, rfl⟩
          obtain ⟨v, hv⟩ : ∃ v, mRow f (mF f n t) k Y = v := ⟨_, rfl⟩
          rw [hu] at cu hok HR
          rw [hv] at cv hok2 HR
          have lgl := hWx.lt
          have lgn := hBn.lt
          have hok9 : u = -4611686018427387904 ∨ -400000000 ≤ u ∧ u ≤ 400000000 := by unfold MOk at hok; omega
          have hok8 : v = -4611686018427387904 ∨ -400000000 ≤ v ∧ v ≤ 400000000 := by unfold MOk at hok2; omega
          have HF := Lib.hid cv
          have hfz := fun i => hBn.frozen i
          clear hok hok2 hu hv hWx cv
          have hX0 : (0 : Int) ≤ (X : Int) := by omega
          have hXn : (X : Int) < (N : Int) := by omega
          go_upto_region 8 with fail
          have hE : Blk (wr.alloc (.cells #[.int .i64 X, .int .i64 Y, .int .i64 z] 32)) wr.heap.size 32 #[.int .i64 X, .int .i64 Y, .int .i64 z] := Blk.new _ _ _
          replace hBn := hBn.alloc (.cells #[.int .i64 X, .int .i64 Y, .int .i64 z] 32)
          replace hoff := hoff.alloc (.cells #[.int .i64 X, .int .i64 Y, .int .i64 z] 32)
          replace cu : (wr.alloc (.cells #[.int .i64 X, .int .i64 Y, .int .i64 z] 32)).cell? ⟨gl, X, none⟩ = some (.int .i64 u) := (World.cell?_alloc_past _ _ _ lgl).trans cu
          have e0 : (wr.alloc (.cells #[.int .i64 X, .int .i64 Y, .int .i64 z] 32)).cell? ⟨wr.heap.size, 0, none⟩ = some (.int .i64 X) := hE.cell 0
          have e1 : (wr.alloc (.cells #[.int .i64 X, .int .i64 Y, .int .i64 z] 32)).cell? ⟨wr.heap.size, 1, none⟩ = some (.int .i64 Y) := hE.cell 1
          have e2 : (wr.alloc (.cells #[.int .i64 X, .int .i64 Y, .int .i64 z] 32)).cell? ⟨wr.heap.size, 2, none⟩ = some (.int .i64 z) := hE.cell 2
          have cv : (wr.alloc (.cells #[.int .i64 X, .int .i64 Y, .int .i64 z] 32)).cell? ⟨gn, Y, none⟩ = some (.int .i64 v) := (World.cell?_alloc_past _ _ _ lgn).trans HF.out
          have lE := hE.lt
          replace lgl := Nat.lt_trans lgl lE
          replace lgn := Nat.lt_trans lgn lE
          clear hcx hcy hcz hb HF hbx hxs hfz hE
          generalize wr.alloc (.cells #[.int .i64 X, .int .i64 Y, .int .i64 z] 32) = we at *
          generalize wr.heap.size = E at *
          by_cases hgt : -4611686018427387904 < u
          · have d1 : decide (-4611686018427387904 < u) = true := by simpa using hgt
            have hR2 := HR.out
            rw [if_pos hgt] at hR2
            have HR3 := Lib.hid hR2
            have iw : IntKind.i64.wrap (u + z) = u + z := IntWalk.i64_in _ (by omega)
            clear hR2
            have hY0 : (0 : Int) ≤ (Y : Int) := by omega
            have hYn : (Y : Int) < (N : Int) := by omega
            have hfz : ∀ i, we.frozen? ⟨gn, i, none⟩ = false := fun i => hBn.frozen i
            go_upto_region 9 with fail
            by_cases h9 : v < u + z
            · have d9 : decide (v < u + z) = true := by simpa using h9
              refine wp_region_two (S := (fun w' => Below we.heap.size we w')) 18 (by kernel_rfl) ?_ (fun hHeld => ?_)
              · exact (Below.refl _ _).drew
              refine two_take (i := 0) (v := ?_) rfl (by kernel_rfl) (by kernel_rfl) (fun _ _ _ h => h) (Or.inl ⟨by rfl, ?_⟩) (by assumption) ?_
              rotate_left 1
              · intro w' hSw
                have hl0 := (hSw.cell (p := ⟨E, 0, none⟩) lE).trans e0
                have hl1 := (hSw.cell (p := ⟨E, 1, none⟩) lE).trans e1
                have hl2 := (hSw.cell (p := ⟨E, 2, none⟩) lE).trans e2
                have hl3 := (hSw.cell (p := ⟨gl, X, none⟩) lgl).trans cu
                have hl4 := (hSw.cell (p := ⟨gn, Y, none⟩) lgn).trans cv
                clear hSw
                go_simp
                try (with_reducible rfl)
              try simp only [List.getElem_toArray, List.getElem_cons_zero, List.getElem_cons_succ, Act.put, List.setIfInBounds_toArray, List.set_cons_zero, List.set_cons_succ]
              refine two_take (i := 1) (v := ?_) rfl (by kernel_rfl) (by kernel_rfl) (fun _ _ _ h => h) (Or.inl ⟨by rfl, ?_⟩) (by assumption) ?_
              rotate_left 1
              · intro w' hSw
                have hl0 := (hSw.cell (p := ⟨E, 0, none⟩) lE).trans e0
                have hl1 := (hSw.cell (p := ⟨E, 1, none⟩) lE).trans e1
                have hl2 := (hSw.cell (p := ⟨E, 2, none⟩) lE).trans e2
                have hl3 := (hSw.cell (p := ⟨gl, X, none⟩) lgl).trans cu
                have hl4 := (hSw.cell (p := ⟨gn, Y, none⟩) lgn).trans cv
                clear hSw
                go_simp
                try (with_reducible rfl)
              try simp only [List.getElem_toArray, List.getElem_cons_zero, List.getElem_cons_succ, Act.put, List.setIfInBounds_toArray, List.set_cons_zero, List.set_cons_succ]
              refine two_take (i := 2) (v := ?_) rfl (by kernel_rfl) (by kernel_rfl) (fun _ _ _ h => h) (Or.inl ⟨by rfl, ?_⟩) (by assumption) ?_
              rotate_left 1
              · intro w' hSw
                have hl0 := (hSw.cell (p := ⟨E, 0, none⟩) lE).trans e0
                have hl1 := (hSw.cell (p := ⟨E, 1, none⟩) lE).trans e1
                have hl2 := (hSw.cell (p := ⟨E, 2, none⟩) lE).trans e2
                have hl3 := (hSw.cell (p := ⟨gl, X, none⟩) lgl).trans cu
                have hl4 := (hSw.cell (p := ⟨gn, Y, none⟩) lgn).trans cv
                clear hSw
                go_simp
                try (with_reducible rfl)
              try simp only [List.getElem_toArray, List.getElem_cons_zero, List.getElem_cons_succ, Act.put, List.setIfInBounds_toArray, List.set_cons_zero, List.set_cons_succ]
              refine two_take (i := 3) (v := ?_) rfl (by kernel_rfl) (by kernel_rfl) (fun _ _ _ h => h) (Or.inl ⟨by rfl, ?_⟩) (by assumption) ?_
              rotate_left 1
              · intro w' hSw
                have hl0 := (hSw.cell (p := ⟨E, 0, none⟩) lE).trans e0
                have hl1 := (hSw.cell (p := ⟨E, 1, none⟩) lE).trans e1
                have hl2 := (hSw.cell (p := ⟨E, 2, none⟩) lE).trans e2
                have hl3 := (hSw.cell (p := ⟨gl, X, none⟩) lgl).trans cu
                have hl4 := (hSw.cell (p := ⟨gn, Y, none⟩) lgn).trans cv
                clear hSw
                go_simp
                try (with_reducible rfl)
              try simp only [List.getElem_toArray, List.getElem_cons_zero, List.getElem_cons_succ, Act.put, List.setIfInBounds_toArray, List.set_cons_zero, List.set_cons_succ]
              refine two_take (i := 4) (v := ?_) rfl (by kernel_rfl) (by kernel_rfl) (fun _ _ _ h => h) (Or.inl ⟨by rfl, ?_⟩) (by assumption) ?_
              rotate_left 1
              · intro w' hSw
                have hl0 := (hSw.cell (p := ⟨E, 0, none⟩) lE).trans e0
                have hl1 := (hSw.cell (p := ⟨E, 1, none⟩) lE).trans e1
                have hl2 := (hSw.cell (p := ⟨E, 2, none⟩) lE).trans e2
                have hl3 := (hSw.cell (p := ⟨gl, X, none⟩) lgl).trans cu
                have hl4 := (hSw.cell (p := ⟨gn, Y, none⟩) lgn).trans cv
                clear hSw
                go_simp
                try (with_reducible rfl)
              try simp only [List.getElem_toArray, List.getElem_cons_zero, List.getElem_cons_succ, Act.put, List.setIfInBounds_toArray, List.set_cons_zero, List.set_cons_succ]
              refine two_take (i := 5) (v := ?_) rfl (by kernel_rfl) (by kernel_rfl) (fun _ _ _ h => h) (Or.inl ⟨by rfl, ?_⟩) (by assumption) ?_
              rotate_left 1
              · intro w' hSw
                have hl0 := (hSw.cell (p := ⟨E, 0, none⟩) lE).trans e0
                have hl1 := (hSw.cell (p := ⟨E, 1, none⟩) lE).trans e1
                have hl2 := (hSw.cell (p := ⟨E, 2, none⟩) lE).trans e2
                have hl3 := (hSw.cell (p := ⟨gl, X, none⟩) lgl).trans cu
                have hl4 := (hSw.cell (p := ⟨gn, Y, none⟩) lgn).trans cv
                clear hSw
                go_simp
                try (with_reducible rfl)
              try simp only [List.getElem_toArray, List.getElem_cons_zero, List.getElem_cons_succ, Act.put, List.setIfInBounds_toArray, List.set_cons_zero, List.set_cons_succ]
              refine two_take (i := 6) (v := ?_) rfl (by kernel_rfl) (by kernel_rfl) (fun _ _ _ h => h) (Or.inl ⟨by rfl, ?_⟩) (by assumption) ?_
              rotate_left 1
              · intro w' hSw
                have hl0 := (hSw.cell (p := ⟨E, 0, none⟩) lE).trans e0
                have hl1 := (hSw.cell (p := ⟨E, 1, none⟩) lE).trans e1
                have hl2 := (hSw.cell (p := ⟨E, 2, none⟩) lE).trans e2
                have hl3 := (hSw.cell (p := ⟨gl, X, none⟩) lgl).trans cu
                have hl4 := (hSw.cell (p := ⟨gn, Y, none⟩) lgn).trans cv
                clear hSw
                go_simp
                try (with_reducible rfl)
              try simp only [List.getElem_toArray, List.getElem_cons_zero, List.getElem_cons_succ, Act.put, List.setIfInBounds_toArray, List.set_cons_zero, List.set_cons_succ]
              refine two_take (i := 7) (v := ?_) rfl (by kernel_rfl) (by kernel_rfl) (fun _ _ _ h => h) (Or.inl ⟨by rfl, ?_⟩) (by assumption) ?_
              rotate_left 1
              · intro w' hSw
                have hl0 := (hSw.cell (p := ⟨E, 0, none⟩) lE).trans e0
                have hl1 := (hSw.cell (p := ⟨E, 1, none⟩) lE).trans e1
                have hl2 := (hSw.cell (p := ⟨E, 2, none⟩) lE).trans e2
                have hl3 := (hSw.cell (p := ⟨gl, X, none⟩) lgl).trans cu
                have hl4 := (hSw.cell (p := ⟨gn, Y, none⟩) lgn).trans cv
                clear hSw
                go_simp
                try (with_reducible rfl)
              try simp only [List.getElem_toArray, List.getElem_cons_zero, List.getElem_cons_succ, Act.put, List.setIfInBounds_toArray, List.set_cons_zero, List.set_cons_succ]
              refine two_take (i := 8) (v := ?_) rfl (by kernel_rfl) (by kernel_rfl) (fun _ _ _ h => h) (Or.inl ⟨by rfl, ?_⟩) (by assumption) ?_
              rotate_left 1
              · intro w' hSw
                have hl0 := (hSw.cell (p := ⟨E, 0, none⟩) lE).trans e0
                have hl1 := (hSw.cell (p := ⟨E, 1, none⟩) lE).trans e1
                have hl2 := (hSw.cell (p := ⟨E, 2, none⟩) lE).trans e2
                have hl3 := (hSw.cell (p := ⟨gl, X, none⟩) lgl).trans cu
                have hl4 := (hSw.cell (p := ⟨gn, Y, none⟩) lgn).trans cv
                clear hSw
                go_simp
                try (with_reducible rfl)
              try simp only [List.getElem_toArray, List.getElem_cons_zero, List.getElem_cons_succ, Act.put, List.setIfInBounds_toArray, List.set_cons_zero, List.set_cons_succ]
              refine two_take (i := 9) (v := ?_) rfl (by kernel_rfl) (by kernel_rfl) (fun _ _ _ h => h) (Or.inl ⟨by rfl, ?_⟩) (by assumption) ?_
              rotate_left 1
              · intro w' hSw
                have hl0 := (hSw.cell (p := ⟨E, 0, none⟩) lE).trans e0
                have hl1 := (hSw.cell (p := ⟨E, 1, none⟩) lE).trans e1
                have hl2 := (hSw.cell (p := ⟨E, 2, none⟩) lE).trans e2
                have hl3 := (hSw.cell (p := ⟨gl, X, none⟩) lgl).trans cu
                have hl4 := (hSw.cell (p := ⟨gn, Y, none⟩) lgn).trans cv
                clear hSw
                go_simp
                try (with_reducible rfl)
              try simp only [List.getElem_toArray, List.getElem_cons_zero, List.getElem_cons_succ, Act.put, List.setIfInBounds_toArray, List.set_cons_zero, List.set_cons_succ]
              refine two_take (i := 10) (v := ?_) rfl (by kernel_rfl) (by kernel_rfl) (fun _ _ _ h => h) (Or.inl ⟨by rfl, ?_⟩) (by assumption) ?_
              rotate_left 1
              · intro w' hSw
                have hl0 := (hSw.cell (p := ⟨E, 0, none⟩) lE).trans e0
                have hl1 := (hSw.cell (p := ⟨E, 1, none⟩) lE).trans e1
                have hl2 := (hSw.cell (p := ⟨E, 2, none⟩) lE).trans e2
                have hl3 := (hSw.cell (p := ⟨gl, X, none⟩) lgl).trans cu
                have hl4 := (hSw.cell (p := ⟨gn, Y, none⟩) lgn).trans cv
                clear hSw
                go_simp
                try (with_reducible rfl)
              try simp only [List.getElem_toArray, List.getElem_cons_zero, List.getElem_cons_succ, Act.put, List.setIfInBounds_toArray, List.set_cons_zero, List.set_cons_succ]
              refine two_take (i := 11) (v := ?_) rfl (by kernel_rfl) (by kernel_rfl) (fun _ _ _ h => h) (Or.inl ⟨by rfl, ?_⟩) (by assumption) ?_
              rotate_left 1
              · intro w' hSw
                have hl0 := (hSw.cell (p := ⟨E, 0, none⟩) lE).trans e0
                have hl1 := (hSw.cell (p := ⟨E, 1, none⟩) lE).trans e1
                have hl2 := (hSw.cell (p := ⟨E, 2, none⟩) lE).trans e2
                have hl3 := (hSw.cell (p := ⟨gl, X, none⟩) lgl).trans cu
                have hl4 := (hSw.cell (p := ⟨gn, Y, none⟩) lgn).trans cv
                clear hSw
                go_simp
                try (with_reducible rfl)
              try simp only [List.getElem_toArray, List.getElem_cons_zero, List.getElem_cons_succ, Act.put, List.setIfInBounds_toArray, List.set_cons_zero, List.set_cons_succ]
              refine two_take (i := 12) (v := ?_) rfl (by kernel_rfl) (by kernel_rfl) (fun _ _ _ h => h) (Or.inl ⟨by rfl, ?_⟩) (by assumption) ?_
              rotate_left 1
              · intro w' hSw
                have hl0 := (hSw.cell (p := ⟨E, 0, none⟩) lE).trans e0
                have hl1 := (hSw.cell (p := ⟨E, 1, none⟩) lE).trans e1
                have hl2 := (hSw.cell (p := ⟨E, 2, none⟩) lE).trans e2
                have hl3 := (hSw.cell (p := ⟨gl, X, none⟩) lgl).trans cu
                have hl4 := (hSw.cell (p := ⟨gn, Y, none⟩) lgn).trans cv
                clear hSw
                go_simp
                try (with_reducible rfl)
              try simp only [List.getElem_toArray, List.getElem_cons_zero, List.getElem_cons_succ, Act.put, List.setIfInBounds_toArray, List.set_cons_zero, List.set_cons_succ]
              refine two_take (i := 13) (v := ?_) rfl (by kernel_rfl) (by kernel_rfl) (fun _ _ _ h => h) (Or.inl ⟨by rfl, ?_⟩) (by assumption) ?_
              rotate_left 1
              · intro w' hSw
                have hl0 := (hSw.cell (p := ⟨E, 0, none⟩) lE).trans e0
                have hl1 := (hSw.cell (p := ⟨E, 1, none⟩) lE).trans e1
                have hl2 := (hSw.cell (p := ⟨E, 2, none⟩) lE).trans e2
                have hl3 := (hSw.cell (p := ⟨gl, X, none⟩) lgl).trans cu
                have hl4 := (hSw.cell (p := ⟨gn, Y, none⟩) lgn).trans cv
                clear hSw
                go_simp
                try (with_reducible rfl)
              try simp only [List.getElem_toArray, List.getElem_cons_zero, List.getElem_cons_succ, Act.put, List.setIfInBounds_toArray, List.set_cons_zero, List.set_cons_succ]
              refine two_take (i := 14) (v := ?_) rfl (by kernel_rfl) (by kernel_rfl) (fun _ _ _ h => h) (Or.inl ⟨by rfl, ?_⟩) (by assumption) ?_
              rotate_left 1
              · intro w' hSw
                have hl0 := (hSw.cell (p := ⟨E, 0, none⟩) lE).trans e0
                have hl1 := (hSw.cell (p := ⟨E, 1, none⟩) lE).trans e1
                have hl2 := (hSw.cell (p := ⟨E, 2, none⟩) lE).trans e2
                have hl3 := (hSw.cell (p := ⟨gl, X, none⟩) lgl).trans cu
                have hl4 := (hSw.cell (p := ⟨gn, Y, none⟩) lgn).trans cv
                clear hSw
                go_simp
                try (with_reducible rfl)
              try simp only [List.getElem_toArray, List.getElem_cons_zero, List.getElem_cons_succ, Act.put, List.setIfInBounds_toArray, List.set_cons_zero, List.set_cons_succ]
              refine two_take (i := 15) (v := ?_) rfl (by kernel_rfl) (by kernel_rfl) (fun _ _ _ h => h) (Or.inl ⟨by rfl, ?_⟩) (by assumption) ?_
              rotate_left 1
              · intro w' hSw
                have hl0 := (hSw.cell (p := ⟨E, 0, none⟩) lE).trans e0
                have hl1 := (hSw.cell (p := ⟨E, 1, none⟩) lE).trans e1
                have hl2 := (hSw.cell (p := ⟨E, 2, none⟩) lE).trans e2
                have hl3 := (hSw.cell (p := ⟨gl, X, none⟩) lgl).trans cu
                have hl4 := (hSw.cell (p := ⟨gn, Y, none⟩) lgn).trans cv
                clear hSw
                go_simp
                try (with_reducible rfl)
              try simp only [List.getElem_toArray, List.getElem_cons_zero, List.getElem_cons_succ, Act.put, List.setIfInBounds_toArray, List.set_cons_zero, List.set_cons_succ]
              refine two_take (i := 16) (v := ?_) rfl (by kernel_rfl) (by kernel_rfl) (fun _ _ _ h => h) (Or.inl ⟨by rfl, ?_⟩) (by assumption) ?_
              rotate_left 1
              · intro w' hSw
                have hl0 := (hSw.cell (p := ⟨E, 0, none⟩) lE).trans e0
                have hl1 := (hSw.cell (p := ⟨E, 1, none⟩) lE).trans e1
                have hl2 := (hSw.cell (p := ⟨E, 2, none⟩) lE).trans e2
                have hl3 := (hSw.cell (p := ⟨gl, X, none⟩) lgl).trans cu
                have hl4 := (hSw.cell (p := ⟨gn, Y, none⟩) lgn).trans cv
                clear hSw
                go_simp
                try (with_reducible rfl)
              try simp only [List.getElem_toArray, List.getElem_cons_zero, List.getElem_cons_succ, Act.put, List.setIfInBounds_toArray, List.set_cons_zero, List.set_cons_succ]
              refine two_take (i := 17) (v := ?_) rfl (by kernel_rfl) (by kernel_rfl) (fun _ _ _ h => h) (Or.inl ⟨by rfl, ?_⟩) (by assumption) ?_
              rotate_left 1
              · intro w' hSw
                have hl0 := (hSw.cell (p := ⟨E, 0, none⟩) lE).trans e0
                have hl1 := (hSw.cell (p := ⟨E, 1, none⟩) lE).trans e1
                have hl2 := (hSw.cell (p := ⟨E, 2, none⟩) lE).trans e2
                have hl3 := (hSw.cell (p := ⟨gl, X, none⟩) lgl).trans cu
                have hl4 := (hSw.cell (p := ⟨gn, Y, none⟩) lgn).trans cv
                clear hSw
                go_simp
                try (with_reducible rfl)
              try simp only [List.getElem_toArray, List.getElem_cons_zero, List.getElem_cons_succ, Act.put, List.setIfInBounds_toArray, List.set_cons_zero, List.set_cons_succ]
              refine two_ready (rs := [18]) (by kernel_rfl) (by kernel_rfl) (by simp) ?_
              refine AllReadyB.last rfl (fun K hK => ?_)
              go_simp
              refine hK.out _ _ ?_
              clear hK K
              try simp only [List.getElem_toArray, List.getElem_cons_zero, List.getElem_cons_succ, Act.put, List.setIfInBounds_toArray, List.set_cons_zero, List.set_cons_succ]
              refine two_late (by kernel_rfl) ?_
              refine wpAny_done (by kernel_rfl) ?_ _
              have HN : Hid (Blk (we.setCell ⟨gn, Y, none⟩ (.int .i64 (u + z))).drew gn 3 (cellsOf N (mRow f (mF f n t) (k + 1))).toArray) := by
                have h := hBn.put Y (.int .i64 (u + z))
                rw [cells_puts] at h
                rw [HR3.out, show max v (u + z) = u + z by omega]
                exact h
              have hO2 : Off (fun y => y = gn) wq (we.setCell ⟨gn, Y, none⟩ (.int .i64 (u + z))).drew := (hoff.setCell (p := ⟨gn, Y, none⟩) (fun _ => rfl) _).drew
              clear hBn hoff cu cv e0 e1 e2 hfz
              go_wp2
              go_roundw
              case rel => exact ⟨k + 1, by go_num, by omega, hO2, HN.out⟩
              case measure => simp [intOf]; omega
            · have d9 : decide (v < u + z) = false := by simpa using h9
              refine wp_region_two (S := (fun w' => Below we.heap.size we w')) 18 (by kernel_rfl) ?_ (fun hHeld => ?_)
              · exact (Below.refl _ _).drew
              refine two_take (i := 0) (v := ?_) rfl (by kernel_rfl) (by kernel_rfl) (fun _ _ _ h => h) (Or.inl ⟨by rfl, ?_⟩) (by assumption) ?_
              rotate_left 1
              · intro w' hSw
                have hl0 := (hSw.cell (p := ⟨E, 0, none⟩) lE).trans e0
                have hl1 := (hSw.cell (p := ⟨E, 1, none⟩) lE).trans e1
                have hl2 := (hSw.cell (p := ⟨E, 2, none⟩) lE).trans e2
                have hl3 := (hSw.cell (p := ⟨gl, X, none⟩) lgl).trans cu
                have hl4 := (hSw.cell (p := ⟨gn, Y, none⟩) lgn).trans cv
                clear hSw
                go_simp
                try (with_reducible rfl)
              try simp only [List.getElem_toArray, List.getElem_cons_zero, List.getElem_cons_succ, Act.put, List.setIfInBounds_toArray, List.set_cons_zero, List.set_cons_succ]
              refine two_take (i := 1) (v := ?_) rfl (by kernel_rfl) (by kernel_rfl) (fun _ _ _ h => h) (Or.inl ⟨by rfl, ?_⟩) (by assumption) ?_
              rotate_left 1
              · intro w' hSw
                have hl0 := (hSw.cell (p := ⟨E, 0, none⟩) lE).trans e0
                have hl1 := (hSw.cell (p := ⟨E, 1, none⟩) lE).trans e1
                have hl2 := (hSw.cell (p := ⟨E, 2, none⟩) lE).trans e2
                have hl3 := (hSw.cell (p := ⟨gl, X, none⟩) lgl).trans cu
                have hl4 := (hSw.cell (p := ⟨gn, Y, none⟩) lgn).trans cv
                clear hSw
                go_simp
                try (with_reducible rfl)
              try simp only [List.getElem_toArray, List.getElem_cons_zero, List.getElem_cons_succ, Act.put, List.setIfInBounds_toArray, List.set_cons_zero, List.set_cons_succ]
              refine two_take (i := 2) (v := ?_) rfl (by kernel_rfl) (by kernel_rfl) (fun _ _ _ h => h) (Or.inl ⟨by rfl, ?_⟩) (by assumption) ?_
              rotate_left 1
              · intro w' hSw
                have hl0 := (hSw.cell (p := ⟨E, 0, none⟩) lE).trans e0
                have hl1 := (hSw.cell (p := ⟨E, 1, none⟩) lE).trans e1
                have hl2 := (hSw.cell (p := ⟨E, 2, none⟩) lE).trans e2
                have hl3 := (hSw.cell (p := ⟨gl, X, none⟩) lgl).trans cu
                have hl4 := (hSw.cell (p := ⟨gn, Y, none⟩) lgn).trans cv
                clear hSw
                go_simp
                try (with_reducible rfl)
              try simp only [List.getElem_toArray, List.getElem_cons_zero, List.getElem_cons_succ, Act.put, List.setIfInBounds_toArray, List.set_cons_zero, List.set_cons_succ]
              refine two_take (i := 3) (v := ?_) rfl (by kernel_rfl) (by kernel_rfl) (fun _ _ _ h => h) (Or.inl ⟨by rfl, ?_⟩) (by assumption) ?_
              rotate_left 1
              · intro w' hSw
                have hl0 := (hSw.cell (p := ⟨E, 0, none⟩) lE).trans e0
                have hl1 := (hSw.cell (p := ⟨E, 1, none⟩) lE).trans e1
                have hl2 := (hSw.cell (p := ⟨E, 2, none⟩) lE).trans e2
                have hl3 := (hSw.cell (p := ⟨gl, X, none⟩) lgl).trans cu
                have hl4 := (hSw.cell (p := ⟨gn, Y, none⟩) lgn).trans cv
                clear hSw
                go_simp
                try (with_reducible rfl)
              try simp only [List.getElem_toArray, List.getElem_cons_zero, List.getElem_cons_succ, Act.put, List.setIfInBounds_toArray, List.set_cons_zero, List.set_cons_succ]
              refine two_take (i := 4) (v := ?_) rfl (by kernel_rfl) (by kernel_rfl) (fun _ _ _ h => h) (Or.inl ⟨by rfl, ?_⟩) (by assumption) ?_
              rotate_left 1
              · intro w' hSw
                have hl0 := (hSw.cell (p := ⟨E, 0, none⟩) lE).trans e0
                have hl1 := (hSw.cell (p := ⟨E, 1, none⟩) lE).trans e1
                have hl2 := (hSw.cell (p := ⟨E, 2, none⟩) lE).trans e2
                have hl3 := (hSw.cell (p := ⟨gl, X, none⟩) lgl).trans cu
                have hl4 := (hSw.cell (p := ⟨gn, Y, none⟩) lgn).trans cv
                clear hSw
                go_simp
                try (with_reducible rfl)
              try simp only [List.getElem_toArray, List.getElem_cons_zero, List.getElem_cons_succ, Act.put, List.setIfInBounds_toArray, List.set_cons_zero, List.set_cons_succ]
              refine two_take (i := 5) (v := ?_) rfl (by kernel_rfl) (by kernel_rfl) (fun _ _ _ h => h) (Or.inl ⟨by rfl, ?_⟩) (by assumption) ?_
              rotate_left 1
              · intro w' hSw
                have hl0 := (hSw.cell (p := ⟨E, 0, none⟩) lE).trans e0
                have hl1 := (hSw.cell (p := ⟨E, 1, none⟩) lE).trans e1
                have hl2 := (hSw.cell (p := ⟨E, 2, none⟩) lE).trans e2
                have hl3 := (hSw.cell (p := ⟨gl, X, none⟩) lgl).trans cu
                have hl4 := (hSw.cell (p := ⟨gn, Y, none⟩) lgn).trans cv
                clear hSw
                go_simp
                try (with_reducible rfl)
              try simp only [List.getElem_toArray, List.getElem_cons_zero, List.getElem_cons_succ, Act.put, List.setIfInBounds_toArray, List.set_cons_zero, List.set_cons_succ]
              refine two_take (i := 6) (v := ?_) rfl (by kernel_rfl) (by kernel_rfl) (fun _ _ _ h => h) (Or.inl ⟨by rfl, ?_⟩) (by assumption) ?_
              rotate_left 1
              · intro w' hSw
                have hl0 := (hSw.cell (p := ⟨E, 0, none⟩) lE).trans e0
                have hl1 := (hSw.cell (p := ⟨E, 1, none⟩) lE).trans e1
                have hl2 := (hSw.cell (p := ⟨E, 2, none⟩) lE).trans e2
                have hl3 := (hSw.cell (p := ⟨gl, X, none⟩) lgl).trans cu
                have hl4 := (hSw.cell (p := ⟨gn, Y, none⟩) lgn).trans cv
                clear hSw
                go_simp
                try (with_reducible rfl)
              try simp only [List.getElem_toArray, List.getElem_cons_zero, List.getElem_cons_succ, Act.put, List.setIfInBounds_toArray, List.set_cons_zero, List.set_cons_succ]
              refine two_take (i := 7) (v := ?_) rfl (by kernel_rfl) (by kernel_rfl) (fun _ _ _ h => h) (Or.inl ⟨by rfl, ?_⟩) (by assumption) ?_
              rotate_left 1
              · intro w' hSw
                have hl0 := (hSw.cell (p := ⟨E, 0, none⟩) lE).trans e0
                have hl1 := (hSw.cell (p := ⟨E, 1, none⟩) lE).trans e1
                have hl2 := (hSw.cell (p := ⟨E, 2, none⟩) lE).trans e2
                have hl3 := (hSw.cell (p := ⟨gl, X, none⟩) lgl).trans cu
                have hl4 := (hSw.cell (p := ⟨gn, Y, none⟩) lgn).trans cv
                clear hSw
                go_simp
                try (with_reducible rfl)
              try simp only [List.getElem_toArray, List.getElem_cons_zero, List.getElem_cons_succ, Act.put, List.setIfInBounds_toArray, List.set_cons_zero, List.set_cons_succ]
              refine two_take (i := 8) (v := ?_) rfl (by kernel_rfl) (by kernel_rfl) (fun _ _ _ h => h) (Or.inl ⟨by rfl, ?_⟩) (by assumption) ?_
              rotate_left 1
              · intro w' hSw
                have hl0 := (hSw.cell (p := ⟨E, 0, none⟩) lE).trans e0
                have hl1 := (hSw.cell (p := ⟨E, 1, none⟩) lE).trans e1
                have hl2 := (hSw.cell (p := ⟨E, 2, none⟩) lE).trans e2
                have hl3 := (hSw.cell (p := ⟨gl, X, none⟩) lgl).trans cu
                have hl4 := (hSw.cell (p := ⟨gn, Y, none⟩) lgn).trans cv
                clear hSw
                go_simp
                try (with_reducible rfl)
              try simp only [List.getElem_toArray, List.getElem_cons_zero, List.getElem_cons_succ, Act.put, List.setIfInBounds_toArray, List.set_cons_zero, List.set_cons_succ]
              refine two_take (i := 9) (v := ?_) rfl (by kernel_rfl) (by kernel_rfl) (fun _ _ _ h => h) (Or.inl ⟨by rfl, ?_⟩) (by assumption) ?_
              rotate_left 1
              · intro w' hSw
                have hl0 := (hSw.cell (p := ⟨E, 0, none⟩) lE).trans e0
                have hl1 := (hSw.cell (p := ⟨E, 1, none⟩) lE).trans e1
                have hl2 := (hSw.cell (p := ⟨E, 2, none⟩) lE).trans e2
                have hl3 := (hSw.cell (p := ⟨gl, X, none⟩) lgl).trans cu
                have hl4 := (hSw.cell (p := ⟨gn, Y, none⟩) lgn).trans cv
                clear hSw
                go_simp
                try (with_reducible rfl)
              try simp only [List.getElem_toArray, List.getElem_cons_zero, List.getElem_cons_succ, Act.put, List.setIfInBounds_toArray, List.set_cons_zero, List.set_cons_succ]
              refine two_take (i := 10) (v := ?_) rfl (by kernel_rfl) (by kernel_rfl) (fun _ _ _ h => h) (Or.inl ⟨by rfl, ?_⟩) (by assumption) ?_
              rotate_left 1
              · intro w' hSw
                have hl0 := (hSw.cell (p := ⟨E, 0, none⟩) lE).trans e0
                have hl1 := (hSw.cell (p := ⟨E, 1, none⟩) lE).trans e1
                have hl2 := (hSw.cell (p := ⟨E, 2, none⟩) lE).trans e2
                have hl3 := (hSw.cell (p := ⟨gl, X, none⟩) lgl).trans cu
                have hl4 := (hSw.cell (p := ⟨gn, Y, none⟩) lgn).trans cv
                clear hSw
                go_simp
                try (with_reducible rfl)
              try simp only [List.getElem_toArray, List.getElem_cons_zero, List.getElem_cons_succ, Act.put, List.setIfInBounds_toArray, List.set_cons_zero, List.set_cons_succ]
              refine two_take (i := 11) (v := ?_) rfl (by kernel_rfl) (by kernel_rfl) (fun _ _ _ h => h) (Or.inl ⟨by rfl, ?_⟩) (by assumption) ?_
              rotate_left 1
              · intro w' hSw
                have hl0 := (hSw.cell (p := ⟨E, 0, none⟩) lE).trans e0
                have hl1 := (hSw.cell (p := ⟨E, 1, none⟩) lE).trans e1
                have hl2 := (hSw.cell (p := ⟨E, 2, none⟩) lE).trans e2
                have hl3 := (hSw.cell (p := ⟨gl, X, none⟩) lgl).trans cu
                have hl4 := (hSw.cell (p := ⟨gn, Y, none⟩) lgn).trans cv
                clear hSw
                go_simp
                try (with_reducible rfl)
              try simp only [List.getElem_toArray, List.getElem_cons_zero, List.getElem_cons_succ, Act.put, List.setIfInBounds_toArray, List.set_cons_zero, List.set_cons_succ]
              refine two_take (i := 12) (v := ?_) rfl (by kernel_rfl) (by kernel_rfl) (fun _ _ _ h => h) (Or.inl ⟨by rfl, ?_⟩) (by assumption) ?_
              rotate_left 1
              · intro w' hSw
                have hl0 := (hSw.cell (p := ⟨E, 0, none⟩) lE).trans e0
                have hl1 := (hSw.cell (p := ⟨E, 1, none⟩) lE).trans e1
                have hl2 := (hSw.cell (p := ⟨E, 2, none⟩) lE).trans e2
                have hl3 := (hSw.cell (p := ⟨gl, X, none⟩) lgl).trans cu
                have hl4 := (hSw.cell (p := ⟨gn, Y, none⟩) lgn).trans cv
                clear hSw
                go_simp
                try (with_reducible rfl)
              try simp only [List.getElem_toArray, List.getElem_cons_zero, List.getElem_cons_succ, Act.put, List.setIfInBounds_toArray, List.set_cons_zero, List.set_cons_succ]
              refine two_take (i := 13) (v := ?_) rfl (by kernel_rfl) (by kernel_rfl) (fun _ _ _ h => h) (Or.inl ⟨by rfl, ?_⟩) (by assumption) ?_
              rotate_left 1
              · intro w' hSw
                have hl0 := (hSw.cell (p := ⟨E, 0, none⟩) lE).trans e0
                have hl1 := (hSw.cell (p := ⟨E, 1, none⟩) lE).trans e1
                have hl2 := (hSw.cell (p := ⟨E, 2, none⟩) lE).trans e2
                have hl3 := (hSw.cell (p := ⟨gl, X, none⟩) lgl).trans cu
                have hl4 := (hSw.cell (p := ⟨gn, Y, none⟩) lgn).trans cv
                clear hSw
                go_simp
                try (with_reducible rfl)
              try simp only [List.getElem_toArray, List.getElem_cons_zero, List.getElem_cons_succ, Act.put, List.setIfInBounds_toArray, List.set_cons_zero, List.set_cons_succ]
              refine two_take (i := 14) (v := ?_) rfl (by kernel_rfl) (by kernel_rfl) (fun _ _ _ h => h) (Or.inl ⟨by rfl, ?_⟩) (by assumption) ?_
              rotate_left 1
              · intro w' hSw
                have hl0 := (hSw.cell (p := ⟨E, 0, none⟩) lE).trans e0
                have hl1 := (hSw.cell (p := ⟨E, 1, none⟩) lE).trans e1
                have hl2 := (hSw.cell (p := ⟨E, 2, none⟩) lE).trans e2
                have hl3 := (hSw.cell (p := ⟨gl, X, none⟩) lgl).trans cu
                have hl4 := (hSw.cell (p := ⟨gn, Y, none⟩) lgn).trans cv
                clear hSw
                go_simp
                try (with_reducible rfl)
              try simp only [List.getElem_toArray, List.getElem_cons_zero, List.getElem_cons_succ, Act.put, List.setIfInBounds_toArray, List.set_cons_zero, List.set_cons_succ]
              refine two_take (i := 15) (v := ?_) rfl (by kernel_rfl) (by kernel_rfl) (fun _ _ _ h => h) (Or.inl ⟨by rfl, ?_⟩) (by assumption) ?_
              rotate_left 1
              · intro w' hSw
                have hl0 := (hSw.cell (p := ⟨E, 0, none⟩) lE).trans e0
                have hl1 := (hSw.cell (p := ⟨E, 1, none⟩) lE).trans e1
                have hl2 := (hSw.cell (p := ⟨E, 2, none⟩) lE).trans e2
                have hl3 := (hSw.cell (p := ⟨gl, X, none⟩) lgl).trans cu
                have hl4 := (hSw.cell (p := ⟨gn, Y, none⟩) lgn).trans cv
                clear hSw
                go_simp
                try (with_reducible rfl)
              try simp only [List.getElem_toArray, List.getElem_cons_zero, List.getElem_cons_succ, Act.put, List.setIfInBounds_toArray, List.set_cons_zero, List.set_cons_succ]
              refine two_take (i := 16) (v := ?_) rfl (by kernel_rfl) (by kernel_rfl) (fun _ _ _ h => h) (Or.inl ⟨by rfl, ?_⟩) (by assumption) ?_
              rotate_left 1
              · intro w' hSw
                have hl0 := (hSw.cell (p := ⟨E, 0, none⟩) lE).trans e0
                have hl1 := (hSw.cell (p := ⟨E, 1, none⟩) lE).trans e1
                have hl2 := (hSw.cell (p := ⟨E, 2, none⟩) lE).trans e2
                have hl3 := (hSw.cell (p := ⟨gl, X, none⟩) lgl).trans cu
                have hl4 := (hSw.cell (p := ⟨gn, Y, none⟩) lgn).trans cv
                clear hSw
                go_simp
                try (with_reducible rfl)
              try simp only [List.getElem_toArray, List.getElem_cons_zero, List.getElem_cons_succ, Act.put, List.setIfInBounds_toArray, List.set_cons_zero, List.set_cons_succ]
              refine two_take (i := 17) (v := ?_) rfl (by kernel_rfl) (by kernel_rfl) (fun _ _ _ h => h) (Or.inl ⟨by rfl, ?_⟩) (by assumption) ?_
              rotate_left 1
              · intro w' hSw
                have hl0 := (hSw.cell (p := ⟨E, 0, none⟩) lE).trans e0
                have hl1 := (hSw.cell (p := ⟨E, 1, none⟩) lE).trans e1
                have hl2 := (hSw.cell (p := ⟨E, 2, none⟩) lE).trans e2
                have hl3 := (hSw.cell (p := ⟨gl, X, none⟩) lgl).trans cu
                have hl4 := (hSw.cell (p := ⟨gn, Y, none⟩) lgn).trans cv
                clear hSw
                go_simp
                try (with_reducible rfl)
              try simp only [List.getElem_toArray, List.getElem_cons_zero, List.getElem_cons_succ, Act.put, List.setIfInBounds_toArray, List.set_cons_zero, List.set_cons_succ]
              refine two_ready (rs := [18]) (by kernel_rfl) (by kernel_rfl) (by simp) ?_
              refine AllReadyB.last rfl (fun K hK => ?_)
              go_simp
              refine hK.out _ _ ?_
              clear hK K
              try simp only [List.getElem_toArray, List.getElem_cons_zero, List.getElem_cons_succ, Act.put, List.setIfInBounds_toArray, List.set_cons_zero, List.set_cons_succ]
              refine two_late (by kernel_rfl) ?_
              refine wpAny_done (by kernel_rfl) ?_ _
              have HN : Hid (Blk (we.setCell ⟨gn, Y, none⟩ (.int .i64 (v))).drew gn 3 (cellsOf N (mRow f (mF f n t) (k + 1))).toArray) := by
                have h := hBn.put Y (.int .i64 (v))
                rw [cells_puts] at h
                rw [HR3.out, show max v (u + z) = v by omega]
                exact h
              have hO2 : Off (fun y => y = gn) wq (we.setCell ⟨gn, Y, none⟩ (.int .i64 (v))).drew := (hoff.setCell (p := ⟨gn, Y, none⟩) (fun _ => rfl) _).drew
              clear hBn hoff cu cv e0 e1 e2 hfz
              go_wp2
              go_roundw
              case rel => exact ⟨k + 1, by go_num, by omega, hO2, HN.out⟩
              case measure => simp [intOf]; omega
          · have d1 : decide (-4611686018427387904 < u) = false := by simpa using hgt
            have hR2 := HR.out
            rw [if_neg hgt] at hR2
            have HR3 : Hid (Blk we gn 3 (cellsOf N (mRow f (mF f n t) (k + 1))).toArray) := by rw [hR2]; exact hBn
            clear hR2
            go_wp2
            go_roundw
            case rel => exact ⟨k + 1, by go_num, by omega, hoff, HR3.out⟩
            case measure => simp [intOf]; omega
        · obtain rfl : k = n := by omega
          have hown := own_off hownq hoff (fun y e hy => by
            have h1 : g = y := by simpa [Value.ownBlock] using e
            omega)
          have HTr := HTq.out.off hoff (fun q hq hy => by have := hTl.out q hq; omega)
          have HT2 : Hid (Tab wr N gb (mF f k) (t + 1)) := HTr
          have hB2 : Blk wr gn 3 (cellsOf N (mF f k (t + 1))).toArray := by rw [mF_succ]; exact hBn
          have hn1 := own_blk_ne hown hB2 (by decide)
          have hn2 : Hid (∀ q, q < t + 1 → (Value.slice (some ⟨g, 0, none⟩) L vc).ownBlock ≠ some (gb q)) := fun q hq => own_blk_ne hown (HT2.out q hq) (by decide)
          have hgq : Hid (∀ q, q < t + 1 → gb q ≠ gn) := fun q hq => by have := hTl.out q hq; omega
          have hnew : ∀ j u, ([.slice (some ⟨gn, 0, none⟩) N N] : List Value)[j]? = some u → (wr.alloc (.cells #[.slice (some ⟨gn, 0, none⟩) N N] 35)).cell? ((⟨wr.heap.size, 0, none⟩ : Addr).add j) = some u := (Blk.new wr 35 #[.slice (some ⟨gn, 0, none⟩) N N]).news
          have HNW := Lib.hid hnew
          clear HTr hnew hoff hBn hownq
          go_wp2_with (at_builtin; refine wpList_append_own _ rfl (.tmp 58) (.tmp 60) 42 rfl wg.heap.size 35 i0_ (.slice none 0 0) 1 24 Try.underlying42 hi hz0 hz1 hz2 rfl (by decide) (.slice (some ⟨g, 0, none⟩) L vc) L (rowsL N gb L) rfl (hown.alloc _) ⟨wr.heap.size, 0, none⟩ 1 1 [.slice (some ⟨gn, 0, none⟩) N N] rfl rfl HNW.out (by simp [Value.oneCell']) (by simp only [maxLen]; omega) (by omega) (by simp; omega) ?_; intro v' w5 hown5 hgrow5 hnil; clear hnil)
          have hb5 : Below wg.heap.size wg w5 := (hbx.alloc (by omega) _).grown hgrow5 (by simp; omega) (fun y e => own_base hown y e)
          have hown6 : w5.ownsRow wg.heap.size 35 1 v' (t + 1 + 1) (rowsL N (fun q => if q = t + 1 then gn else gb q) (t + 1 + 1)) := by
            rw [rowsL_succ, rowsL_congr (gb' := gb) (fun q hq => by rw [if_neg (by omega)]), if_pos rfl, hL.out]
            exact hown5
          have HT6 : Hid (Tab w5 N (fun q => if q = t + 1 then gn else gb q) (mF f k) (t + 1 + 1)) := fun q hq => by
            show Blk w5 (if q = t + 1 then gn else gb q) 3 _
            by_cases e : q = t + 1
            · subst e
              rw [if_pos rfl]
              exact (hB2.alloc _).grown hgrow5 (fun e => hn1 e.symm)
            · rw [if_neg e]
              exact ((HT2.out q (by omega)).alloc _).grown hgrow5 (fun e => hn2.out q (by omega) e.symm)
          clear hown hown5 hgrow5 hB2 hn1 HT2
          go_wp2
          go_roundw
          case rel => exact ⟨t + 1, _, by go_num, by omega, hown6, HT6, hb5⟩
          case measure => simp [intOf]; omega
    · obtain rfl : t = N := by omega
      have HB2 := Lib.hid hbe
      have HO2 := Lib.hid hown
      clear hbe hown
      go_wp2
      go_ret
      rw [HGe.out]
      exact ⟨_, gb, rfl, own_base_le HO2.out (Nat.le_of_lt hgl), hT.out, HBG.out.trans (HB2.out.mono (Nat.le_of_lt hgl))⟩
end Go.Proofs.Ytnbjcohkkaijaaa
