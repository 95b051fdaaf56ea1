/- The solver's round: what it does to the row of mosts. Conditions: the graph is right. -/
import Derived.Test.YtnbjcohkkaijaaaPotW
import Derived.Deep.RegionHeld
set_option linter.unusedVariables false
set_option linter.unusedSimpArgs false
namespace Go.Proofs.Ytnbjcohkkaijaaa
open Go.RowKit Go.Tide
set_option linter.unusedVariables false
set_option linter.unusedSimpArgs false
/-- A solver lies at S, its rows at gm and gb; all three behind what w0 had, where the edges lie. -/
structure Solv (w0 w : World) (S gm gb N : Nat) (a : Option Addr) (n c : Nat) (f : Nat → Nat → Int) (M B : Nat → Int) : Prop where
  solver : Blk w S 55 #[.int .i64 N, .slice a n c, .slice (some ⟨gm, 0, none⟩) N N, .slice (some ⟨gb, 0, none⟩) N N]
  most : Blk w gm 3 (cellsOf N M).toArray
  by_ : Blk w gb 3 (cellsOf N B).toArray
  ns : w0.heap.size ≤ S ∧ w0.heap.size ≤ gm ∧ w0.heap.size ≤ gb
  ne : S ≠ gm ∧ S ≠ gb ∧ gm ≠ gb
  edges : RowC w0 3 a n f
  below : Below w0.heap.size w0 w
theorem Solv.alloc {w0 w : World} {S gm gb N : Nat} {a : Option Addr} {n c : Nat} {f : Nat → Nat → Int} {M B : Nat → Int} (h : Solv w0 w S gm gb N a n c f M B) (o : Obj) : Solv w0 (w.alloc o) S gm gb N a n c f M B :=
  ⟨h.solver.alloc o, h.most.alloc o, h.by_.alloc o, h.ns, h.ne, h.edges, h.below.alloc h.below.size o⟩
theorem Solv.drewN {w0 w : World} {S gm gb N : Nat} {a : Option Addr} {n c : Nat} {f : Nat → Nat → Int} {M B : Nat → Int} (h : Solv w0 w S gm gb N a n c f M B) (k : Nat) : Solv w0 (w.drewN k) S gm gb N a n c f M B :=
  ⟨h.solver, h.most, h.by_, h.ns, h.ne, h.edges, h.below.drewN k⟩
theorem Solv.setMost {w0 w : World} {S gm gb N : Nat} {a : Option Addr} {n c : Nat} {f : Nat → Nat → Int} {M B : Nat → Int} (h : Solv w0 w S gm gb N a n c f M B) (j : Nat) (x : Int) : Solv w0 (w.setCell ⟨gm, j, none⟩ (.int .i64 x)) S gm gb N a n c f (putAt M j x) B :=
  ⟨h.solver.far h.ne.1 _, by have := h.most.put j (.int .i64 x); rwa [cells_puts] at this, h.by_.far (Ne.symm h.ne.2.2) _, h.ns, h.ne, h.edges, h.below.setCell (p := ⟨gm, j, none⟩) h.ns.2.1 _⟩
theorem Solv.setBy {w0 w : World} {S gm gb N : Nat} {a : Option Addr} {n c : Nat} {f : Nat → Nat → Int} {M B : Nat → Int} (h : Solv w0 w S gm gb N a n c f M B) (j : Nat) (x : Int) : Solv w0 (w.setCell ⟨gb, j, none⟩ (.int .i64 x)) S gm gb N a n c f M (putAt B j x) :=
  ⟨h.solver.far h.ne.2.1 _, h.most.far h.ne.2.2 _, by have := h.by_.put j (.int .i64 x); rwa [cells_puts] at this, h.ns, h.ne, h.edges, h.below.setCell (p := ⟨gb, j, none⟩) h.ns.2.2 _⟩
theorem Solv.row {w0 w : World} {S gm gb N : Nat} {a : Option Addr} {n c : Nat} {f : Nat → Nat → Int} {M B : Nat → Int} (h : Solv w0 w S gm gb N a n c f M B) : RowC w 3 a n f := h.edges.below h.below (Nat.le_refl _)
theorem Solv.mostAt {w0 w : World} {S gm gb N : Nat} {a : Option Addr} {n c : Nat} {f : Nat → Nat → Int} {M B : Nat → Int} (h : Solv w0 w S gm gb N a n c f M B) {j : Nat} (hj : j < N) : w.cell? ⟨gm, j, none⟩ = some (.int .i64 (M j)) := by
  rw [h.most.cell j, List.getElem?_toArray, cellsOf_get M hj]
theorem Solv.byAt {w0 w : World} {S gm gb N : Nat} {a : Option Addr} {n c : Nat} {f : Nat → Nat → Int} {M B : Nat → Int} (h : Solv w0 w S gm gb N a n c f M B) {j : Nat} (hj : j < N) : w.cell? ⟨gb, j, none⟩ = some (.int .i64 (B j)) := by
  rw [h.by_.cell j, List.getElem?_toArray, cellsOf_get B hj]

set_option maxRecDepth 20000 in
set_option maxHeartbeats 4000000 in
theorem round_any (w0 w : World) (S gm gb N : Nat) (a : Option Addr) (n c : Nat) (f : Nat → Nat → Int) (M B : Nat → Int) (m : Int) (hs : Solv w0 w S gm gb N a n c f M B) (hG : GRight N n f) (hm : 0 ≤ m ∧ m ≤ 2000000000000) (hM : MB N m M) :
    Calls Try.prog 21 #[.pointer (some ⟨S, 0, none⟩)] w fun e w' => e = .returned (.int .i64 (pass f n ⟨M, B, -1⟩).L) ∧ Solv w0 w' S gm gb N a n c f (pass f n ⟨M, B, -1⟩).M (pass f n ⟨M, B, -1⟩).B := by
  have HG := Lib.hid hG
  have HMB := Lib.hid hM
  have hN := hG.2.1
  have hn := hG.2.2.1
  have hb0 := hs.solver
  have hc0 := hb0.cell 0
  have hc1 := hb0.cell 1
  have hc2 := hb0.cell 2
  have hc3 := hb0.cell 3
  simp at hc0 hc1 hc2 hc3
  have hlS := hb0.lt
  clear hG hM hb0
  go_enter Try.func21, Try.ntmps21
  go_wp2_with fail
  clear hc0 hc1 hc2 hc3
  go_loopw [3, 13] (fun l i wr => ∃ k : Nat, l = .int .i64 (pass f k ⟨M, B, -1⟩).L ∧ i = .int .i64 k ∧ k ≤ n ∧ Hid (Solv w0 wr S gm gb N a n c f (pass f k ⟨M, B, -1⟩).M (pass f k ⟨M, B, -1⟩).B)) (fun _ i _ => n - (intOf i).toNat)
  case atStart => exact ⟨0, rfl, rfl, Nat.zero_le _, hs⟩
  case round =>
    obtain ⟨k, rfl, rfl, hk, hSl⟩ := hrel
    by_cases hlt : k < n
    · have hfm := hSl.out.row
      obtain ⟨b, off, x, y, z, rfl, hb, hcx, hcy, hcz, hx, hy, hz⟩ := hfm.at3 hlt
      have hff := HG.out.2.2.2 k hlt
      rw [← hx.out, ← hy.out, ← hz.out] at hff
      obtain ⟨f1, f2, f3, f4, f5, f6⟩ := hff
      obtain ⟨X, rfl⟩ : ∃ X : Nat, x = X := ⟨x.toNat, by omega⟩
      obtain ⟨Y, rfl⟩ : ∃ Y : Nat, y = Y := ⟨y.toNat, by omega⟩
      have hX : X < N := by omega
      have hY : Y < N := by omega
      have hpb := pass_mb (s := ⟨M, B, -1⟩) HG.out HMB.out hm.1 k (by omega)
      have HR : Hid (pass f (k + 1) ⟨M, B, -1⟩ = relax f k (pass f k ⟨M, B, -1⟩)) := rfl
      unfold relax at HR
      rw [← hx.out, ← hy.out, ← hz.out, Int.toNat_natCast, Int.toNat_natCast] at HR
      obtain ⟨s2, hs2⟩ : ∃ s2, Hid (pass f (k + 1) ⟨M, B, -1⟩ = s2) := ⟨_, rfl⟩
      rw [hs2.out] at HR
      generalize pass f k ⟨M, B, -1⟩ = s1 at *
      obtain ⟨M1, B1, L1⟩ := s1
      have hp1 := hpb X hX
      have hp2 := hpb Y hY
      simp only at hp1 hp2 hSl HR
      have hw1 := hSl.out.mostAt hX
      have hw2 := hSl.out.mostAt hY
      have hw3 := hSl.out.byAt hY
      obtain ⟨u, hu⟩ : ∃ u, u = M1 X := ⟨_, rfl⟩
      obtain ⟨v, hv⟩ : ∃ v, v = M1 Y := ⟨_, rfl⟩
      have HU := Lib.hid hu
      have HV := Lib.hid hv
      rw [← hu] at hw1 hp1 HR
      rw [← hv] at hw2 hp2 HR
      clear hu hv hpb
      have hb0 := hSl.out.solver
      have hc0 := hb0.cell 0
      have hc1 := hb0.cell 1
      have hc2 := hb0.cell 2
      have hc3 := hb0.cell 3
      simp at hc0 hc1 hc2 hc3
      have hlS := hb0.lt
      have hlm := hSl.out.most.lt
      have hlb := hSl.out.by_.lt
      have hfm0 := fun i => hSl.out.most.frozen i
      have hfb0 := fun i => hSl.out.by_.frozen i
      clear hb0
      have i1 : IntKind.i64.wrap (u + z) = u + z := IntWalk.i64_in _ (by omega)
      have t1 : (k : Int) < (n : Int) := by omega
      by_cases hgt : v < u + z
      · have g1 : decide (v < u + z) = true := by simpa using hgt
        rw [if_pos hgt] at HR
        go_wp2_with fail
        go_quiet (fail)
        go_wp2_with fail
        go_quiet (fail)
        go_wp2_with fail
        rename_i nq1
        obtain rfl := HR.out
        have hS4 := ((hSl.out.alloc (.cells #[.int .i64 X, .int .i64 Y, .int .i64 z] 32)).drewN nq1).drewN nq
        have he1 : (((wr.alloc (.cells #[.int .i64 X, .int .i64 Y, .int .i64 z] 32)).drewN nq1).drewN nq).cell? ⟨wr.heap.size, 1, none⟩ = some (.int .i64 Y) := (Blk.new wr _ _).cell 1
        obtain ⟨E, hE⟩ : ∃ E, E = wr.heap.size := ⟨_, rfl⟩
        have hElt : gm ≠ E ∧ gb ≠ E := ⟨by omega, by omega⟩
        rw [← hE] at he1 ⊢
        clear hcx hcy hcz hw1 hw2 hw3 hc0 hc1 hc2 hc3 hfm hb hlS hlm hlb hfm0 hfb0 hSl hE
        generalize ((wr.alloc (.cells #[.int .i64 X, .int .i64 Y, .int .i64 z] 32)).drewN nq1).drewN nq = wq at *
        have hb4 := hS4.solver
        have hd2 := hb4.cell 2
        have hd3 := hb4.cell 3
        simp at hd2 hd3
        skip
        refine wp_region_held_drew (S := (fun w' => w'.cell? ⟨S, 2, none⟩ = some (.slice (some ⟨gm, 0, none⟩) N N) ∧ w'.cell? ⟨S, 3, none⟩ = some (.slice (some ⟨gb, 0, none⟩) N N) ∧ w'.cell? ⟨E, 1, none⟩ = some (.int .i64 Y) ∧ True)) (by kernel_rfl) ?_ (fun hHeld => ?_)
        · exact ⟨hd2, hd3, he1, trivial⟩
        refine wpAnyH_take (i := 0) (v := ?_) rfl (by kernel_rfl) (by kernel_rfl) (by kernel_rfl) (fun _ _ _ h => h) (Or.inl ⟨by rfl, ?_⟩) (by assumption) ?_
        rotate_left 1
        · intro w' hSw
          have hl0 := hSw.1
          have hl1 := hSw.2.1
          have hl2 := hSw.2.2.1
          go_simp
          try (with_reducible rfl)
        try simp only [List.getElem_toArray, List.getElem_cons_zero, List.getElem_cons_succ, Act.put, List.setIfInBounds_toArray, List.set_cons_zero, List.set_cons_succ]
        refine wpAnyH_take (i := 1) (v := ?_) rfl (by kernel_rfl) (by kernel_rfl) (by kernel_rfl) (fun _ _ _ h => h) (Or.inl ⟨by rfl, ?_⟩) (by assumption) ?_
        rotate_left 1
        · intro w' hSw
          have hl0 := hSw.1
          have hl1 := hSw.2.1
          have hl2 := hSw.2.2.1
          go_simp
          try (with_reducible rfl)
        try simp only [List.getElem_toArray, List.getElem_cons_zero, List.getElem_cons_succ, Act.put, List.setIfInBounds_toArray, List.set_cons_zero, List.set_cons_succ]
        refine wpAnyH_take (i := 2) (v := ?_) rfl (by kernel_rfl) (by kernel_rfl) (by kernel_rfl) (fun _ _ _ h => h) (Or.inl ⟨by rfl, ?_⟩) (by assumption) ?_
        rotate_left 1
        · intro w' hSw
          have hl0 := hSw.1
          have hl1 := hSw.2.1
          have hl2 := hSw.2.2.1
          go_simp
          try (with_reducible rfl)
        try simp only [List.getElem_toArray, List.getElem_cons_zero, List.getElem_cons_succ, Act.put, List.setIfInBounds_toArray, List.set_cons_zero, List.set_cons_succ]
        refine wpAnyH_take (i := 3) (v := ?_) rfl (by kernel_rfl) (by kernel_rfl) (by kernel_rfl) (fun _ _ _ h => h) (Or.inl ⟨by rfl, ?_⟩) (by assumption) ?_
        rotate_left 1
        · intro w' hSw
          have hl0 := hSw.1
          have hl1 := hSw.2.1
          have hl2 := hSw.2.2.1
          go_simp
          try (with_reducible rfl)
        try simp only [List.getElem_toArray, List.getElem_cons_zero, List.getElem_cons_succ, Act.put, List.setIfInBounds_toArray, List.set_cons_zero, List.set_cons_succ]
        refine wpAnyH_take (i := 4) (v := ?_) rfl (by kernel_rfl) (by kernel_rfl) (by kernel_rfl) (fun _ _ _ h => h) (Or.inl ⟨by rfl, ?_⟩) (by assumption) ?_
        rotate_left 1
        · intro w' hSw
          have hl0 := hSw.1
          have hl1 := hSw.2.1
          have hl2 := hSw.2.2.1
          go_simp
          try (with_reducible rfl)
        try simp only [List.getElem_toArray, List.getElem_cons_zero, List.getElem_cons_succ, Act.put, List.setIfInBounds_toArray, List.set_cons_zero, List.set_cons_succ]
        refine wpAnyH_take (i := 5) (v := ?_) rfl (by kernel_rfl) (by kernel_rfl) (by kernel_rfl) (fun _ _ _ h => h) (Or.inl ⟨by rfl, ?_⟩) (by assumption) ?_
        rotate_left 1
        · intro w' hSw
          have hl0 := hSw.1
          have hl1 := hSw.2.1
          have hl2 := hSw.2.2.1
          go_simp
          try (with_reducible rfl)
        try simp only [List.getElem_toArray, List.getElem_cons_zero, List.getElem_cons_succ, Act.put, List.setIfInBounds_toArray, List.set_cons_zero, List.set_cons_succ]
        refine wpAnyH_take (i := 6) (v := ?_) rfl (by kernel_rfl) (by kernel_rfl) (by kernel_rfl) (fun _ _ _ h => h) (Or.inl ⟨by rfl, ?_⟩) (by assumption) ?_
        rotate_left 1
        · intro w' hSw
          have hl0 := hSw.1
          have hl1 := hSw.2.1
          have hl2 := hSw.2.2.1
          go_simp
          try (with_reducible rfl)
        try simp only [List.getElem_toArray, List.getElem_cons_zero, List.getElem_cons_succ, Act.put, List.setIfInBounds_toArray, List.set_cons_zero, List.set_cons_succ]
        refine wpAnyH_take (i := 7) (v := ?_) rfl (by kernel_rfl) (by kernel_rfl) (by kernel_rfl) (fun _ _ _ h => h) (Or.inl ⟨by rfl, ?_⟩) (by assumption) ?_
        rotate_left 1
        · intro w' hSw
          have hl0 := hSw.1
          have hl1 := hSw.2.1
          have hl2 := hSw.2.2.1
          go_simp
          try (with_reducible rfl)
        try simp only [List.getElem_toArray, List.getElem_cons_zero, List.getElem_cons_succ, Act.put, List.setIfInBounds_toArray, List.set_cons_zero, List.set_cons_succ]
        refine wpAnyH_take (i := 8) (v := ?_) rfl (by kernel_rfl) (by kernel_rfl) (by kernel_rfl) (fun _ _ _ h => h) (Or.inl ⟨by rfl, ?_⟩) (by assumption) ?_
        rotate_left 1
        · intro w' hSw
          have hl0 := hSw.1
          have hl1 := hSw.2.1
          have hl2 := hSw.2.2.1
          go_simp
          try (with_reducible rfl)
        try simp only [List.getElem_toArray, List.getElem_cons_zero, List.getElem_cons_succ, Act.put, List.setIfInBounds_toArray, List.set_cons_zero, List.set_cons_succ]
        refine wpAnyH_take (i := 9) (v := ?_) rfl (by kernel_rfl) (by kernel_rfl) (by kernel_rfl) (fun _ _ _ h => h) (Or.inl ⟨by rfl, ?_⟩) (by assumption) ?_
        rotate_left 1
        · intro w' hSw
          have hl0 := hSw.1
          have hl1 := hSw.2.1
          have hl2 := hSw.2.2.1
          go_simp
          try (with_reducible rfl)
        try simp only [List.getElem_toArray, List.getElem_cons_zero, List.getElem_cons_succ, Act.put, List.setIfInBounds_toArray, List.set_cons_zero, List.set_cons_succ]
        refine wpAnyH_take (i := 10) (v := ?_) rfl (by kernel_rfl) (by kernel_rfl) (by kernel_rfl) (fun _ _ _ h => h) (Or.inl ⟨by rfl, ?_⟩) (by assumption) ?_
        rotate_left 1
        · intro w' hSw
          have hl0 := hSw.1
          have hl1 := hSw.2.1
          have hl2 := hSw.2.2.1
          go_simp
          try (with_reducible rfl)
        try simp only [List.getElem_toArray, List.getElem_cons_zero, List.getElem_cons_succ, Act.put, List.setIfInBounds_toArray, List.set_cons_zero, List.set_cons_succ]
        refine wpAnyH_take (i := 11) (v := ?_) rfl (by kernel_rfl) (by kernel_rfl) (by kernel_rfl) (fun _ _ _ h => h) (Or.inl ⟨by rfl, ?_⟩) (by assumption) ?_
        rotate_left 1
        · intro w' hSw
          have hl0 := hSw.1
          have hl1 := hSw.2.1
          have hl2 := hSw.2.2.1
          go_simp
          try (with_reducible rfl)
        try simp only [List.getElem_toArray, List.getElem_cons_zero, List.getElem_cons_succ, Act.put, List.setIfInBounds_toArray, List.set_cons_zero, List.set_cons_succ]
        refine wpAnyH_take (i := 12) (v := ?_) rfl (by kernel_rfl) (by kernel_rfl) (by kernel_rfl) (fun _ _ _ h => h) (Or.inl ⟨by rfl, ?_⟩) (by assumption) ?_
        rotate_left 1
        · intro w' hSw
          have hl0 := hSw.1
          have hl1 := hSw.2.1
          have hl2 := hSw.2.2.1
          go_simp
          try (with_reducible rfl)
        try simp only [List.getElem_toArray, List.getElem_cons_zero, List.getElem_cons_succ, Act.put, List.setIfInBounds_toArray, List.set_cons_zero, List.set_cons_succ]
        refine wpAnyH_take (i := 13) (v := ?_) rfl (by kernel_rfl) (by kernel_rfl) (by kernel_rfl) (fun _ _ _ h => h) (Or.inl ⟨by rfl, ?_⟩) (by assumption) ?_
        rotate_left 1
        · intro w' hSw
          have hl0 := hSw.1
          have hl1 := hSw.2.1
          have hl2 := hSw.2.2.1
          go_simp
          try (with_reducible rfl)
        try simp only [List.getElem_toArray, List.getElem_cons_zero, List.getElem_cons_succ, Act.put, List.setIfInBounds_toArray, List.set_cons_zero, List.set_cons_succ]
        refine wpAnyH_take (i := 14) (v := ?_) rfl (by kernel_rfl) (by kernel_rfl) (by kernel_rfl) (fun _ _ _ h => h) (Or.inl ⟨by rfl, ?_⟩) (by assumption) ?_
        rotate_left 1
        · intro w' hSw
          have hl0 := hSw.1
          have hl1 := hSw.2.1
          have hl2 := hSw.2.2.1
          go_simp
          try (with_reducible rfl)
        try simp only [List.getElem_toArray, List.getElem_cons_zero, List.getElem_cons_succ, Act.put, List.setIfInBounds_toArray, List.set_cons_zero, List.set_cons_succ]
        refine wpAnyH_take (i := 15) (v := ?_) rfl (by kernel_rfl) (by kernel_rfl) (by kernel_rfl) (fun _ _ _ h => h) (Or.inl ⟨by rfl, ?_⟩) (by assumption) ?_
        rotate_left 1
        · intro w' hSw
          have hl0 := hSw.1
          have hl1 := hSw.2.1
          have hl2 := hSw.2.2.1
          go_simp
          try (with_reducible rfl)
        try simp only [List.getElem_toArray, List.getElem_cons_zero, List.getElem_cons_succ, Act.put, List.setIfInBounds_toArray, List.set_cons_zero, List.set_cons_succ]
        have hS5 : Solv w0 wq.drew S gm gb N (some ⟨b, off, none⟩) n c f M1 B1 := hS4.drewN 1
        clear hS4 hb4 hd2 hd3 he1
        generalize wq.drew = wx at *
        have hw2 := hS5.mostAt hY
        have hw3 := hS5.byAt hY
        have hz2 := hS5.most.frozen Y
        have hz3 := hS5.by_.frozen Y
        have hS6 := hS5.setMost Y (u + z)
        have hw4 := hS6.byAt hY
        have hz4 := hS6.by_.frozen Y
        have hS7 := hS6.setBy Y (k : Int)
        clear hS5 hS6
        refine wpAnyH_ready (rs := [16]) (by kernel_rfl) (by simp) ?_
        refine AllReadyH.cons rfl (fun K hK => ?_) AllReadyH.nil
        go_simp
        refine hK.out _ _ ?_ (fun hHeld => ?_)
        · exact hHeld
        clear hK K
        try simp only [List.getElem_toArray, List.getElem_cons_zero, List.getElem_cons_succ, Act.put, List.setIfInBounds_toArray, List.set_cons_zero, List.set_cons_succ]
        refine wpAnyH_ready (rs := [17]) (by kernel_rfl) (by simp) ?_
        refine AllReadyH.cons rfl (fun K hK => ?_) AllReadyH.nil
        go_simp
        refine hK.out _ _ ?_ (fun hHeld => ?_)
        · exact by obtain ⟨h2, h3, h1, _⟩ := hHeld; have n1 := hS7.ne; exact ⟨(World.cell?_setCell_far _ _ _ _ (by first | exact Ne.symm n1.1 | exact Ne.symm n1.2.1 | exact hElt.1 | exact hElt.2)).trans h2, (World.cell?_setCell_far _ _ _ _ (by first | exact Ne.symm n1.1 | exact Ne.symm n1.2.1 | exact hElt.1 | exact hElt.2)).trans h3, (World.cell?_setCell_far _ _ _ _ (by first | exact Ne.symm n1.1 | exact Ne.symm n1.2.1 | exact hElt.1 | exact hElt.2)).trans h1, trivial⟩
        clear hK K
        try simp only [List.getElem_toArray, List.getElem_cons_zero, List.getElem_cons_succ, Act.put, List.setIfInBounds_toArray, List.set_cons_zero, List.set_cons_succ]
        refine wpAnyH_ready (rs := [18]) (by kernel_rfl) (by simp) ?_
        refine AllReadyH.cons rfl (fun K hK => ?_) AllReadyH.nil
        go_simp
        refine hK.out _ _ ?_ (fun hHeld => ?_)
        · exact hHeld
        clear hK K
        try simp only [List.getElem_toArray, List.getElem_cons_zero, List.getElem_cons_succ, Act.put, List.setIfInBounds_toArray, List.set_cons_zero, List.set_cons_succ]
        refine wpAnyH_ready (rs := [19]) (by kernel_rfl) (by simp) ?_
        refine AllReadyH.cons rfl (fun K hK => ?_) AllReadyH.nil
        go_simp
        refine hK.out _ _ ?_ (fun hHeld => ?_)
        · exact by obtain ⟨h2, h3, h1, _⟩ := hHeld; have n1 := hS7.ne; exact ⟨(World.cell?_setCell_far _ _ _ _ (by first | exact Ne.symm n1.1 | exact Ne.symm n1.2.1 | exact hElt.1 | exact hElt.2)).trans h2, (World.cell?_setCell_far _ _ _ _ (by first | exact Ne.symm n1.1 | exact Ne.symm n1.2.1 | exact hElt.1 | exact hElt.2)).trans h3, (World.cell?_setCell_far _ _ _ _ (by first | exact Ne.symm n1.1 | exact Ne.symm n1.2.1 | exact hElt.1 | exact hElt.2)).trans h1, trivial⟩
        clear hK K
        try simp only [List.getElem_toArray, List.getElem_cons_zero, List.getElem_cons_succ, Act.put, List.setIfInBounds_toArray, List.set_cons_zero, List.set_cons_succ]
        refine wpAnyH_ready (rs := [20]) (by kernel_rfl) (by simp) ?_
        refine AllReadyH.cons rfl (fun K hK => ?_) AllReadyH.nil
        go_simp
        refine hK.out _ _ ?_ (fun hHeld => ?_)
        · exact hHeld
        clear hK K
        try simp only [List.getElem_toArray, List.getElem_cons_zero, List.getElem_cons_succ, Act.put, List.setIfInBounds_toArray, List.set_cons_zero, List.set_cons_succ]
        refine wpAnyH_done (by kernel_rfl) ?_ _
        go_wp2
        go_roundw
        case rel => exact ⟨k + 1, by rw [hs2.out], by go_num, by omega, by rw [hs2.out]; exact hS7⟩
        case measure => simp [intOf]; omega
      · have g1 : decide (v < u + z) = false := by simpa using hgt
        rw [if_neg hgt] at HR
        obtain rfl := HR.out
        go_wp2_with fail
        go_quiet (fail)
        go_wp2_with fail
        go_quiet (fail)
        go_wp2
        go_roundw
        case rel => exact ⟨k + 1, by rw [hs2.out], by go_num, by omega, by rw [hs2.out]; exact (hSl.out.alloc _).drewN _⟩
        case measure => simp [intOf]; omega
    · obtain rfl : k = n := by omega
      go_wp2
      go_ret
      exact ⟨rfl, hSl.out⟩
end Go.Proofs.Ytnbjcohkkaijaaa
