/- steady.Graph. Conditions: none. -/
import Derived.Test.YtgmljgcmfooniaaGreatDoorStGraph
set_option linter.unusedVariables false
set_option linter.unusedSimpArgs false
namespace Go.Proofs.YtgmljgcmfooniaaGreatDoor
open Go.RowKit Go.Shelf Go.Tide
set_option linter.unusedVariables false
set_option linter.unusedSimpArgs false
/-- What is told of all steps. -/
def Told (r : DRules) (J : Nat) (s : Fnd DSt) (E : List Edge) : Prop :=
  E.length = s.l.length * ((J + 1) * (J + 1)) ∧ ∀ u, u < s.l.length * ((J + 1) * (J + 1)) → ∃ x n, s.l[u / ((J + 1) * (J + 1))]? = some x ∧ s.l[n]? = some (dNx r J x (u % ((J + 1) * (J + 1)))) ∧ E[u]? = some (u / ((J + 1) * (J + 1)), n, dRow r x)
def GraphPost (r : DRules) (J who : Nat) (ratio : Int) (w : World) (e : Ending) (w' : World) : Prop :=
  Below w.heap.size w w' ∧ ((∃ s E a c, dFin r J = some s ∧ GI r s ∧ Told r J s E ∧ e = .returned (.tuple #[.agg #[.int .i64 s.l.length, .slice a E.length c], .int .i64 0]) ∧ RowC w' 3 a E.length (egF who ratio E)) ∨
    (dFin r J = none ∧ e = .returned (.tuple #[.agg #[.int .i64 0, .slice none 0 0], .int .i64 4])))
set_option maxRecDepth 20000 in
set_option maxHeartbeats 2000000 in
theorem graph_bad (k0 k1 rate buf jit who ratio : Int) (w : World) (h : who < 0 ∨ 1 < who ∨ ratio < 1 ∨ 100 < ratio) :
    Calls Tryz.prog 36 #[.agg #[.int .i64 k0, .int .i64 k1, .int .i64 rate, .int .i64 buf, .int .i64 jit], .int .i64 who, .int .i64 ratio] w fun e w' => e = .returned (.tuple #[.agg #[.int .i64 0, .slice none 0 0], .int .i64 2]) ∧ More w w' := by
  by_cases h1 : who < 0
  · have t1 : decide (who < 0) = true := by simpa using h1
    go_enter Tryz.func36, Tryz.ntmps36
    go_wp2
    refine bodyPost_ret (v := .tuple #[.agg #[.int .i64 0, .slice none 0 0], .int .i64 2]) ?_ rfl ?_
    · simp [results, Tryz.results36, go_sem]
    · exact ⟨rfl, (by repeat (first | (with_reducible assumption) | (with_reducible exact More.refl _) | (with_reducible refine More.alloc ?_ _) | (with_reducible refine More.more ?_ _ _) | (with_reducible refine More.drewN ?_ _) | (with_reducible refine More.drew ?_)))⟩
  · have t1 : decide (who < 0) = false := by simpa using h1
    by_cases h2 : 1 < who
    · have t2 : decide (1 < who) = true := by simpa using h2
      go_enter Tryz.func36, Tryz.ntmps36
      go_wp2
      refine bodyPost_ret (v := .tuple #[.agg #[.int .i64 0, .slice none 0 0], .int .i64 2]) ?_ rfl ?_
      · simp [results, Tryz.results36, go_sem]
      · exact ⟨rfl, (by repeat (first | (with_reducible assumption) | (with_reducible exact More.refl _) | (with_reducible refine More.alloc ?_ _) | (with_reducible refine More.more ?_ _ _) | (with_reducible refine More.drewN ?_ _) | (with_reducible refine More.drew ?_)))⟩
    · have t2 : decide (1 < who) = false := by simpa using h2
      by_cases h3 : ratio < 1
      · have t3 : decide (ratio < 1) = true := by simpa using h3
        go_enter Tryz.func36, Tryz.ntmps36
        go_wp2
        refine bodyPost_ret (v := .tuple #[.agg #[.int .i64 0, .slice none 0 0], .int .i64 2]) ?_ rfl ?_
        · simp [results, Tryz.results36, go_sem]
        · exact ⟨rfl, (by repeat (first | (with_reducible assumption) | (with_reducible exact More.refl _) | (with_reducible refine More.alloc ?_ _) | (with_reducible refine More.more ?_ _ _) | (with_reducible refine More.drewN ?_ _) | (with_reducible refine More.drew ?_)))⟩
      · have t3 : decide (ratio < 1) = false := by simpa using h3
        have h4 : 100 < ratio := by omega
        have t4 : decide (100 < ratio) = true := by simpa using h4
        go_enter Tryz.func36, Tryz.ntmps36
        go_wp2
        refine bodyPost_ret (v := .tuple #[.agg #[.int .i64 0, .slice none 0 0], .int .i64 2]) ?_ rfl ?_
        · simp [results, Tryz.results36, go_sem]
        · exact ⟨rfl, (by repeat (first | (with_reducible assumption) | (with_reducible exact More.refl _) | (with_reducible refine More.alloc ?_ _) | (with_reducible refine More.more ?_ _ _) | (with_reducible refine More.drewN ?_ _) | (with_reducible refine More.drew ?_)))⟩
set_option maxRecDepth 20000 in
theorem graph_w (k0 k1 rate buf jit who ratio er : Int) (w : World) (he : Hid (er ≠ 0)) (hc : ∀ W, Calls Tryz.prog 52 #[.agg #[.int .i64 k0, .int .i64 k1, .int .i64 rate, .int .i64 buf, .int .i64 jit]] W fun e w' => e = .returned (.int .i64 er) ∧ More W w') (h0 : 0 ≤ who) (h1 : who ≤ 1) (h2 : 1 ≤ ratio) (h3 : ratio ≤ 100) :
    Calls Tryz.prog 36 #[.agg #[.int .i64 k0, .int .i64 k1, .int .i64 rate, .int .i64 buf, .int .i64 jit], .int .i64 who, .int .i64 ratio] w fun e w' => e = .returned (.tuple #[.agg #[.int .i64 0, .slice none 0 0], .int .i64 er]) ∧ More w w' := by
  have g : (er != 0) = true := by simpa using he.out
  have HC := Lib.hid hc
  clear hc
  have t1 : decide (who < 0) = false := by simpa using h0
  have t2 : decide (1 < who) = false := by simpa using h1
  have t3 : decide (ratio < 1) = false := by simpa using (show ¬ ratio < 1 by omega)
  have t4 : decide (100 < ratio) = false := by simpa using h3
  go_enter Tryz.func36, Tryz.ntmps36
  go_wp2_with fail
  refine (each_w k0 k1 rate buf jit er (.func (.func 62) #[] #[.pointer (some ⟨w.heap.size + 4, 0, none⟩), .pointer (some ⟨w.heap.size + 1, 0, none⟩), .pointer (some ⟨w.heap.size + 2, 0, none⟩)]) _ he HC.out (by show Value.oneCell' _ = true; simp [Value.oneCell'])).mono ?_
  rintro e w' ⟨rfl, os, d, rfl⟩
  go_wp2
  refine bodyPost_ret (v := .tuple #[.agg #[.int .i64 0, .slice none 0 0], .int .i64 er]) ?_ rfl ?_
  · simp [results, Tryz.results36, go_sem]
  · exact ⟨rfl, (by repeat (first | (with_reducible assumption) | (with_reducible exact More.refl _) | (with_reducible refine More.alloc ?_ _) | (with_reducible refine More.more ?_ _ _) | (with_reducible refine More.drewN ?_ _) | (with_reducible refine More.drew ?_)))⟩
set_option maxRecDepth 20000 in
set_option maxHeartbeats 4000000 in
theorem graph_any (r : DRules) (J : Nat) (hJ : Hid (r.jit = J)) (hr : r.ok) (who : Nat) (ratio : Int) (hw : who = 0 ∨ who = 1) (hra : 1 ≤ ratio ∧ ratio ≤ 100) (w : World) :
    Calls Tryz.prog 36 #[.agg #[.int .i64 r.k0, .int .i64 r.k1, .int .i64 r.rate, .int .i64 r.buf, .int .i64 r.jit], .int .i64 (who : Nat), .int .i64 ratio] w (GraphPost r J who ratio w) := by
  have HR := Lib.hid hr
  have HW := Lib.hid hw
  have t1 : decide ((who : Int) < 0) = false := by simp
  have t2 : decide (1 < (who : Int)) = false := by simp; omega
  have t3 : decide (ratio < 1) = false := by simpa using (show ¬ ratio < 1 by omega)
  have t4 : decide (100 < ratio) = false := by simpa using (show ¬ 100 < ratio by omega)
  clear hr hw
  go_enter Tryz.func36, Tryz.ntmps36
  go_wp2_with fail
  have hT0 : TG (w.heap.size + 4) (w.heap.size + 1) (w.heap.size + 2) who ratio [] (fun g => g = w.heap.size + 4 ∨ g = w.heap.size + 1 ∨ g = w.heap.size + 2 ∨ (Value.slice none 0 0).ownBlock = some g) (((((w.alloc (.cells #[.int .i64 r.k0, .int .i64 r.k1, .int .i64 r.rate, .int .i64 r.buf, .int .i64 r.jit] 32)).alloc (.cells #[.int .i64 (who : Nat)] 3)).alloc (.cells #[.int .i64 ratio] 3)).alloc (.cells #[.int .i64 0, .slice none 0 0] 80)).alloc (.cells #[.int .i64 0, .slice none 0 0] 80)) := ⟨.slice none 0 0, (by repeat (first | (with_reducible assumption) | ((with_reducible refine Blk.new' ?_); (simp [Nat.add_assoc]; done)) | (with_reducible refine Blk.alloc ?_ _) | (with_reducible refine Blk.more ?_ _ _) | (with_reducible refine Blk.drew ?_) | (with_reducible refine Blk.drewN ?_ _))), World.ownsRow_nil _ _ _ _, (by repeat (first | (with_reducible assumption) | ((with_reducible refine Blk.new' ?_); (simp [Nat.add_assoc]; done)) | (with_reducible refine Blk.alloc ?_ _) | (with_reducible refine Blk.more ?_ _ _) | (with_reducible refine Blk.drew ?_) | (with_reducible refine Blk.drewN ?_ _))), (by repeat (first | (with_reducible assumption) | ((with_reducible refine Blk.new' ?_); (simp [Nat.add_assoc]; done)) | (with_reducible refine Blk.alloc ?_ _) | (with_reducible refine Blk.more ?_ _ _) | (with_reducible refine Blk.drew ?_) | (with_reducible refine Blk.drewN ?_ _))), fun g => Iff.rfl⟩
  have hB6 : Blk (((((w.alloc (.cells #[.int .i64 r.k0, .int .i64 r.k1, .int .i64 r.rate, .int .i64 r.buf, .int .i64 r.jit] 32)).alloc (.cells #[.int .i64 (who : Nat)] 3)).alloc (.cells #[.int .i64 ratio] 3)).alloc (.cells #[.int .i64 0, .slice none 0 0] 80)).alloc (.cells #[.int .i64 0, .slice none 0 0] 80)) (w.heap.size + 3) 80 #[.int .i64 0, .slice none 0 0] := (by repeat (first | (with_reducible assumption) | ((with_reducible refine Blk.new' ?_); (simp [Nat.add_assoc]; done)) | (with_reducible refine Blk.alloc ?_ _) | (with_reducible refine Blk.more ?_ _ _) | (with_reducible refine Blk.drew ?_) | (with_reducible refine Blk.drewN ?_ _)))
  have hm : More w (((((w.alloc (.cells #[.int .i64 r.k0, .int .i64 r.k1, .int .i64 r.rate, .int .i64 r.buf, .int .i64 r.jit] 32)).alloc (.cells #[.int .i64 (who : Nat)] 3)).alloc (.cells #[.int .i64 ratio] 3)).alloc (.cells #[.int .i64 0, .slice none 0 0] 80)).alloc (.cells #[.int .i64 0, .slice none 0 0] 80)) := (by repeat (first | (with_reducible assumption) | (with_reducible exact More.refl _) | (with_reducible refine More.alloc ?_ _) | (with_reducible refine More.more ?_ _ _) | (with_reducible refine More.drewN ?_ _) | (with_reducible refine More.drew ?_)))
  have hsz : (((((w.alloc (.cells #[.int .i64 r.k0, .int .i64 r.k1, .int .i64 r.rate, .int .i64 r.buf, .int .i64 r.jit] 32)).alloc (.cells #[.int .i64 (who : Nat)] 3)).alloc (.cells #[.int .i64 ratio] 3)).alloc (.cells #[.int .i64 0, .slice none 0 0] 80)).alloc (.cells #[.int .i64 0, .slice none 0 0] 80)).heap.size = w.heap.size + 5 := by simp
  generalize (((((w.alloc (.cells #[.int .i64 r.k0, .int .i64 r.k1, .int .i64 r.rate, .int .i64 r.buf, .int .i64 r.jit] 32)).alloc (.cells #[.int .i64 (who : Nat)] 3)).alloc (.cells #[.int .i64 ratio] 3)).alloc (.cells #[.int .i64 0, .slice none 0 0] 80)).alloc (.cells #[.int .i64 0, .slice none 0 0] 80)) = w0 at *
  refine (each_any r J hJ HR.out 62 _ _ (tell_graph (w.heap.size + 4) (w.heap.size + 1) (w.heap.size + 2) who ratio HW.out ⟨by omega, by omega⟩ ⟨by omega, by omega⟩) _ w0 hT0).mono ?_
  rintro e w' (⟨Q, k, S, M, v1, v2, v3, X, h1, h2, rfl, h4⟩ | ⟨h1, rfl, h3⟩)
  · obtain ⟨a1, c1, hv1, _⟩ := own_sliceC h4.spc.r1
    obtain ⟨v, g1, g2, g3, g4, g5⟩ := h4.told
    obtain ⟨a2, c2, hv2, _⟩ := own_sliceC g2
    have p1 : w'.cell? ⟨S, 1, none⟩ = some (.slice a1 Q.1.l.length c1) := by rw [← hv1]; exact h4.spc.blk.cell 1
    have lS := h4.spc.blk.lt
    rw [hv2] at g1 g2
    have hB7 := hB6.off h4.off (fun h => by rcases h with h | h | h | h; omega; omega; omega; cases h)
    have q0 : w'.cell? ⟨w.heap.size + 4, 0, none⟩ = some (.int .i64 0) := g1.cell 0
    have q1 : w'.cell? ⟨w.heap.size + 4, 1, none⟩ = some (.slice a2 Q.2.length c2) := g1.cell 1
    have q2 : w'.frozen? ⟨w.heap.size + 4, 0, none⟩ = false := g1.frozen 0
    have q3 : w'.cell? ⟨w.heap.size + 3, 0, none⟩ = some (.int .i64 0) := hB7.cell 0
    have q4 : w'.cell? ⟨w.heap.size + 3, 1, none⟩ = some (.slice none 0 0) := hB7.cell 1
    have q5 : w'.frozen? ⟨w.heap.size + 3, 0, none⟩ = false := hB7.frozen 0
    have q6 : w'.frozen? ⟨w.heap.size + 3, 1, none⟩ = false := hB7.frozen 1
    have l1 := g1.lt
    have l2 := hB7.lt
    have HF := Lib.hid (fin_of h1 h2 h4.gi)
    have HTo : Hid (Told r J Q.1 Q.2) := by
      have h5 := prun_told (m_pos J) (by omega) _ _ h1 (by rw [h2]; exact Nat.le_refl _)
      rw [← h2] at h5
      exact h5
    have HG := Lib.hid h4.gi
    have HO := Lib.hid h4.off
    have HRow := Lib.hid g2
    clear hv1 hv2 g1 g2 g3 g4 g5 h1 h2 h4 hT0 hB6
    go_wp2
    have hBF : Blk (((w'.setCell ⟨w.heap.size + 4, 0, none⟩ (.int .i64 (Q.1.l.length : Nat))).setCell ⟨w.heap.size + 3, 0, none⟩ (.int .i64 (Q.1.l.length : Nat))).setCell ⟨w.heap.size + 3, 1, none⟩ (.slice a2 Q.2.length c2)) (w.heap.size + 3) 80 #[.int .i64 (Q.1.l.length : Nat), .slice a2 Q.2.length c2] := by
      have hh := ((hB7.far (p := ⟨w.heap.size + 4, 0, none⟩) (by simp only [ne_eq]; omega) (.int .i64 (Q.1.l.length : Nat))).put 0 (.int .i64 (Q.1.l.length : Nat))).put 1 (.slice a2 Q.2.length c2)
      simp only [List.setIfInBounds_toArray, List.set_cons_zero, List.set_cons_succ] at hh
      exact hh
    have hOF := own_far (p := ⟨w.heap.size + 3, 1, none⟩) (own_far (p := ⟨w.heap.size + 3, 0, none⟩) (own_far (p := ⟨w.heap.size + 4, 0, none⟩) HRow.out (fun e => by have := (own_lt HRow.out e).1; dsimp only at this; omega) (.int .i64 (Q.1.l.length : Nat))) (fun e => by have := (own_lt HRow.out e).1; dsimp only at this; omega) (.int .i64 (Q.1.l.length : Nat))) (fun e => by have := (own_lt HRow.out e).1; dsimp only at this; omega) (.slice a2 Q.2.length c2)
    have hbe : Below w.heap.size w (((w'.setCell ⟨w.heap.size + 4, 0, none⟩ (.int .i64 (Q.1.l.length : Nat))).setCell ⟨w.heap.size + 3, 0, none⟩ (.int .i64 (Q.1.l.length : Nat))).setCell ⟨w.heap.size + 3, 1, none⟩ (.slice a2 Q.2.length c2)) := (((hm.below.trans (HO.out.below (fun g h => by rcases h with h | h | h | h; omega; omega; omega; cases h) (by omega))).setCell (p := ⟨w.heap.size + 4, 0, none⟩) (by dsimp only; omega) _).setCell (p := ⟨w.heap.size + 3, 0, none⟩) (by dsimp only; omega) _).setCell (p := ⟨w.heap.size + 3, 1, none⟩) (by dsimp only; omega) _
    have HH := Lib.hid (And.intro hOF hbe)
    clear hOF hbe
    generalize (((w'.setCell ⟨w.heap.size + 4, 0, none⟩ (.int .i64 (Q.1.l.length : Nat))).setCell ⟨w.heap.size + 3, 0, none⟩ (.int .i64 (Q.1.l.length : Nat))).setCell ⟨w.heap.size + 3, 1, none⟩ (.slice a2 Q.2.length c2)) = wf at *
    have x0 : wf.cell? ⟨w.heap.size + 3, 0, none⟩ = some (.int .i64 (Q.1.l.length : Nat)) := hBF.cell 0
    have x1 : wf.cell? ⟨w.heap.size + 3, 1, none⟩ = some (.slice a2 Q.2.length c2) := hBF.cell 1
    refine bodyPost_ret (v := .tuple #[.agg #[.int .i64 (Q.1.l.length : Nat), .slice a2 Q.2.length c2], .int .i64 0]) ?_ rfl ?_
    · simp [results, Tryz.results36, go_sem, x0, x1]
    · exact ⟨HH.out.2, .inl ⟨Q.1, Q.2, a2, c2, HF.out, HG.out, HTo.out, rfl, RowC.of_own (by omega) HH.out.1⟩⟩
  · have hB7 := hB6.off h3 (fun h => by rcases h with h | h | h | h; omega; omega; omega; cases h)
    have q3 : w'.cell? ⟨w.heap.size + 3, 0, none⟩ = some (.int .i64 0) := hB7.cell 0
    have q4 : w'.cell? ⟨w.heap.size + 3, 1, none⟩ = some (.slice none 0 0) := hB7.cell 1
    have q5 : w'.frozen? ⟨w.heap.size + 3, 0, none⟩ = false := hB7.frozen 0
    have q6 : w'.frozen? ⟨w.heap.size + 3, 1, none⟩ = false := hB7.frozen 1
    have l2 := hB7.lt
    have HO := Lib.hid h3
    have HF := Lib.hid h1
    clear h3 h1 hT0 hB6
    go_wp2
    have hBF : Blk ((w'.setCell ⟨w.heap.size + 3, 0, none⟩ (.int .i64 0)).setCell ⟨w.heap.size + 3, 1, none⟩ (.slice none 0 0)) (w.heap.size + 3) 80 #[.int .i64 0, .slice none 0 0] := by
      have hh := (hB7.put 0 (.int .i64 0)).put 1 (.slice none 0 0)
      simp only [List.setIfInBounds_toArray, List.set_cons_zero, List.set_cons_succ] at hh
      exact hh
    have hbe : Below w.heap.size w ((w'.setCell ⟨w.heap.size + 3, 0, none⟩ (.int .i64 0)).setCell ⟨w.heap.size + 3, 1, none⟩ (.slice none 0 0)) := ((hm.below.trans (HO.out.below (fun g h => by rcases h with h | h | h | h; omega; omega; omega; cases h) (by omega))).setCell (p := ⟨w.heap.size + 3, 0, none⟩) (by dsimp only; omega) _).setCell (p := ⟨w.heap.size + 3, 1, none⟩) (by dsimp only; omega) _
    have HH := Lib.hid hbe
    clear hbe
    generalize ((w'.setCell ⟨w.heap.size + 3, 0, none⟩ (.int .i64 0)).setCell ⟨w.heap.size + 3, 1, none⟩ (.slice none 0 0)) = wf at *
    have x0 : wf.cell? ⟨w.heap.size + 3, 0, none⟩ = some (.int .i64 0) := hBF.cell 0
    have x1 : wf.cell? ⟨w.heap.size + 3, 1, none⟩ = some (.slice none 0 0) := hBF.cell 1
    refine bodyPost_ret (v := .tuple #[.agg #[.int .i64 0, .slice none 0 0], .int .i64 4]) ?_ rfl ?_
    · simp [results, Tryz.results36, go_sem, x0, x1]
    · exact ⟨HH.out, .inr ⟨HF.out, rfl⟩⟩
end Go.Proofs.YtgmljgcmfooniaaGreatDoor
