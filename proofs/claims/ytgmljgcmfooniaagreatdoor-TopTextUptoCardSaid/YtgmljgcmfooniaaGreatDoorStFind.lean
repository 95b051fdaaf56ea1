/- space.find: a state's number, or a new one. Conditions: none. -/
import Derived.Test.YtgmljgcmfooniaaGreatDoorStMid
import Derived.StillTailTactics
import Derived.Deep.RegionHeld
import Derived.Deep.AppendLies
import Derived.Laws.Tables
set_option linter.unusedVariables false
set_option linter.unusedSimpArgs false
namespace Go.Proofs.YtgmljgcmfooniaaGreatDoor
open Go.RowKit Go.Tide
set_option linter.unusedVariables false
set_option linter.unusedSimpArgs false
def dCell (s : DSt) (j : Nat) : Int := match j with
  | 0 => s.a.c0
  | 1 => s.a.c1
  | 2 => s.a.c2
  | 3 => s.a.c3
  | 4 => s.a.c4
  | 5 => s.a.c5
  | 6 => s.b.c0
  | 7 => s.b.c1
  | 8 => s.b.c2
  | 9 => s.b.c3
  | 10 => s.b.c4
  | 11 => s.b.c5
  | 12 => s.w0
  | _ => s.w1
def stF (s : Fnd DSt) (k j : Nat) : Int := match s.l[k]? with
  | some x => dCell x j
  | none => 0
def frF (s : Fnd DSt) (k : Nat) : Int := match s.pr[k]? with
  | some x => x.1
  | none => 0
def byF (J : Nat) (s : Fnd DSt) (k j : Nat) : Int := match s.pr[k]? with
  | some x => if j = 0 then ((x.2 / (J + 1) : Nat) : Int) else ((x.2 % (J + 1) : Nat) : Int)
  | none => 0
theorem st_snoc (s : Fnd DSt) (y : DSt) (z : Int × Nat) : cellsC 14 (s.l.length + 1) (stF ⟨s.l ++ [y], s.pr ++ [z]⟩) = cellsC 14 s.l.length (stF s) ++ [.int .i64 y.a.c0, .int .i64 y.a.c1, .int .i64 y.a.c2, .int .i64 y.a.c3, .int .i64 y.a.c4, .int .i64 y.a.c5, .int .i64 y.b.c0, .int .i64 y.b.c1, .int .i64 y.b.c2, .int .i64 y.b.c3, .int .i64 y.b.c4, .int .i64 y.b.c5, .int .i64 y.w0, .int .i64 y.w1] := by
  rw [cellsC_succ]
  congr 1
  · refine cellsC_congr fun k j hk hj => ?_
    unfold stF
    dsimp only
    rw [snoc_lt hk]
  · have e : ∀ j, stF ⟨s.l ++ [y], s.pr ++ [z]⟩ s.l.length j = dCell y j := fun j => by
      unfold stF
      dsimp only
      rw [snoc_at]
    show (List.range 14).map (fun j => Value.int .i64 (stF ⟨s.l ++ [y], s.pr ++ [z]⟩ s.l.length j)) = _
    simp only [e]
    rfl
theorem fr_snoc (s : Fnd DSt) (y : DSt) (z : Int × Nat) (hl : s.pr.length = s.l.length) : cellsOf (s.l.length + 1) (frF ⟨s.l ++ [y], s.pr ++ [z]⟩) = cellsOf s.l.length (frF s) ++ [.int .i64 z.1] := by
  rw [cellsOf_succ]
  congr 1
  · refine cellsOf_congr fun k hk => ?_
    unfold frF
    dsimp only
    rw [snoc_lt (by omega)]
  · unfold frF
    dsimp only
    rw [← hl, snoc_at]
theorem by_snoc (J : Nat) (s : Fnd DSt) (y : DSt) (z : Int × Nat) (hl : s.pr.length = s.l.length) : cellsC 2 (s.l.length + 1) (byF J ⟨s.l ++ [y], s.pr ++ [z]⟩) = cellsC 2 s.l.length (byF J s) ++ [.int .i64 ((z.2 / (J + 1) : Nat) : Int), .int .i64 ((z.2 % (J + 1) : Nat) : Int)] := by
  rw [cellsC_succ]
  congr 1
  · refine cellsC_congr fun k j hk hj => ?_
    unfold byF
    dsimp only
    rw [snoc_lt (by omega)]
  · have e : ∀ j, byF J ⟨s.l ++ [y], s.pr ++ [z]⟩ s.l.length j = if j = 0 then ((z.2 / (J + 1) : Nat) : Int) else ((z.2 % (J + 1) : Nat) : Int) := fun j => by
      unfold byF
      dsimp only
      rw [← hl, snoc_at]
    show (List.range 2).map (fun j => Value.int .i64 (byF J ⟨s.l ++ [y], s.pr ++ [z]⟩ s.l.length j)) = _
    simp only [e]
    rfl
/-- The blocks that are the space's own. -/
def SOwn (S M : Nat) (v1 v2 v3 : Value) (g : Nat) : Prop := g = S ∨ g = M ∨ v1.ownBlock = some g ∨ v2.ownBlock = some g ∨ v3.ownBlock = some g
def Spc (B : Nat) (w : World) (S M : Nat) (v1 v2 v3 : Value) (s : Fnd DSt) (J : Nat) : Prop :=
  Mid (SOwn S M v1 v2 v3) w B w S M v1 v2 v3 v1 v2 v3 s.l s.l.length s.l.length s.l.length (cellsC 14 s.l.length (stF s)) (cellsOf s.l.length (frF s)) (cellsC 2 s.l.length (byF J s))
set_option maxRecDepth 20000 in
set_option maxHeartbeats 2000000 in
theorem find_hit (B S M J : Nat) (v1 v2 v3 : Value) (s : Fnd DSt) (y : DSt) (frm l0 l1 : Int) (w : World) (h : Spc B w S M v1 v2 v3 s J) (hy : y.inI) (n : Nat) (hn : s.l[n]? = some y) :
    Calls Tryz.prog 90 #[.pointer (some ⟨S, 0, none⟩), .agg #[.int .i64 y.a.c0, .int .i64 y.a.c1, .int .i64 y.a.c2, .int .i64 y.a.c3, .int .i64 y.a.c4, .int .i64 y.a.c5, .int .i64 y.b.c0, .int .i64 y.b.c1, .int .i64 y.b.c2, .int .i64 y.b.c3, .int .i64 y.b.c4, .int .i64 y.b.c5, .int .i64 y.w0, .int .i64 y.w1], .int .i64 frm, .agg #[.int .i64 l0, .int .i64 l1]] w fun e w' => e = .returned (.tuple #[.int .i64 n, .bool true]) ∧ More w w' := by
  have hM : Mid (SOwn S M v1 v2 v3) w B ((w.alloc (.cells #[.int .i64 y.a.c0, .int .i64 y.a.c1, .int .i64 y.a.c2, .int .i64 y.a.c3, .int .i64 y.a.c4, .int .i64 y.a.c5, .int .i64 y.b.c0, .int .i64 y.b.c1, .int .i64 y.b.c2, .int .i64 y.b.c3, .int .i64 y.b.c4, .int .i64 y.b.c5, .int .i64 y.w0, .int .i64 y.w1] 44)).alloc (.cells #[.int .i64 l0, .int .i64 l1] 30)) S M v1 v2 v3 v1 v2 v3 s.l s.l.length s.l.length s.l.length (cellsC 14 s.l.length (stF s)) (cellsOf s.l.length (frF s)) (cellsC 2 s.l.length (byF J s)) := (Mid.alloc h _).alloc _
  have hX : Side ((w.alloc (.cells #[.int .i64 y.a.c0, .int .i64 y.a.c1, .int .i64 y.a.c2, .int .i64 y.a.c3, .int .i64 y.a.c4, .int .i64 y.a.c5, .int .i64 y.b.c0, .int .i64 y.b.c1, .int .i64 y.b.c2, .int .i64 y.b.c3, .int .i64 y.b.c4, .int .i64 y.b.c5, .int .i64 y.w0, .int .i64 y.w1] 44)).alloc (.cells #[.int .i64 l0, .int .i64 l1] 30)) w.heap.size 44 #[.int .i64 y.a.c0, .int .i64 y.a.c1, .int .i64 y.a.c2, .int .i64 y.a.c3, .int .i64 y.a.c4, .int .i64 y.a.c5, .int .i64 y.b.c0, .int .i64 y.b.c1, .int .i64 y.b.c2, .int .i64 y.b.c3, .int .i64 y.b.c4, .int .i64 y.b.c5, .int .i64 y.w0, .int .i64 y.w1] v1 v2 v3 := (Mid.side h _ _).alloc _
  have hX2 : Side ((w.alloc (.cells #[.int .i64 y.a.c0, .int .i64 y.a.c1, .int .i64 y.a.c2, .int .i64 y.a.c3, .int .i64 y.a.c4, .int .i64 y.a.c5, .int .i64 y.b.c0, .int .i64 y.b.c1, .int .i64 y.b.c2, .int .i64 y.b.c3, .int .i64 y.b.c4, .int .i64 y.b.c5, .int .i64 y.w0, .int .i64 y.w1] 44)).alloc (.cells #[.int .i64 l0, .int .i64 l1] 30)) (w.alloc (.cells #[.int .i64 y.a.c0, .int .i64 y.a.c1, .int .i64 y.a.c2, .int .i64 y.a.c3, .int .i64 y.a.c4, .int .i64 y.a.c5, .int .i64 y.b.c0, .int .i64 y.b.c1, .int .i64 y.b.c2, .int .i64 y.b.c3, .int .i64 y.b.c4, .int .i64 y.b.c5, .int .i64 y.w0, .int .i64 y.w1] 44)).heap.size 30 #[.int .i64 l0, .int .i64 l1] v1 v2 v3 := Mid.side (Mid.alloc h _) _ _
  rw [World.size_alloc] at hX2
  have hmore : More w ((w.alloc (.cells #[.int .i64 y.a.c0, .int .i64 y.a.c1, .int .i64 y.a.c2, .int .i64 y.a.c3, .int .i64 y.a.c4, .int .i64 y.a.c5, .int .i64 y.b.c0, .int .i64 y.b.c1, .int .i64 y.b.c2, .int .i64 y.b.c3, .int .i64 y.b.c4, .int .i64 y.b.c5, .int .i64 y.w0, .int .i64 y.w1] 44)).alloc (.cells #[.int .i64 l0, .int .i64 l1] 30)) := (by repeat (first | (with_reducible assumption) | (with_reducible exact More.refl _) | (with_reducible refine More.alloc ?_ _) | (with_reducible refine More.more ?_ _ _) | (with_reducible refine More.drewN ?_ _) | (with_reducible refine More.drew ?_)))
  go_enter Tryz.func90, Tryz.ntmps90
  go_wp2_with fail
  generalize ((w.alloc (.cells #[.int .i64 y.a.c0, .int .i64 y.a.c1, .int .i64 y.a.c2, .int .i64 y.a.c3, .int .i64 y.a.c4, .int .i64 y.a.c5, .int .i64 y.b.c0, .int .i64 y.b.c1, .int .i64 y.b.c2, .int .i64 y.b.c3, .int .i64 y.b.c4, .int .i64 y.b.c5, .int .i64 y.w0, .int .i64 y.w1] 44)).alloc (.cells #[.int .i64 l0, .int .i64 l1] 30)) = w2 at *
  have hl2 := hX2.blk.lt
  have hl1 := hX.blk.lt
  have hlS := hM.blk.lt
  generalize w.heap.size + 1 = G7 at *
  generalize w.heap.size = G5 at *
  have c0 : w2.cell? ⟨S, 0, none⟩ = some (.map (some M)) := hM.blk.cell 0
  have y0 : w2.cell? ⟨G5, 0, none⟩ = some (.int .i64 y.a.c0) := hX.blk.cell 0
  have y1 : w2.cell? ⟨G5, 1, none⟩ = some (.int .i64 y.a.c1) := hX.blk.cell 1
  have y2 : w2.cell? ⟨G5, 2, none⟩ = some (.int .i64 y.a.c2) := hX.blk.cell 2
  have y3 : w2.cell? ⟨G5, 3, none⟩ = some (.int .i64 y.a.c3) := hX.blk.cell 3
  have y4 : w2.cell? ⟨G5, 4, none⟩ = some (.int .i64 y.a.c4) := hX.blk.cell 4
  have y5 : w2.cell? ⟨G5, 5, none⟩ = some (.int .i64 y.a.c5) := hX.blk.cell 5
  have y6 : w2.cell? ⟨G5, 6, none⟩ = some (.int .i64 y.b.c0) := hX.blk.cell 6
  have y7 : w2.cell? ⟨G5, 7, none⟩ = some (.int .i64 y.b.c1) := hX.blk.cell 7
  have y8 : w2.cell? ⟨G5, 8, none⟩ = some (.int .i64 y.b.c2) := hX.blk.cell 8
  have y9 : w2.cell? ⟨G5, 9, none⟩ = some (.int .i64 y.b.c3) := hX.blk.cell 9
  have y10 : w2.cell? ⟨G5, 10, none⟩ = some (.int .i64 y.b.c4) := hX.blk.cell 10
  have y11 : w2.cell? ⟨G5, 11, none⟩ = some (.int .i64 y.b.c5) := hX.blk.cell 11
  have y12 : w2.cell? ⟨G5, 12, none⟩ = some (.int .i64 y.w0) := hX.blk.cell 12
  have y13 : w2.cell? ⟨G5, 13, none⟩ = some (.int .i64 y.w1) := hX.blk.cell 13
  have hlook : ∀ k, (Instr.lookup 118 (.map (some M)) (.agg #[.int .i64 y.a.c0, .int .i64 y.a.c1, .int .i64 y.a.c2, .int .i64 y.a.c3, .int .i64 y.a.c4, .int .i64 y.a.c5, .int .i64 y.b.c0, .int .i64 y.b.c1, .int .i64 y.b.c2, .int .i64 y.b.c3, .int .i64 y.b.c4, .int .i64 y.b.c5, .int .i64 y.w0, .int .i64 y.w1]) true).run Tryz.prog (w2.drewN k) = .ok (.tuple #[.int .i64 n, .bool true]) (w2.drewN k) := fun k => SMap.hit (w := w2.drewN k) hM.map hy hn
  have hlook0 : (Instr.lookup 118 (.map (some M)) (.agg #[.int .i64 y.a.c0, .int .i64 y.a.c1, .int .i64 y.a.c2, .int .i64 y.a.c3, .int .i64 y.a.c4, .int .i64 y.a.c5, .int .i64 y.b.c0, .int .i64 y.b.c1, .int .i64 y.b.c2, .int .i64 y.b.c3, .int .i64 y.b.c4, .int .i64 y.b.c5, .int .i64 y.w0, .int .i64 y.w1]) true).run Tryz.prog w2 = .ok (.tuple #[.int .i64 n, .bool true]) w2 := hlook 0
  go_quiet (fail)
  go_wp2
  go_ret2
  exact ⟨rfl, (by repeat (first | (with_reducible assumption) | (with_reducible exact More.refl _) | (with_reducible refine More.alloc ?_ _) | (with_reducible refine More.more ?_ _ _) | (with_reducible refine More.drewN ?_ _) | (with_reducible refine More.drew ?_)))⟩
set_option maxRecDepth 20000 in
set_option maxHeartbeats 2000000 in
theorem find_full (B S M J : Nat) (v1 v2 v3 : Value) (s : Fnd DSt) (y : DSt) (frm l0 l1 : Int) (w : World) (h : Spc B w S M v1 v2 v3 s J) (hy : y.inI) (hn : y ∉ s.l) (hl : s.l.length = 300) :
    Calls Tryz.prog 90 #[.pointer (some ⟨S, 0, none⟩), .agg #[.int .i64 y.a.c0, .int .i64 y.a.c1, .int .i64 y.a.c2, .int .i64 y.a.c3, .int .i64 y.a.c4, .int .i64 y.a.c5, .int .i64 y.b.c0, .int .i64 y.b.c1, .int .i64 y.b.c2, .int .i64 y.b.c3, .int .i64 y.b.c4, .int .i64 y.b.c5, .int .i64 y.w0, .int .i64 y.w1], .int .i64 frm, .agg #[.int .i64 l0, .int .i64 l1]] w fun e w' => e = .returned (.tuple #[.int .i64 0, .bool false]) ∧ More w w' := by
  obtain ⟨a1, cc1, hv1, hcc1⟩ := own_sliceC h.r1
  have hM : Mid (SOwn S M v1 v2 v3) w B ((w.alloc (.cells #[.int .i64 y.a.c0, .int .i64 y.a.c1, .int .i64 y.a.c2, .int .i64 y.a.c3, .int .i64 y.a.c4, .int .i64 y.a.c5, .int .i64 y.b.c0, .int .i64 y.b.c1, .int .i64 y.b.c2, .int .i64 y.b.c3, .int .i64 y.b.c4, .int .i64 y.b.c5, .int .i64 y.w0, .int .i64 y.w1] 44)).alloc (.cells #[.int .i64 l0, .int .i64 l1] 30)) S M v1 v2 v3 v1 v2 v3 s.l s.l.length s.l.length s.l.length (cellsC 14 s.l.length (stF s)) (cellsOf s.l.length (frF s)) (cellsC 2 s.l.length (byF J s)) := (Mid.alloc h _).alloc _
  have hX : Side ((w.alloc (.cells #[.int .i64 y.a.c0, .int .i64 y.a.c1, .int .i64 y.a.c2, .int .i64 y.a.c3, .int .i64 y.a.c4, .int .i64 y.a.c5, .int .i64 y.b.c0, .int .i64 y.b.c1, .int .i64 y.b.c2, .int .i64 y.b.c3, .int .i64 y.b.c4, .int .i64 y.b.c5, .int .i64 y.w0, .int .i64 y.w1] 44)).alloc (.cells #[.int .i64 l0, .int .i64 l1] 30)) w.heap.size 44 #[.int .i64 y.a.c0, .int .i64 y.a.c1, .int .i64 y.a.c2, .int .i64 y.a.c3, .int .i64 y.a.c4, .int .i64 y.a.c5, .int .i64 y.b.c0, .int .i64 y.b.c1, .int .i64 y.b.c2, .int .i64 y.b.c3, .int .i64 y.b.c4, .int .i64 y.b.c5, .int .i64 y.w0, .int .i64 y.w1] v1 v2 v3 := (Mid.side h _ _).alloc _
  have hX2 : Side ((w.alloc (.cells #[.int .i64 y.a.c0, .int .i64 y.a.c1, .int .i64 y.a.c2, .int .i64 y.a.c3, .int .i64 y.a.c4, .int .i64 y.a.c5, .int .i64 y.b.c0, .int .i64 y.b.c1, .int .i64 y.b.c2, .int .i64 y.b.c3, .int .i64 y.b.c4, .int .i64 y.b.c5, .int .i64 y.w0, .int .i64 y.w1] 44)).alloc (.cells #[.int .i64 l0, .int .i64 l1] 30)) (w.alloc (.cells #[.int .i64 y.a.c0, .int .i64 y.a.c1, .int .i64 y.a.c2, .int .i64 y.a.c3, .int .i64 y.a.c4, .int .i64 y.a.c5, .int .i64 y.b.c0, .int .i64 y.b.c1, .int .i64 y.b.c2, .int .i64 y.b.c3, .int .i64 y.b.c4, .int .i64 y.b.c5, .int .i64 y.w0, .int .i64 y.w1] 44)).heap.size 30 #[.int .i64 l0, .int .i64 l1] v1 v2 v3 := Mid.side (Mid.alloc h _) _ _
  rw [World.size_alloc] at hX2
  have hmore : More w ((w.alloc (.cells #[.int .i64 y.a.c0, .int .i64 y.a.c1, .int .i64 y.a.c2, .int .i64 y.a.c3, .int .i64 y.a.c4, .int .i64 y.a.c5, .int .i64 y.b.c0, .int .i64 y.b.c1, .int .i64 y.b.c2, .int .i64 y.b.c3, .int .i64 y.b.c4, .int .i64 y.b.c5, .int .i64 y.w0, .int .i64 y.w1] 44)).alloc (.cells #[.int .i64 l0, .int .i64 l1] 30)) := (by repeat (first | (with_reducible assumption) | (with_reducible exact More.refl _) | (with_reducible refine More.alloc ?_ _) | (with_reducible refine More.more ?_ _ _) | (with_reducible refine More.drewN ?_ _) | (with_reducible refine More.drew ?_)))
  go_enter Tryz.func90, Tryz.ntmps90
  go_wp2_with fail
  generalize ((w.alloc (.cells #[.int .i64 y.a.c0, .int .i64 y.a.c1, .int .i64 y.a.c2, .int .i64 y.a.c3, .int .i64 y.a.c4, .int .i64 y.a.c5, .int .i64 y.b.c0, .int .i64 y.b.c1, .int .i64 y.b.c2, .int .i64 y.b.c3, .int .i64 y.b.c4, .int .i64 y.b.c5, .int .i64 y.w0, .int .i64 y.w1] 44)).alloc (.cells #[.int .i64 l0, .int .i64 l1] 30)) = w2 at *
  have hl2 := hX2.blk.lt
  have hl1 := hX.blk.lt
  have hlS := hM.blk.lt
  generalize w.heap.size + 1 = G7 at *
  generalize w.heap.size = G5 at *
  have c0 : w2.cell? ⟨S, 0, none⟩ = some (.map (some M)) := hM.blk.cell 0
  have y0 : w2.cell? ⟨G5, 0, none⟩ = some (.int .i64 y.a.c0) := hX.blk.cell 0
  have y1 : w2.cell? ⟨G5, 1, none⟩ = some (.int .i64 y.a.c1) := hX.blk.cell 1
  have y2 : w2.cell? ⟨G5, 2, none⟩ = some (.int .i64 y.a.c2) := hX.blk.cell 2
  have y3 : w2.cell? ⟨G5, 3, none⟩ = some (.int .i64 y.a.c3) := hX.blk.cell 3
  have y4 : w2.cell? ⟨G5, 4, none⟩ = some (.int .i64 y.a.c4) := hX.blk.cell 4
  have y5 : w2.cell? ⟨G5, 5, none⟩ = some (.int .i64 y.a.c5) := hX.blk.cell 5
  have y6 : w2.cell? ⟨G5, 6, none⟩ = some (.int .i64 y.b.c0) := hX.blk.cell 6
  have y7 : w2.cell? ⟨G5, 7, none⟩ = some (.int .i64 y.b.c1) := hX.blk.cell 7
  have y8 : w2.cell? ⟨G5, 8, none⟩ = some (.int .i64 y.b.c2) := hX.blk.cell 8
  have y9 : w2.cell? ⟨G5, 9, none⟩ = some (.int .i64 y.b.c3) := hX.blk.cell 9
  have y10 : w2.cell? ⟨G5, 10, none⟩ = some (.int .i64 y.b.c4) := hX.blk.cell 10
  have y11 : w2.cell? ⟨G5, 11, none⟩ = some (.int .i64 y.b.c5) := hX.blk.cell 11
  have y12 : w2.cell? ⟨G5, 12, none⟩ = some (.int .i64 y.w0) := hX.blk.cell 12
  have y13 : w2.cell? ⟨G5, 13, none⟩ = some (.int .i64 y.w1) := hX.blk.cell 13
  have c1 : w2.cell? ⟨S, 1, none⟩ = some (.slice a1 s.l.length cc1) := by rw [← hv1]; exact hM.blk.cell 1
  rw [hl] at c1
  have hlook : ∀ k, (Instr.lookup 118 (.map (some M)) (.agg #[.int .i64 y.a.c0, .int .i64 y.a.c1, .int .i64 y.a.c2, .int .i64 y.a.c3, .int .i64 y.a.c4, .int .i64 y.a.c5, .int .i64 y.b.c0, .int .i64 y.b.c1, .int .i64 y.b.c2, .int .i64 y.b.c3, .int .i64 y.b.c4, .int .i64 y.b.c5, .int .i64 y.w0, .int .i64 y.w1]) true).run Tryz.prog (w2.drewN k) = .ok (.tuple #[.int .i64 0, .bool false]) (w2.drewN k) := fun k => SMap.miss (w := w2.drewN k) hM.map hy hn
  have hlook0 : (Instr.lookup 118 (.map (some M)) (.agg #[.int .i64 y.a.c0, .int .i64 y.a.c1, .int .i64 y.a.c2, .int .i64 y.a.c3, .int .i64 y.a.c4, .int .i64 y.a.c5, .int .i64 y.b.c0, .int .i64 y.b.c1, .int .i64 y.b.c2, .int .i64 y.b.c3, .int .i64 y.b.c4, .int .i64 y.b.c5, .int .i64 y.w0, .int .i64 y.w1]) true).run Tryz.prog w2 = .ok (.tuple #[.int .i64 0, .bool false]) w2 := hlook 0
  go_quiet (fail)
  go_wp2
  go_ret2
  exact ⟨rfl, (by repeat (first | (with_reducible assumption) | (with_reducible exact More.refl _) | (with_reducible refine More.alloc ?_ _) | (with_reducible refine More.more ?_ _ _) | (with_reducible refine More.drewN ?_ _) | (with_reducible refine More.drew ?_)))⟩
end Go.Proofs.YtgmljgcmfooniaaGreatDoor
