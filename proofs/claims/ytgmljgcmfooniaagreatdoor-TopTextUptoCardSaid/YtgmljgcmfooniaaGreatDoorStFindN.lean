/- space.find: a new state. Conditions: none. -/
import Derived.Test.YtgmljgcmfooniaaGreatDoorSq
import Derived.Test.YtgmljgcmfooniaaGreatDoorStFind
import Derived.Test.YtgmljgcmfooniaaGreatDoorTwo
set_option linter.unusedVariables false
set_option linter.unusedSimpArgs false
namespace Go.Proofs.YtgmljgcmfooniaaGreatDoor
open Go.RowKit Go.Tide
set_option linter.unusedVariables false
set_option linter.unusedSimpArgs false
theorem stateInfo : (Tryz.prog.info? 44).map (fun i => (i.zero, i.size, i.bytes)) = some (some (.agg #[.int .i64 0, .int .i64 0, .int .i64 0, .int .i64 0, .int .i64 0, .int .i64 0, .int .i64 0, .int .i64 0, .int .i64 0, .int .i64 0, .int .i64 0, .int .i64 0, .int .i64 0, .int .i64 0]), 14, 112) := by kernel_rfl
theorem intInfo1 : (Tryz.prog.info? 3).map (fun i => (i.zero, i.size, i.bytes)) = some (some (.int .i64 0), 1, 8) := by kernel_rfl
theorem twoInfo : (Tryz.prog.info? 30).map (fun i => (i.zero, i.size, i.bytes)) = some (some (.agg #[.int .i64 0, .int .i64 0]), 2, 16) := by kernel_rfl
section
variable {X : Nat → Prop} {w0 w w1 : World} {B S M : Nat} {u1 u2 u3 v1 v2 v3 : Value} {l l' : List DSt} {n1 n2 n3 : Nat} {x1 x2 x3 : List Value} {b : Nat} {t : TypeId} {cs : Array Value}
theorem map_ne (h : Blk w b t cs) (k : SMap w M l) : b ≠ M := by
  rintro rfl
  obtain ⟨D, ⟨es, clock, hb, _⟩, _⟩ := k
  unfold Blk at h
  rw [h] at hb
  cases hb
theorem Mid.put (h : Mid X w0 B w S M u1 u2 u3 v1 v2 v3 l n1 n2 n3 x1 x2 x3) (hm : SMap w1 M l') (hg : w.grownBy w1 (some M)) : Mid X w0 B w1 S M u1 u2 u3 v1 v2 v3 l' n1 n2 n3 x1 x2 x3 :=
  ⟨h.blk.grown hg (fun e => h.sm (Option.some.inj e)), hm, h.r1.kept hg (.inr h.m1.1), h.r2.kept hg (.inr h.m1.2.1), h.r3.kept hg (.inr h.m1.2.2), h.a12, h.a13, h.a23, h.s1, h.m1, h.sm, ⟨h.sB.1, h.sB.2.1, by have := hg.size; have := h.sB.2.2; omega⟩,
    h.off.trans (Off.of_grown hg (fun g e _ => by have e2 : M = g := Option.some.inj e; subst e2; exact h.xs.2)), h.xs, h.x1, h.x2, h.x3⟩
theorem Side.put (h : Side w b t cs v1 v2 v3) (k : SMap w M l) (hg : w.grownBy w1 (some M)) : Side w1 b t cs v1 v2 v3 := ⟨h.blk.grown hg (fun e => map_ne h.blk k (Option.some.inj e)), h.ne⟩
theorem Side.drewN (h : Side w b t cs v1 v2 v3) (k : Nat) : Side (w.drewN k) b t cs v1 v2 v3 := ⟨h.blk, h.ne⟩
theorem Mid.drewN (h : Mid X w0 B w S M u1 u2 u3 v1 v2 v3 l n1 n2 n3 x1 x2 x3) (k : Nat) : Mid X w0 B (w.drewN k) S M u1 u2 u3 v1 v2 v3 l n1 n2 n3 x1 x2 x3 :=
  ⟨h.blk, h.map, h.r1, h.r2, h.r3, h.a12, h.a13, h.a23, h.s1, h.m1, h.sm, h.sB, h.off.drewN k, h.xs, h.x1, h.x2, h.x3⟩
theorem Side.drew (h : Side w b t cs v1 v2 v3) : Side w.drew b t cs v1 v2 v3 := ⟨h.blk, h.ne⟩
theorem SMap.far (h : SMap w M l) {p : Addr} (hp : M ≠ p.block) (v : Value) : SMap (w.setCell p v) M l :=
  h.kept (row := some p.block) ⟨rfl, rfl, rfl, by simp [World.setCell], fun g hg hne => Below.heap_setCell w p v g (fun e => hne (by rw [e]))⟩ (fun e => hp (Option.some.inj e))
theorem own_far {base size n : Nat} {e : TypeId} {v : Value} {xs : List Value} (h : w.ownsRow base e size v n xs) {p : Addr} (hp : v.ownBlock ≠ some p.block) (u : Value) : (w.setCell p u).ownsRow base e size v n xs :=
  h.kept (row := some p.block) ⟨rfl, rfl, rfl, by simp [World.setCell], fun g hg hne => Below.heap_setCell w p u g (fun k => hne (by rw [k]))⟩ (.inr hp)
theorem Mid.store (h : Mid X w0 B w S M u1 u2 u3 v1 v2 v3 l n1 n2 n3 x1 x2 x3) : Mid X w0 B (((w.setCell ⟨S, 1, none⟩ v1).setCell ⟨S, 2, none⟩ v2).setCell ⟨S, 3, none⟩ v3) S M v1 v2 v3 v1 v2 v3 l n1 n2 n3 x1 x2 x3 :=
  ⟨by
    have hh := ((h.blk.put 1 v1).put 2 v2).put 3 v3
    simpa only [List.setIfInBounds_toArray, List.set_cons_zero, List.set_cons_succ] using hh,
    ((h.map.far (p := ⟨S, 1, none⟩) (fun e => h.sm e.symm) _).far (p := ⟨S, 2, none⟩) (fun e => h.sm e.symm) _).far (p := ⟨S, 3, none⟩) (fun e => h.sm e.symm) _,
    own_far (p := ⟨S, 3, none⟩) (own_far (p := ⟨S, 2, none⟩) (own_far (p := ⟨S, 1, none⟩) h.r1 h.s1.1 _) h.s1.1 _) h.s1.1 _,
    own_far (p := ⟨S, 3, none⟩) (own_far (p := ⟨S, 2, none⟩) (own_far (p := ⟨S, 1, none⟩) h.r2 h.s1.2.1 _) h.s1.2.1 _) h.s1.2.1 _,
    own_far (p := ⟨S, 3, none⟩) (own_far (p := ⟨S, 2, none⟩) (own_far (p := ⟨S, 1, none⟩) h.r3 h.s1.2.2 _) h.s1.2.2 _) h.s1.2.2 _,
    h.a12, h.a13, h.a23, h.s1, h.m1, h.sm, ⟨h.sB.1, h.sB.2.1, by simp [World.setCell]; exact h.sB.2.2⟩, ((h.off.setCell (p := ⟨S, 1, none⟩) (fun _ => h.xs.1) _).setCell (p := ⟨S, 2, none⟩) (fun _ => h.xs.1) _).setCell (p := ⟨S, 3, none⟩) (fun _ => h.xs.1) _, h.xs, h.x1, h.x2, h.x3⟩
theorem Mid.rebase (h : Mid X w0 B w S M u1 u2 u3 v1 v2 v3 l n1 n2 n3 x1 x2 x3) : Mid (SOwn S M v1 v2 v3) w B w S M u1 u2 u3 v1 v2 v3 l n1 n2 n3 x1 x2 x3 :=
  ⟨h.blk, h.map, h.r1, h.r2, h.r3, h.a12, h.a13, h.a23, h.s1, h.m1, h.sm, h.sB, Off.refl _ _, ⟨.inl rfl, .inr (.inl rfl)⟩, fun g e => .inl (.inr (.inr (.inl e))), fun g e => .inl (.inr (.inr (.inr (.inl e)))), fun g e => .inl (.inr (.inr (.inr (.inr e))))⟩
theorem Mid.fresh (h : Mid X w0 B w S M u1 u2 u3 v1 v2 v3 l n1 n2 n3 x1 x2 x3) : ∀ g, SOwn S M v1 v2 v3 g → X g ∨ w0.heap.size ≤ g := fun g hg => by
  rcases hg with rfl | rfl | e | e | e
  · exact .inl h.xs.1
  · exact .inl h.xs.2
  · exact h.x1 g e
  · exact h.x2 g e
  · exact h.x3 g e
end
theorem ret_pair {a b : Int} {c : Bool} (h : a = b) : Ending.returned (.tuple #[.int .i64 a, .bool c]) = .returned (.tuple #[.int .i64 b, .bool c]) := by rw [h]
theorem find_end {X : Nat → Prop} {w0 w : World} {B S M J : Nat} {v1 v2 v3 : Value} {s : Fnd DSt} {y : DSt} {frm l0 l1 : Int} {i : Nat}
    (h : Mid X w0 B w S M v1 v2 v3 v1 v2 v3 (s.l ++ [y]) (s.l.length + 1) (s.l.length + 1) (s.l.length + 1) (cellsC 14 s.l.length (stF s) ++ [.int .i64 y.a.c0, .int .i64 y.a.c1, .int .i64 y.a.c2, .int .i64 y.a.c3, .int .i64 y.a.c4, .int .i64 y.a.c5, .int .i64 y.b.c0, .int .i64 y.b.c1, .int .i64 y.b.c2, .int .i64 y.b.c3, .int .i64 y.b.c4, .int .i64 y.b.c5, .int .i64 y.w0, .int .i64 y.w1]) (cellsOf s.l.length (frF s) ++ [.int .i64 frm]) (cellsC 2 s.l.length (byF J s) ++ [.int .i64 l0, .int .i64 l1]))
    (hp : s.pr.length = s.l.length) (h0 : l0 = ((i / (J + 1) : Nat) : Int)) (h1 : l1 = ((i % (J + 1) : Nat) : Int)) : Spc B w S M v1 v2 v3 ⟨s.l ++ [y], s.pr ++ [(frm, i)]⟩ J := by
  unfold Spc
  dsimp only
  rw [List.length_append, List.length_singleton, st_snoc, fr_snoc s y (frm, i) hp, by_snoc J s y (frm, i) hp]
  subst h0 h1
  exact h.rebase
set_option maxRecDepth 20000 in
set_option maxHeartbeats 8000000 in
theorem find_new (B S M J : Nat) (v1 v2 v3 : Value) (s : Fnd DSt) (y : DSt) (frm l0 l1 : Int) (w : World) (h : Spc B w S M v1 v2 v3 s J) (hy : y.inI) (hn : y ∉ s.l) (hl : s.l.length < 300) (hp : s.pr.length = s.l.length) (hin : ∀ x ∈ s.l, x.inI) (i : Nat) (h0 : l0 = ((i / (J + 1) : Nat) : Int)) (h1 : l1 = ((i % (J + 1) : Nat) : Int)) :
    Calls Tryz.prog 90 #[.pointer (some ⟨S, 0, none⟩), .agg #[.int .i64 y.a.c0, .int .i64 y.a.c1, .int .i64 y.a.c2, .int .i64 y.a.c3, .int .i64 y.a.c4, .int .i64 y.a.c5, .int .i64 y.b.c0, .int .i64 y.b.c1, .int .i64 y.b.c2, .int .i64 y.b.c3, .int .i64 y.b.c4, .int .i64 y.b.c5, .int .i64 y.w0, .int .i64 y.w1], .int .i64 frm, .agg #[.int .i64 l0, .int .i64 l1]] w fun e w' => e = .returned (.tuple #[.int .i64 s.l.length, .bool true]) ∧ ∃ v1' v2' v3', Spc B w' S M v1' v2' v3' ⟨s.l ++ [y], s.pr ++ [(frm, i)]⟩ J ∧ Off (SOwn S M v1 v2 v3) w w' ∧ ∀ g, SOwn S M v1' v2' v3' g → SOwn S M v1 v2 v3 g ∨ w.heap.size ≤ g := by
  obtain ⟨a0_, ai, az0, az1, az2⟩ := info_parts stateInfo
  obtain ⟨b0_, bi, bz0, bz1, bz2⟩ := info_parts intInfo1
  obtain ⟨c0_, ci, cz0, cz1, cz2⟩ := info_parts twoInfo
  have HN := Lib.hid hn
  have HIN := Lib.hid hin
  have HP := Lib.hid hp
  have H0 := Lib.hid h0
  have H1 := Lib.hid h1
  clear hn hin hp h0 h1
  have hg : ((s.l.length : Int) == 300) = false := by simp; omega
  obtain ⟨a1, cc1, hv1, hcc1⟩ := own_sliceC h.r1
  have hM : Mid (SOwn S M v1 v2 v3) w B ((w.alloc (.cells #[.int .i64 y.a.c0, .int .i64 y.a.c1, .int .i64 y.a.c2, .int .i64 y.a.c3, .int .i64 y.a.c4, .int .i64 y.a.c5, .int .i64 y.b.c0, .int .i64 y.b.c1, .int .i64 y.b.c2, .int .i64 y.b.c3, .int .i64 y.b.c4, .int .i64 y.b.c5, .int .i64 y.w0, .int .i64 y.w1] 44)).alloc (.cells #[.int .i64 l0, .int .i64 l1] 30)) S M v1 v2 v3 v1 v2 v3 s.l s.l.length s.l.length s.l.length (cellsC 14 s.l.length (stF s)) (cellsOf s.l.length (frF s)) (cellsC 2 s.l.length (byF J s)) := (Mid.alloc h _).alloc _
  have hX : Side ((w.alloc (.cells #[.int .i64 y.a.c0, .int .i64 y.a.c1, .int .i64 y.a.c2, .int .i64 y.a.c3, .int .i64 y.a.c4, .int .i64 y.a.c5, .int .i64 y.b.c0, .int .i64 y.b.c1, .int .i64 y.b.c2, .int .i64 y.b.c3, .int .i64 y.b.c4, .int .i64 y.b.c5, .int .i64 y.w0, .int .i64 y.w1] 44)).alloc (.cells #[.int .i64 l0, .int .i64 l1] 30)) w.heap.size 44 #[.int .i64 y.a.c0, .int .i64 y.a.c1, .int .i64 y.a.c2, .int .i64 y.a.c3, .int .i64 y.a.c4, .int .i64 y.a.c5, .int .i64 y.b.c0, .int .i64 y.b.c1, .int .i64 y.b.c2, .int .i64 y.b.c3, .int .i64 y.b.c4, .int .i64 y.b.c5, .int .i64 y.w0, .int .i64 y.w1] v1 v2 v3 := (Mid.side h _ _).alloc _
  have hX2 : Side ((w.alloc (.cells #[.int .i64 y.a.c0, .int .i64 y.a.c1, .int .i64 y.a.c2, .int .i64 y.a.c3, .int .i64 y.a.c4, .int .i64 y.a.c5, .int .i64 y.b.c0, .int .i64 y.b.c1, .int .i64 y.b.c2, .int .i64 y.b.c3, .int .i64 y.b.c4, .int .i64 y.b.c5, .int .i64 y.w0, .int .i64 y.w1] 44)).alloc (.cells #[.int .i64 l0, .int .i64 l1] 30)) (w.alloc (.cells #[.int .i64 y.a.c0, .int .i64 y.a.c1, .int .i64 y.a.c2, .int .i64 y.a.c3, .int .i64 y.a.c4, .int .i64 y.a.c5, .int .i64 y.b.c0, .int .i64 y.b.c1, .int .i64 y.b.c2, .int .i64 y.b.c3, .int .i64 y.b.c4, .int .i64 y.b.c5, .int .i64 y.w0, .int .i64 y.w1] 44)).heap.size 30 #[.int .i64 l0, .int .i64 l1] v1 v2 v3 := Mid.side (Mid.alloc h _) _ _
  rw [World.size_alloc] at hX2
  have hmore : More w ((w.alloc (.cells #[.int .i64 y.a.c0, .int .i64 y.a.c1, .int .i64 y.a.c2, .int .i64 y.a.c3, .int .i64 y.a.c4, .int .i64 y.a.c5, .int .i64 y.b.c0, .int .i64 y.b.c1, .int .i64 y.b.c2, .int .i64 y.b.c3, .int .i64 y.b.c4, .int .i64 y.b.c5, .int .i64 y.w0, .int .i64 y.w1] 44)).alloc (.cells #[.int .i64 l0, .int .i64 l1] 30)) := (by repeat (first | (with_reducible assumption) | (with_reducible exact More.refl _) | (with_reducible refine More.alloc ?_ _) | (with_reducible refine More.more ?_ _ _) | (with_reducible refine More.drewN ?_ _) | (with_reducible refine More.drew ?_)))
  go_enter Tryz.func90, Tryz.ntmps90
  go_wp2_with fail
  generalize ((w.alloc (.cells #[.int .i64 y.a.c0, .int .i64 y.a.c1, .int .i64 y.a.c2, .int .i64 y.a.c3, .int .i64 y.a.c4, .int .i64 y.a.c5, .int .i64 y.b.c0, .int .i64 y.b.c1, .int .i64 y.b.c2, .int .i64 y.b.c3, .int .i64 y.b.c4, .int .i64 y.b.c5, .int .i64 y.w0, .int .i64 y.w1] 44)).alloc (.cells #[.int .i64 l0, .int .i64 l1] 30)) = w2 at *
  have hl2 := hX2.blk.lt
  have hl1 := hX.blk.lt
  have hlS := hM.blk.lt
  generalize w.heap.size + 1 = G7 at *
  generalize w.heap.size = G5 at *
  have c0 : w2.cell? ⟨S, 0, none⟩ = some (.map (some M)) := hM.blk.cell 0
  have y0 : w2.cell? ⟨G5, 0, none⟩ = some (.int .i64 y.a.c0) := hX.blk.cell 0
  have y1 : w2.cell? ⟨G5, 1, none⟩ = some (.int .i64 y.a.c1) := hX.blk.cell 1
  have y2 : w2.cell? ⟨G5, 2, none⟩ = some (.int .i64 y.a.c2) := hX.blk.cell 2
  have y3 : w2.cell? ⟨G5, 3, none⟩ = some (.int .i64 y.a.c3) := hX.blk.cell 3
  have y4 : w2.cell? ⟨G5, 4, none⟩ = some (.int .i64 y.a.c4) := hX.blk.cell 4
  have y5 : w2.cell? ⟨G5, 5, none⟩ = some (.int .i64 y.a.c5) := hX.blk.cell 5
  have y6 : w2.cell? ⟨G5, 6, none⟩ = some (.int .i64 y.b.c0) := hX.blk.cell 6
  have y7 : w2.cell? ⟨G5, 7, none⟩ = some (.int .i64 y.b.c1) := hX.blk.cell 7
  have y8 : w2.cell? ⟨G5, 8, none⟩ = some (.int .i64 y.b.c2) := hX.blk.cell 8
  have y9 : w2.cell? ⟨G5, 9, none⟩ = some (.int .i64 y.b.c3) := hX.blk.cell 9
  have y10 : w2.cell? ⟨G5, 10, none⟩ = some (.int .i64 y.b.c4) := hX.blk.cell 10
  have y11 : w2.cell? ⟨G5, 11, none⟩ = some (.int .i64 y.b.c5) := hX.blk.cell 11
  have y12 : w2.cell? ⟨G5, 12, none⟩ = some (.int .i64 y.w0) := hX.blk.cell 12
  have y13 : w2.cell? ⟨G5, 13, none⟩ = some (.int .i64 y.w1) := hX.blk.cell 13
  have c1 : w2.cell? ⟨S, 1, none⟩ = some (.slice a1 s.l.length cc1) := by rw [← hv1]; exact hM.blk.cell 1
  have HV := Lib.hid hv1
  clear hv1
  have hlook : ∀ k, (Instr.lookup 118 (.map (some M)) (.agg #[.int .i64 y.a.c0, .int .i64 y.a.c1, .int .i64 y.a.c2, .int .i64 y.a.c3, .int .i64 y.a.c4, .int .i64 y.a.c5, .int .i64 y.b.c0, .int .i64 y.b.c1, .int .i64 y.b.c2, .int .i64 y.b.c3, .int .i64 y.b.c4, .int .i64 y.b.c5, .int .i64 y.w0, .int .i64 y.w1]) true).run Tryz.prog (w2.drewN k) = .ok (.tuple #[.int .i64 0, .bool false]) (w2.drewN k) := fun k => SMap.miss (w := w2.drewN k) hM.map hy HN.out
  have hlook0 : (Instr.lookup 118 (.map (some M)) (.agg #[.int .i64 y.a.c0, .int .i64 y.a.c1, .int .i64 y.a.c2, .int .i64 y.a.c3, .int .i64 y.a.c4, .int .i64 y.a.c5, .int .i64 y.b.c0, .int .i64 y.b.c1, .int .i64 y.b.c2, .int .i64 y.b.c3, .int .i64 y.b.c4, .int .i64 y.b.c5, .int .i64 y.w0, .int .i64 y.w1]) true).run Tryz.prog w2 = .ok (.tuple #[.int .i64 0, .bool false]) w2 := hlook 0
  go_quiet (fail)
  clear hlook hlook0
  go_wp2_with fail
  have hM' : Mid (SOwn S M v1 v2 v3) w B (w2.drewN nq).drew S M v1 v2 v3 v1 v2 v3 s.l s.l.length s.l.length s.l.length (cellsC 14 s.l.length (stF s)) (cellsOf s.l.length (frF s)) (cellsC 2 s.l.length (byF J s)) := (hM.drewN nq).drew
  have hX' : Side (w2.drewN nq).drew G5 44 #[.int .i64 y.a.c0, .int .i64 y.a.c1, .int .i64 y.a.c2, .int .i64 y.a.c3, .int .i64 y.a.c4, .int .i64 y.a.c5, .int .i64 y.b.c0, .int .i64 y.b.c1, .int .i64 y.b.c2, .int .i64 y.b.c3, .int .i64 y.b.c4, .int .i64 y.b.c5, .int .i64 y.w0, .int .i64 y.w1] v1 v2 v3 := (hX.drewN nq).drew
  have hX2' : Side (w2.drewN nq).drew G7 30 #[.int .i64 l0, .int .i64 l1] v1 v2 v3 := (hX2.drewN nq).drew
  have hgl : G5 < (w2.drewN nq).drew.heap.size ∧ G7 < (w2.drewN nq).drew.heap.size ∧ S < (w2.drewN nq).drew.heap.size := ⟨hl1, hl2, hlS⟩
  clear hM hX hX2 c0 c1 y0 y1 y2 y3 y4 y5 y6 y7 y8 y9 y10 y11 y12 y13 hl1 hl2 hlS
  refine wp_region_held_drew (S := (fun w' => Blk w' S 121 #[.map (some M), v1, v2, v3] ∧ Blk w' G5 44 #[.int .i64 y.a.c0, .int .i64 y.a.c1, .int .i64 y.a.c2, .int .i64 y.a.c3, .int .i64 y.a.c4, .int .i64 y.a.c5, .int .i64 y.b.c0, .int .i64 y.b.c1, .int .i64 y.b.c2, .int .i64 y.b.c3, .int .i64 y.b.c4, .int .i64 y.b.c5, .int .i64 y.w0, .int .i64 y.w1])) (by kernel_rfl) ?_ (fun hHeld => ?_)
  · exact ⟨hM'.blk, hX'.blk⟩
  generalize (w2.drewN nq).drew = w2' at *
  obtain ⟨w3, hup, hm3, hg3⟩ := hM'.map.put y HIN.out hy HN.out (by omega)
  refine tk 0 ?_ rfl ⟨by rfl, ?_⟩ ?_
  rotate_left 1
  · intro w' hSw
    obtain ⟨hs1, hs2⟩ := hSw
    have f0 := hs1.cell 0
    have f1 := hs1.cell 1
    simp at f0 f1
    rw [HV.out] at f1
    have z0 := hs2.cell 0
    have z1 := hs2.cell 1
    have z2 := hs2.cell 2
    have z3 := hs2.cell 3
    have z4 := hs2.cell 4
    have z5 := hs2.cell 5
    have z6 := hs2.cell 6
    have z7 := hs2.cell 7
    have z8 := hs2.cell 8
    have z9 := hs2.cell 9
    have z10 := hs2.cell 10
    have z11 := hs2.cell 11
    have z12 := hs2.cell 12
    have z13 := hs2.cell 13
    simp at z0 z1 z2 z3 z4 z5 z6 z7 z8 z9 z10 z11 z12 z13
    clear hs1 hs2
    go_simp
    try (with_reducible rfl)
  try simp only [lay]
  refine tk 1 ?_ rfl ⟨by rfl, ?_⟩ ?_
  rotate_left 1
  · intro w' hSw
    obtain ⟨hs1, hs2⟩ := hSw
    have f0 := hs1.cell 0
    have f1 := hs1.cell 1
    simp at f0 f1
    rw [HV.out] at f1
    have z0 := hs2.cell 0
    have z1 := hs2.cell 1
    have z2 := hs2.cell 2
    have z3 := hs2.cell 3
    have z4 := hs2.cell 4
    have z5 := hs2.cell 5
    have z6 := hs2.cell 6
    have z7 := hs2.cell 7
    have z8 := hs2.cell 8
    have z9 := hs2.cell 9
    have z10 := hs2.cell 10
    have z11 := hs2.cell 11
    have z12 := hs2.cell 12
    have z13 := hs2.cell 13
    simp at z0 z1 z2 z3 z4 z5 z6 z7 z8 z9 z10 z11 z12 z13
    clear hs1 hs2
    go_simp
    try (with_reducible rfl)
  try simp only [lay]
  refine tk 2 ?_ rfl ⟨by rfl, ?_⟩ ?_
  rotate_left 1
  · intro w' hSw
    obtain ⟨hs1, hs2⟩ := hSw
    have f0 := hs1.cell 0
    have f1 := hs1.cell 1
    simp at f0 f1
    rw [HV.out] at f1
    have z0 := hs2.cell 0
    have z1 := hs2.cell 1
    have z2 := hs2.cell 2
    have z3 := hs2.cell 3
    have z4 := hs2.cell 4
    have z5 := hs2.cell 5
    have z6 := hs2.cell 6
    have z7 := hs2.cell 7
    have z8 := hs2.cell 8
    have z9 := hs2.cell 9
    have z10 := hs2.cell 10
    have z11 := hs2.cell 11
    have z12 := hs2.cell 12
    have z13 := hs2.cell 13
    simp at z0 z1 z2 z3 z4 z5 z6 z7 z8 z9 z10 z11 z12 z13
    clear hs1 hs2
    go_simp
    try (with_reducible rfl)
  try simp only [lay]
  refine tk 3 ?_ rfl ⟨by rfl, ?_⟩ ?_
  rotate_left 1
  · intro w' hSw
    obtain ⟨hs1, hs2⟩ := hSw
    have f0 := hs1.cell 0
    have f1 := hs1.cell 1
    simp at f0 f1
    rw [HV.out] at f1
    have z0 := hs2.cell 0
    have z1 := hs2.cell 1
    have z2 := hs2.cell 2
    have z3 := hs2.cell 3
    have z4 := hs2.cell 4
    have z5 := hs2.cell 5
    have z6 := hs2.cell 6
    have z7 := hs2.cell 7
    have z8 := hs2.cell 8
    have z9 := hs2.cell 9
    have z10 := hs2.cell 10
    have z11 := hs2.cell 11
    have z12 := hs2.cell 12
    have z13 := hs2.cell 13
    simp at z0 z1 z2 z3 z4 z5 z6 z7 z8 z9 z10 z11 z12 z13
    clear hs1 hs2
    go_simp
    try (with_reducible rfl)
  try simp only [lay]
  refine tk 4 ?_ rfl ⟨by rfl, ?_⟩ ?_
  rotate_left 1
  · intro w' hSw
    obtain ⟨hs1, hs2⟩ := hSw
    have f0 := hs1.cell 0
    have f1 := hs1.cell 1
    simp at f0 f1
    rw [HV.out] at f1
    have z0 := hs2.cell 0
    have z1 := hs2.cell 1
    have z2 := hs2.cell 2
    have z3 := hs2.cell 3
    have z4 := hs2.cell 4
    have z5 := hs2.cell 5
    have z6 := hs2.cell 6
    have z7 := hs2.cell 7
    have z8 := hs2.cell 8
    have z9 := hs2.cell 9
    have z10 := hs2.cell 10
    have z11 := hs2.cell 11
    have z12 := hs2.cell 12
    have z13 := hs2.cell 13
    simp at z0 z1 z2 z3 z4 z5 z6 z7 z8 z9 z10 z11 z12 z13
    clear hs1 hs2
    go_simp
    try (with_reducible rfl)
  try simp only [lay]
  refine tk 5 ?_ rfl ⟨by rfl, ?_⟩ ?_
  rotate_left 1
  · intro w' hSw
    obtain ⟨hs1, hs2⟩ := hSw
    have f0 := hs1.cell 0
    have f1 := hs1.cell 1
    simp at f0 f1
    rw [HV.out] at f1
    have z0 := hs2.cell 0
    have z1 := hs2.cell 1
    have z2 := hs2.cell 2
    have z3 := hs2.cell 3
    have z4 := hs2.cell 4
    have z5 := hs2.cell 5
    have z6 := hs2.cell 6
    have z7 := hs2.cell 7
    have z8 := hs2.cell 8
    have z9 := hs2.cell 9
    have z10 := hs2.cell 10
    have z11 := hs2.cell 11
    have z12 := hs2.cell 12
    have z13 := hs2.cell 13
    simp at z0 z1 z2 z3 z4 z5 z6 z7 z8 z9 z10 z11 z12 z13
    clear hs1 hs2
    go_simp
    try (with_reducible rfl)
  try simp only [lay]
  refine tk 6 ?_ rfl ⟨by rfl, ?_⟩ ?_
  rotate_left 1
  · intro w' hSw
    obtain ⟨hs1, hs2⟩ := hSw
    have f0 := hs1.cell 0
    have f1 := hs1.cell 1
    simp at f0 f1
    rw [HV.out] at f1
    have z0 := hs2.cell 0
    have z1 := hs2.cell 1
    have z2 := hs2.cell 2
    have z3 := hs2.cell 3
    have z4 := hs2.cell 4
    have z5 := hs2.cell 5
    have z6 := hs2.cell 6
    have z7 := hs2.cell 7
    have z8 := hs2.cell 8
    have z9 := hs2.cell 9
    have z10 := hs2.cell 10
    have z11 := hs2.cell 11
    have z12 := hs2.cell 12
    have z13 := hs2.cell 13
    simp at z0 z1 z2 z3 z4 z5 z6 z7 z8 z9 z10 z11 z12 z13
    clear hs1 hs2
    go_simp
    try (with_reducible rfl)
  try simp only [lay]
  refine tk 7 ?_ rfl ⟨by rfl, ?_⟩ ?_
  rotate_left 1
  · intro w' hSw
    obtain ⟨hs1, hs2⟩ := hSw
    have f0 := hs1.cell 0
    have f1 := hs1.cell 1
    simp at f0 f1
    rw [HV.out] at f1
    have z0 := hs2.cell 0
    have z1 := hs2.cell 1
    have z2 := hs2.cell 2
    have z3 := hs2.cell 3
    have z4 := hs2.cell 4
    have z5 := hs2.cell 5
    have z6 := hs2.cell 6
    have z7 := hs2.cell 7
    have z8 := hs2.cell 8
    have z9 := hs2.cell 9
    have z10 := hs2.cell 10
    have z11 := hs2.cell 11
    have z12 := hs2.cell 12
    have z13 := hs2.cell 13
    simp at z0 z1 z2 z3 z4 z5 z6 z7 z8 z9 z10 z11 z12 z13
    clear hs1 hs2
    go_simp
    try (with_reducible rfl)
  try simp only [lay]
  refine tk 8 ?_ rfl ⟨by rfl, ?_⟩ ?_
  rotate_left 1
  · intro w' hSw
    obtain ⟨hs1, hs2⟩ := hSw
    have f0 := hs1.cell 0
    have f1 := hs1.cell 1
    simp at f0 f1
    rw [HV.out] at f1
    have z0 := hs2.cell 0
    have z1 := hs2.cell 1
    have z2 := hs2.cell 2
    have z3 := hs2.cell 3
    have z4 := hs2.cell 4
    have z5 := hs2.cell 5
    have z6 := hs2.cell 6
    have z7 := hs2.cell 7
    have z8 := hs2.cell 8
    have z9 := hs2.cell 9
    have z10 := hs2.cell 10
    have z11 := hs2.cell 11
    have z12 := hs2.cell 12
    have z13 := hs2.cell 13
    simp at z0 z1 z2 z3 z4 z5 z6 z7 z8 z9 z10 z11 z12 z13
    clear hs1 hs2
    go_simp
    try (with_reducible rfl)
  try simp only [lay]
  refine tk 9 ?_ rfl ⟨by rfl, ?_⟩ ?_
  rotate_left 1
  · intro w' hSw
    obtain ⟨hs1, hs2⟩ := hSw
    have f0 := hs1.cell 0
    have f1 := hs1.cell 1
    simp at f0 f1
    rw [HV.out] at f1
    have z0 := hs2.cell 0
    have z1 := hs2.cell 1
    have z2 := hs2.cell 2
    have z3 := hs2.cell 3
    have z4 := hs2.cell 4
    have z5 := hs2.cell 5
    have z6 := hs2.cell 6
    have z7 := hs2.cell 7
    have z8 := hs2.cell 8
    have z9 := hs2.cell 9
    have z10 := hs2.cell 10
    have z11 := hs2.cell 11
    have z12 := hs2.cell 12
    have z13 := hs2.cell 13
    simp at z0 z1 z2 z3 z4 z5 z6 z7 z8 z9 z10 z11 z12 z13
    clear hs1 hs2
    go_simp
    try (with_reducible rfl)
  try simp only [lay]
  refine wpAnyH_ready (rs := [10]) (by kernel_rfl) (by simp) ?_
  refine AllReadyH.cons rfl (fun K hK => ?_) AllReadyH.nil
  go_simp
  refine hK.out _ _ ?_ (fun hHeld => ?_)
  · exact ⟨(hM'.put hm3 hg3).blk, (hX'.put hM'.map hg3).blk⟩
  clear hK K
  try simp only [lay]
  clear hup
  refine wpAnyH_done (by kernel_rfl) ?_ _

  have hM3 := hM'.put hm3 hg3
  have hX3 := hX'.put hM'.map hg3
  have hX23 := hX2'.put hM'.map hg3
  clear hM' hX' hX2' hm3 hg3 hgl
  go_wp2_with fail
  refine wp_region_two (S := (fun w' => Blk w' S 121 #[.map (some M), v1, v2, v3] ∧ Blk w' G5 44 #[.int .i64 y.a.c0, .int .i64 y.a.c1, .int .i64 y.a.c2, .int .i64 y.a.c3, .int .i64 y.a.c4, .int .i64 y.a.c5, .int .i64 y.b.c0, .int .i64 y.b.c1, .int .i64 y.b.c2, .int .i64 y.b.c3, .int .i64 y.b.c4, .int .i64 y.b.c5, .int .i64 y.w0, .int .i64 y.w1] ∧ Blk w' G7 30 #[.int .i64 l0, .int .i64 l1])) 26 (by kernel_rfl) ?_ (fun hHeld => ?_)
  · exact ⟨hM3.blk, hX3.blk, hX23.blk⟩
  have hM := hM3.drew
  have hX := hX3.drew
  have hX2 := hX23.drew
  clear hM3 hX3 hX23
  generalize w3.drew = w4 at *
  refine t2 0 ?_ rfl ⟨by rfl, ?_⟩ ?_
  rotate_left 1
  · intro w' hSw
    obtain ⟨hs1, hs2, hs3⟩ := hSw
    have f1 := hs1.cell 1
    have f2 := hs1.cell 2
    have f3 := hs1.cell 3
    simp at f1 f2 f3
    have z0 := hs2.cell 0
    have z1 := hs2.cell 1
    have z2 := hs2.cell 2
    have z3 := hs2.cell 3
    have z4 := hs2.cell 4
    have z5 := hs2.cell 5
    have z6 := hs2.cell 6
    have z7 := hs2.cell 7
    have z8 := hs2.cell 8
    have z9 := hs2.cell 9
    have z10 := hs2.cell 10
    have z11 := hs2.cell 11
    have z12 := hs2.cell 12
    have z13 := hs2.cell 13
    have k0 := hs3.cell 0
    have k1 := hs3.cell 1
    simp at z0 z1 z2 z3 z4 z5 z6 z7 z8 z9 z10 z11 z12 z13 k0 k1
    clear hs1 hs2 hs3
    go_simp
    try (with_reducible rfl)
  try simp only [lay]
  refine p20 1 rfl ?_; try simp only [lay]
  refine p20 2 rfl ?_; try simp only [lay]
  refine t2 3 ?_ rfl ⟨by rfl, ?_⟩ ?_
  rotate_left 1
  · intro w' hSw
    obtain ⟨hs1, hs2, hs3⟩ := hSw
    have f1 := hs1.cell 1
    have f2 := hs1.cell 2
    have f3 := hs1.cell 3
    simp at f1 f2 f3
    have z0 := hs2.cell 0
    have z1 := hs2.cell 1
    have z2 := hs2.cell 2
    have z3 := hs2.cell 3
    have z4 := hs2.cell 4
    have z5 := hs2.cell 5
    have z6 := hs2.cell 6
    have z7 := hs2.cell 7
    have z8 := hs2.cell 8
    have z9 := hs2.cell 9
    have z10 := hs2.cell 10
    have z11 := hs2.cell 11
    have z12 := hs2.cell 12
    have z13 := hs2.cell 13
    have k0 := hs3.cell 0
    have k1 := hs3.cell 1
    simp at z0 z1 z2 z3 z4 z5 z6 z7 z8 z9 z10 z11 z12 z13 k0 k1
    clear hs1 hs2 hs3
    go_simp
    try (with_reducible rfl)
  try simp only [lay]
  refine t2 4 ?_ rfl ⟨by rfl, ?_⟩ ?_
  rotate_left 1
  · intro w' hSw
    obtain ⟨hs1, hs2, hs3⟩ := hSw
    have f1 := hs1.cell 1
    have f2 := hs1.cell 2
    have f3 := hs1.cell 3
    simp at f1 f2 f3
    have z0 := hs2.cell 0
    have z1 := hs2.cell 1
    have z2 := hs2.cell 2
    have z3 := hs2.cell 3
    have z4 := hs2.cell 4
    have z5 := hs2.cell 5
    have z6 := hs2.cell 6
    have z7 := hs2.cell 7
    have z8 := hs2.cell 8
    have z9 := hs2.cell 9
    have z10 := hs2.cell 10
    have z11 := hs2.cell 11
    have z12 := hs2.cell 12
    have z13 := hs2.cell 13
    have k0 := hs3.cell 0
    have k1 := hs3.cell 1
    simp at z0 z1 z2 z3 z4 z5 z6 z7 z8 z9 z10 z11 z12 z13 k0 k1
    clear hs1 hs2 hs3
    go_simp
    try (with_reducible rfl)
  try simp only [lay]
  refine t2 5 ?_ rfl ⟨by rfl, ?_⟩ ?_
  rotate_left 1
  · intro w' hSw
    obtain ⟨hs1, hs2, hs3⟩ := hSw
    have f1 := hs1.cell 1
    have f2 := hs1.cell 2
    have f3 := hs1.cell 3
    simp at f1 f2 f3
    have z0 := hs2.cell 0
    have z1 := hs2.cell 1
    have z2 := hs2.cell 2
    have z3 := hs2.cell 3
    have z4 := hs2.cell 4
    have z5 := hs2.cell 5
    have z6 := hs2.cell 6
    have z7 := hs2.cell 7
    have z8 := hs2.cell 8
    have z9 := hs2.cell 9
    have z10 := hs2.cell 10
    have z11 := hs2.cell 11
    have z12 := hs2.cell 12
    have z13 := hs2.cell 13
    have k0 := hs3.cell 0
    have k1 := hs3.cell 1
    simp at z0 z1 z2 z3 z4 z5 z6 z7 z8 z9 z10 z11 z12 z13 k0 k1
    clear hs1 hs2 hs3
    go_simp
    try (with_reducible rfl)
  try simp only [lay]
  refine t2 6 ?_ rfl ⟨by rfl, ?_⟩ ?_
  rotate_left 1
  · intro w' hSw
    obtain ⟨hs1, hs2, hs3⟩ := hSw
    have f1 := hs1.cell 1
    have f2 := hs1.cell 2
    have f3 := hs1.cell 3
    simp at f1 f2 f3
    have z0 := hs2.cell 0
    have z1 := hs2.cell 1
    have z2 := hs2.cell 2
    have z3 := hs2.cell 3
    have z4 := hs2.cell 4
    have z5 := hs2.cell 5
    have z6 := hs2.cell 6
    have z7 := hs2.cell 7
    have z8 := hs2.cell 8
    have z9 := hs2.cell 9
    have z10 := hs2.cell 10
    have z11 := hs2.cell 11
    have z12 := hs2.cell 12
    have z13 := hs2.cell 13
    have k0 := hs3.cell 0
    have k1 := hs3.cell 1
    simp at z0 z1 z2 z3 z4 z5 z6 z7 z8 z9 z10 z11 z12 z13 k0 k1
    clear hs1 hs2 hs3
    go_simp
    try (with_reducible rfl)
  try simp only [lay]
  refine t2 7 ?_ rfl ⟨by rfl, ?_⟩ ?_
  rotate_left 1
  · intro w' hSw
    obtain ⟨hs1, hs2, hs3⟩ := hSw
    have f1 := hs1.cell 1
    have f2 := hs1.cell 2
    have f3 := hs1.cell 3
    simp at f1 f2 f3
    have z0 := hs2.cell 0
    have z1 := hs2.cell 1
    have z2 := hs2.cell 2
    have z3 := hs2.cell 3
    have z4 := hs2.cell 4
    have z5 := hs2.cell 5
    have z6 := hs2.cell 6
    have z7 := hs2.cell 7
    have z8 := hs2.cell 8
    have z9 := hs2.cell 9
    have z10 := hs2.cell 10
    have z11 := hs2.cell 11
    have z12 := hs2.cell 12
    have z13 := hs2.cell 13
    have k0 := hs3.cell 0
    have k1 := hs3.cell 1
    simp at z0 z1 z2 z3 z4 z5 z6 z7 z8 z9 z10 z11 z12 z13 k0 k1
    clear hs1 hs2 hs3
    go_simp
    try (with_reducible rfl)
  try simp only [lay]
  refine t2 10 ?_ rfl ⟨by rfl, ?_⟩ ?_
  rotate_left 1
  · intro w' hSw
    obtain ⟨hs1, hs2, hs3⟩ := hSw
    have f1 := hs1.cell 1
    have f2 := hs1.cell 2
    have f3 := hs1.cell 3
    simp at f1 f2 f3
    have z0 := hs2.cell 0
    have z1 := hs2.cell 1
    have z2 := hs2.cell 2
    have z3 := hs2.cell 3
    have z4 := hs2.cell 4
    have z5 := hs2.cell 5
    have z6 := hs2.cell 6
    have z7 := hs2.cell 7
    have z8 := hs2.cell 8
    have z9 := hs2.cell 9
    have z10 := hs2.cell 10
    have z11 := hs2.cell 11
    have z12 := hs2.cell 12
    have z13 := hs2.cell 13
    have k0 := hs3.cell 0
    have k1 := hs3.cell 1
    simp at z0 z1 z2 z3 z4 z5 z6 z7 z8 z9 z10 z11 z12 z13 k0 k1
    clear hs1 hs2 hs3
    go_simp
    try (with_reducible rfl)
  try simp only [lay]
  refine t2 11 ?_ rfl ⟨by rfl, ?_⟩ ?_
  rotate_left 1
  · intro w' hSw
    obtain ⟨hs1, hs2, hs3⟩ := hSw
    have f1 := hs1.cell 1
    have f2 := hs1.cell 2
    have f3 := hs1.cell 3
    simp at f1 f2 f3
    have z0 := hs2.cell 0
    have z1 := hs2.cell 1
    have z2 := hs2.cell 2
    have z3 := hs2.cell 3
    have z4 := hs2.cell 4
    have z5 := hs2.cell 5
    have z6 := hs2.cell 6
    have z7 := hs2.cell 7
    have z8 := hs2.cell 8
    have z9 := hs2.cell 9
    have z10 := hs2.cell 10
    have z11 := hs2.cell 11
    have z12 := hs2.cell 12
    have z13 := hs2.cell 13
    have k0 := hs3.cell 0
    have k1 := hs3.cell 1
    simp at z0 z1 z2 z3 z4 z5 z6 z7 z8 z9 z10 z11 z12 z13 k0 k1
    clear hs1 hs2 hs3
    go_simp
    try (with_reducible rfl)
  try simp only [lay]
  refine t2 12 ?_ rfl ⟨by rfl, ?_⟩ ?_
  rotate_left 1
  · intro w' hSw
    obtain ⟨hs1, hs2, hs3⟩ := hSw
    have f1 := hs1.cell 1
    have f2 := hs1.cell 2
    have f3 := hs1.cell 3
    simp at f1 f2 f3
    have z0 := hs2.cell 0
    have z1 := hs2.cell 1
    have z2 := hs2.cell 2
    have z3 := hs2.cell 3
    have z4 := hs2.cell 4
    have z5 := hs2.cell 5
    have z6 := hs2.cell 6
    have z7 := hs2.cell 7
    have z8 := hs2.cell 8
    have z9 := hs2.cell 9
    have z10 := hs2.cell 10
    have z11 := hs2.cell 11
    have z12 := hs2.cell 12
    have z13 := hs2.cell 13
    have k0 := hs3.cell 0
    have k1 := hs3.cell 1
    simp at z0 z1 z2 z3 z4 z5 z6 z7 z8 z9 z10 z11 z12 z13 k0 k1
    clear hs1 hs2 hs3
    go_simp
    try (with_reducible rfl)
  try simp only [lay]
  refine t2 13 ?_ rfl ⟨by rfl, ?_⟩ ?_
  rotate_left 1
  · intro w' hSw
    obtain ⟨hs1, hs2, hs3⟩ := hSw
    have f1 := hs1.cell 1
    have f2 := hs1.cell 2
    have f3 := hs1.cell 3
    simp at f1 f2 f3
    have z0 := hs2.cell 0
    have z1 := hs2.cell 1
    have z2 := hs2.cell 2
    have z3 := hs2.cell 3
    have z4 := hs2.cell 4
    have z5 := hs2.cell 5
    have z6 := hs2.cell 6
    have z7 := hs2.cell 7
    have z8 := hs2.cell 8
    have z9 := hs2.cell 9
    have z10 := hs2.cell 10
    have z11 := hs2.cell 11
    have z12 := hs2.cell 12
    have z13 := hs2.cell 13
    have k0 := hs3.cell 0
    have k1 := hs3.cell 1
    simp at z0 z1 z2 z3 z4 z5 z6 z7 z8 z9 z10 z11 z12 z13 k0 k1
    clear hs1 hs2 hs3
    go_simp
    try (with_reducible rfl)
  try simp only [lay]
  refine t2 14 ?_ rfl ⟨by rfl, ?_⟩ ?_
  rotate_left 1
  · intro w' hSw
    obtain ⟨hs1, hs2, hs3⟩ := hSw
    have f1 := hs1.cell 1
    have f2 := hs1.cell 2
    have f3 := hs1.cell 3
    simp at f1 f2 f3
    have z0 := hs2.cell 0
    have z1 := hs2.cell 1
    have z2 := hs2.cell 2
    have z3 := hs2.cell 3
    have z4 := hs2.cell 4
    have z5 := hs2.cell 5
    have z6 := hs2.cell 6
    have z7 := hs2.cell 7
    have z8 := hs2.cell 8
    have z9 := hs2.cell 9
    have z10 := hs2.cell 10
    have z11 := hs2.cell 11
    have z12 := hs2.cell 12
    have z13 := hs2.cell 13
    have k0 := hs3.cell 0
    have k1 := hs3.cell 1
    simp at z0 z1 z2 z3 z4 z5 z6 z7 z8 z9 z10 z11 z12 z13 k0 k1
    clear hs1 hs2 hs3
    go_simp
    try (with_reducible rfl)
  try simp only [lay]
  refine t2 17 ?_ rfl ⟨by rfl, ?_⟩ ?_
  rotate_left 1
  · intro w' hSw
    obtain ⟨hs1, hs2, hs3⟩ := hSw
    have f1 := hs1.cell 1
    have f2 := hs1.cell 2
    have f3 := hs1.cell 3
    simp at f1 f2 f3
    have z0 := hs2.cell 0
    have z1 := hs2.cell 1
    have z2 := hs2.cell 2
    have z3 := hs2.cell 3
    have z4 := hs2.cell 4
    have z5 := hs2.cell 5
    have z6 := hs2.cell 6
    have z7 := hs2.cell 7
    have z8 := hs2.cell 8
    have z9 := hs2.cell 9
    have z10 := hs2.cell 10
    have z11 := hs2.cell 11
    have z12 := hs2.cell 12
    have z13 := hs2.cell 13
    have k0 := hs3.cell 0
    have k1 := hs3.cell 1
    simp at z0 z1 z2 z3 z4 z5 z6 z7 z8 z9 z10 z11 z12 z13 k0 k1
    clear hs1 hs2 hs3
    go_simp
    try (with_reducible rfl)
  try simp only [lay]
  refine t2 18 ?_ rfl ⟨by rfl, ?_⟩ ?_
  rotate_left 1
  · intro w' hSw
    obtain ⟨hs1, hs2, hs3⟩ := hSw
    have f1 := hs1.cell 1
    have f2 := hs1.cell 2
    have f3 := hs1.cell 3
    simp at f1 f2 f3
    have z0 := hs2.cell 0
    have z1 := hs2.cell 1
    have z2 := hs2.cell 2
    have z3 := hs2.cell 3
    have z4 := hs2.cell 4
    have z5 := hs2.cell 5
    have z6 := hs2.cell 6
    have z7 := hs2.cell 7
    have z8 := hs2.cell 8
    have z9 := hs2.cell 9
    have z10 := hs2.cell 10
    have z11 := hs2.cell 11
    have z12 := hs2.cell 12
    have z13 := hs2.cell 13
    have k0 := hs3.cell 0
    have k1 := hs3.cell 1
    simp at z0 z1 z2 z3 z4 z5 z6 z7 z8 z9 z10 z11 z12 z13 k0 k1
    clear hs1 hs2 hs3
    go_simp
    try (with_reducible rfl)
  try simp only [lay]
  refine t2 19 ?_ rfl ⟨by rfl, ?_⟩ ?_
  rotate_left 1
  · intro w' hSw
    obtain ⟨hs1, hs2, hs3⟩ := hSw
    have f1 := hs1.cell 1
    have f2 := hs1.cell 2
    have f3 := hs1.cell 3
    simp at f1 f2 f3
    have z0 := hs2.cell 0
    have z1 := hs2.cell 1
    have z2 := hs2.cell 2
    have z3 := hs2.cell 3
    have z4 := hs2.cell 4
    have z5 := hs2.cell 5
    have z6 := hs2.cell 6
    have z7 := hs2.cell 7
    have z8 := hs2.cell 8
    have z9 := hs2.cell 9
    have z10 := hs2.cell 10
    have z11 := hs2.cell 11
    have z12 := hs2.cell 12
    have z13 := hs2.cell 13
    have k0 := hs3.cell 0
    have k1 := hs3.cell 1
    simp at z0 z1 z2 z3 z4 z5 z6 z7 z8 z9 z10 z11 z12 z13 k0 k1
    clear hs1 hs2 hs3
    go_simp
    try (with_reducible rfl)
  try simp only [lay]
  refine t2 20 ?_ rfl ⟨by rfl, ?_⟩ ?_
  rotate_left 1
  · intro w' hSw
    obtain ⟨hs1, hs2, hs3⟩ := hSw
    have f1 := hs1.cell 1
    have f2 := hs1.cell 2
    have f3 := hs1.cell 3
    simp at f1 f2 f3
    have z0 := hs2.cell 0
    have z1 := hs2.cell 1
    have z2 := hs2.cell 2
    have z3 := hs2.cell 3
    have z4 := hs2.cell 4
    have z5 := hs2.cell 5
    have z6 := hs2.cell 6
    have z7 := hs2.cell 7
    have z8 := hs2.cell 8
    have z9 := hs2.cell 9
    have z10 := hs2.cell 10
    have z11 := hs2.cell 11
    have z12 := hs2.cell 12
    have z13 := hs2.cell 13
    have k0 := hs3.cell 0
    have k1 := hs3.cell 1
    simp at z0 z1 z2 z3 z4 z5 z6 z7 z8 z9 z10 z11 z12 z13 k0 k1
    clear hs1 hs2 hs3
    go_simp
    try (with_reducible rfl)
  try simp only [lay]
  refine t2 21 ?_ rfl ⟨by rfl, ?_⟩ ?_
  rotate_left 1
  · intro w' hSw
    obtain ⟨hs1, hs2, hs3⟩ := hSw
    have f1 := hs1.cell 1
    have f2 := hs1.cell 2
    have f3 := hs1.cell 3
    simp at f1 f2 f3
    have z0 := hs2.cell 0
    have z1 := hs2.cell 1
    have z2 := hs2.cell 2
    have z3 := hs2.cell 3
    have z4 := hs2.cell 4
    have z5 := hs2.cell 5
    have z6 := hs2.cell 6
    have z7 := hs2.cell 7
    have z8 := hs2.cell 8
    have z9 := hs2.cell 9
    have z10 := hs2.cell 10
    have z11 := hs2.cell 11
    have z12 := hs2.cell 12
    have z13 := hs2.cell 13
    have k0 := hs3.cell 0
    have k1 := hs3.cell 1
    simp at z0 z1 z2 z3 z4 z5 z6 z7 z8 z9 z10 z11 z12 z13 k0 k1
    clear hs1 hs2 hs3
    go_simp
    try (with_reducible rfl)
  try simp only [lay]
  refine two_ready (rs := [8, 15, 22]) (by kernel_rfl) (by kernel_rfl) (by simp) ?_
  refine AllReadyB.cons rfl (fun K hK => ?_) (AllReadyB.cons rfl (fun K hK => ?_) (AllReadyB.cons rfl (fun K hK => ?_) AllReadyB.nil))
  ·
    go_simp
    have hM' := hM.alloc (.cells #[.int .i64 y.a.c0, .int .i64 y.a.c1, .int .i64 y.a.c2, .int .i64 y.a.c3, .int .i64 y.a.c4, .int .i64 y.a.c5, .int .i64 y.b.c0, .int .i64 y.b.c1, .int .i64 y.b.c2, .int .i64 y.b.c3, .int .i64 y.b.c4, .int .i64 y.b.c5, .int .i64 y.w0, .int .i64 y.w1] 44)
    have hX' := hX.alloc (.cells #[.int .i64 y.a.c0, .int .i64 y.a.c1, .int .i64 y.a.c2, .int .i64 y.a.c3, .int .i64 y.a.c4, .int .i64 y.a.c5, .int .i64 y.b.c0, .int .i64 y.b.c1, .int .i64 y.b.c2, .int .i64 y.b.c3, .int .i64 y.b.c4, .int .i64 y.b.c5, .int .i64 y.w0, .int .i64 y.w1] 44)
    have hX2' := hX2.alloc (.cells #[.int .i64 y.a.c0, .int .i64 y.a.c1, .int .i64 y.a.c2, .int .i64 y.a.c3, .int .i64 y.a.c4, .int .i64 y.a.c5, .int .i64 y.b.c0, .int .i64 y.b.c1, .int .i64 y.b.c2, .int .i64 y.b.c3, .int .i64 y.b.c4, .int .i64 y.b.c5, .int .i64 y.w0, .int .i64 y.w1] 44)
    have hT8 := hM.side 44 #[.int .i64 y.a.c0, .int .i64 y.a.c1, .int .i64 y.a.c2, .int .i64 y.a.c3, .int .i64 y.a.c4, .int .i64 y.a.c5, .int .i64 y.b.c0, .int .i64 y.b.c1, .int .i64 y.b.c2, .int .i64 y.b.c3, .int .i64 y.b.c4, .int .i64 y.b.c5, .int .i64 y.w0, .int .i64 y.w1]
    clear hM hX hX2 hHeld 
    have hM := hM'
    have hX := hX'
    have hX2 := hX2'
    clear hM' hX' hX2' 
    have hH4 : w4.heap.size < (w4.alloc (.cells #[.int .i64 y.a.c0, .int .i64 y.a.c1, .int .i64 y.a.c2, .int .i64 y.a.c3, .int .i64 y.a.c4, .int .i64 y.a.c5, .int .i64 y.b.c0, .int .i64 y.b.c1, .int .i64 y.b.c2, .int .i64 y.b.c3, .int .i64 y.b.c4, .int .i64 y.b.c5, .int .i64 y.w0, .int .i64 y.w1] 44)).heap.size := by simp
    generalize w4.alloc (.cells #[.int .i64 y.a.c0, .int .i64 y.a.c1, .int .i64 y.a.c2, .int .i64 y.a.c3, .int .i64 y.a.c4, .int .i64 y.a.c5, .int .i64 y.b.c0, .int .i64 y.b.c1, .int .i64 y.b.c2, .int .i64 y.b.c3, .int .i64 y.b.c4, .int .i64 y.b.c5, .int .i64 y.w0, .int .i64 y.w1] 44) = w5 at *
    refine hK.out _ _ ?_ (fun hHeld => ?_)
    · exact ⟨hM.blk, hX.blk, hX2.blk⟩
    clear hK K
    try simp only [lay]
    refine two_ready (rs := [9, 15, 22]) (by kernel_rfl) (by kernel_rfl) (by simp) ?_
    refine AllReadyB.cons rfl (fun K hK => ?_) (AllReadyB.cons rfl (fun K hK => ?_) (AllReadyB.cons rfl (fun K hK => ?_) AllReadyB.nil))
    ·
      refine step_append_lies _ (by rfl) _ _ _ (by rfl) B 44 a0_ _ 14 112 Tryz.underlying119 ai az0 az1 az2 rfl (by omega) v1 s.l.length (cellsC 14 s.l.length (stF s)) (by rfl) hM.r1 _ 1 1 [.int .i64 y.a.c0, .int .i64 y.a.c1, .int .i64 y.a.c2, .int .i64 y.a.c3, .int .i64 y.a.c4, .int .i64 y.a.c5, .int .i64 y.b.c0, .int .i64 y.b.c1, .int .i64 y.b.c2, .int .i64 y.b.c3, .int .i64 y.b.c4, .int .i64 y.b.c5, .int .i64 y.w0, .int .i64 y.w1] (by rfl) (by rfl) (hT8.blk.news) (by simp [Value.oneCell']) (by omega) (by simp only [maxLen]; omega) (by omega) hM.sB.2.2 _ rfl ?_
      intro gg1 cap1 w6 hown1 hgrow1 hat1 hlt1
      have hM' := hM.app1 hown1 hgrow1 hat1
      have hX' := hX.app1 hgrow1 hat1 (s.l.length + 1) cap1
      have hX2' := hX2.app1 hgrow1 hat1 (s.l.length + 1) cap1
      clear hM hX hX2 hHeld hown1 hgrow1 hat1 hT8
      have hM := hM'
      have hX := hX'
      have hX2 := hX2'
      clear hM' hX' hX2' 
      refine hK.out _ _ ?_ (fun hHeld => ?_)
      · exact ⟨hM.blk, hX.blk, hX2.blk⟩
      clear hK K
      try simp only [lay]
      refine two_ready (rs := [15, 22]) (by kernel_rfl) (by kernel_rfl) (by simp) ?_
      refine AllReadyB.cons rfl (fun K hK => ?_) (AllReadyB.cons rfl (fun K hK => ?_) AllReadyB.nil)
      ·
        go_simp
        have hM' := hM.alloc (.cells #[.int .i64 frm] 3)
        have hX' := hX.alloc (.cells #[.int .i64 frm] 3)
        have hX2' := hX2.alloc (.cells #[.int .i64 frm] 3)
        have hT15 := hM.side 3 #[.int .i64 frm]
        clear hM hX hX2 hHeld 
        have hM := hM'
        have hX := hX'
        have hX2 := hX2'
        clear hM' hX' hX2' 
        have hH6 : w6.heap.size < (w6.alloc (.cells #[.int .i64 frm] 3)).heap.size := by simp
        generalize w6.alloc (.cells #[.int .i64 frm] 3) = w7 at *
        refine hK.out _ _ ?_ (fun hHeld => ?_)
        · exact ⟨hM.blk, hX.blk, hX2.blk⟩
        clear hK K
        try simp only [lay]
        refine two_ready (rs := [16, 22]) (by kernel_rfl) (by kernel_rfl) (by simp) ?_
        refine AllReadyB.cons rfl (fun K hK => ?_) (AllReadyB.cons rfl (fun K hK => ?_) AllReadyB.nil)
        ·
          refine step_append_lies _ (by rfl) _ _ _ (by rfl) B 3 b0_ _ 1 8 Tryz.underlying49 bi bz0 bz1 bz2 rfl (by omega) v2 s.l.length (cellsOf s.l.length (frF s)) (by rfl) hM.r2 _ 1 1 [.int .i64 frm] (by rfl) (by rfl) (hT15.blk.news) (by simp [Value.oneCell']) (by omega) (by simp only [maxLen]; omega) (by omega) hM.sB.2.2 _ rfl ?_
          intro gg2 cap2 w8 hown2 hgrow2 hat2 hlt2
          have hM' := hM.app2 hown2 hgrow2 hat2
          have hX' := hX.app2 hgrow2 hat2 (s.l.length + 1) cap2
          have hX2' := hX2.app2 hgrow2 hat2 (s.l.length + 1) cap2
          clear hM hX hX2 hHeld hown2 hgrow2 hat2 hT15
          have hM := hM'
          have hX := hX'
          have hX2 := hX2'
          clear hM' hX' hX2' 
          refine hK.out _ _ ?_ (fun hHeld => ?_)
          · exact ⟨hM.blk, hX.blk, hX2.blk⟩
          clear hK K
          try simp only [lay]
          refine two_ready (rs := [22]) (by kernel_rfl) (by kernel_rfl) (by simp) ?_
          refine AllReadyB.cons rfl (fun K hK => ?_) AllReadyB.nil
          go_simp
          have hM' := hM.alloc (.cells #[.int .i64 l0, .int .i64 l1] 30)
          have hX' := hX.alloc (.cells #[.int .i64 l0, .int .i64 l1] 30)
          have hX2' := hX2.alloc (.cells #[.int .i64 l0, .int .i64 l1] 30)
          have hT22 := hM.side 30 #[.int .i64 l0, .int .i64 l1]
          clear hM hX hX2 hHeld 
          have hM := hM'
          have hX := hX'
          have hX2 := hX2'
          clear hM' hX' hX2' 
          have hH8 : w8.heap.size < (w8.alloc (.cells #[.int .i64 l0, .int .i64 l1] 30)).heap.size := by simp
          generalize w8.alloc (.cells #[.int .i64 l0, .int .i64 l1] 30) = w9 at *
          refine hK.out _ _ ?_ (fun hHeld => ?_)
          · exact ⟨hM.blk, hX.blk, hX2.blk⟩
          clear hK K
          try simp only [lay]
          refine two_ready (rs := [23]) (by kernel_rfl) (by kernel_rfl) (by simp) ?_
          refine AllReadyB.cons rfl (fun K hK => ?_) AllReadyB.nil
          refine step_append_lies _ (by rfl) _ _ _ (by rfl) B 30 c0_ _ 2 16 Tryz.underlying29 ci cz0 cz1 cz2 rfl (by omega) v3 s.l.length (cellsC 2 s.l.length (byF J s)) (by rfl) hM.r3 _ 1 1 [.int .i64 l0, .int .i64 l1] (by rfl) (by rfl) (hT22.blk.news) (by simp [Value.oneCell']) (by omega) (by simp only [maxLen]; omega) (by omega) hM.sB.2.2 _ rfl ?_
          intro gg3 cap3 w10 hown3 hgrow3 hat3 hlt3
          have hM' := hM.app3 hown3 hgrow3 hat3
          have hX' := hX.app3 hgrow3 hat3 (s.l.length + 1) cap3
          have hX2' := hX2.app3 hgrow3 hat3 (s.l.length + 1) cap3
          clear hM hX hX2 hHeld hown3 hgrow3 hat3 hT22
          have hM := hM'
          have hX := hX'
          have hX2 := hX2'
          clear hM' hX' hX2' 
          refine hK.out _ _ ?_ (fun hHeld => ?_)
          · exact ⟨hM.blk, hX.blk, hX2.blk⟩
          clear hK K
          try simp only [lay]
          refine p20 24 rfl ?_; try simp only [lay]
          refine p20 25 rfl ?_; try simp only [lay]
          have q1 := hM.blk.cell 1
          have q2 := hM.blk.cell 2
          have q3 := hM.blk.cell 3
          have p1 := hM.blk.frozen 1
          have p2 := hM.blk.frozen 2
          have p3 := hM.blk.frozen 3
          simp at q1 q2 q3
          refine two_ready (rs := [26]) (by kernel_rfl) (by kernel_rfl) (by simp) ?_
          refine AllReadyB.last rfl (fun K hK => ?_)
          go_simp
          refine hK.out _ _ ?_
          clear hK K
          try simp only [lay]
          refine two_late (by kernel_rfl) ?_
          refine la0 27 rfl ?_; try simp only [lay]
          refine la0 28 rfl ?_; try simp only [lay]
          refine wpAny_ready (rs := [29]) (by kernel_rfl) (by simp) ?_
          refine AllReady.cons' rfl (fun K hK => ?_) AllReady.nil
          go_simp
          refine hK.out _ _ ?_
          clear hK K
          try simp only [lay]
          refine la0 30 rfl ?_; try simp only [lay]
          refine la0 31 rfl ?_; try simp only [lay]
          refine wpAny_ready (rs := [32]) (by kernel_rfl) (by simp) ?_
          refine AllReady.cons' rfl (fun K hK => ?_) AllReady.nil
          go_simp
          refine hK.out _ _ ?_
          clear hK K
          try simp only [lay]
          refine wpAny_done (by kernel_rfl) ?_ _
          have hE := hM.store
          clear q1 q2 q3 p1 p2 p3 hM hX hX2
          generalize (((w10.setCell ⟨S, 1, none⟩ (.slice (some ⟨gg1, 0, none⟩) (s.l.length + 1) cap1)).setCell ⟨S, 2, none⟩ (.slice (some ⟨gg2, 0, none⟩) (s.l.length + 1) cap2)).setCell ⟨S, 3, none⟩ (.slice (some ⟨gg3, 0, none⟩) (s.l.length + 1) cap3)) = wz at *
          have e1 : wz.cell? ⟨S, 1, none⟩ = some (.slice (some ⟨gg1, 0, none⟩) (s.l.length + 1) cap1) := hE.blk.cell 1
          have eS := hE.blk.lt
          have HE := Lib.hid hE
          clear hE
          go_wp2
          go_ret2
          exact ⟨ret_pair (by omega), _, _, _, find_end HE.out (by rw [HP.out]) H0.out H1.out, HE.out.off, HE.out.fresh⟩
        ·
          go_simp
          have hM' := hM.alloc (.cells #[.int .i64 l0, .int .i64 l1] 30)
          have hX' := hX.alloc (.cells #[.int .i64 l0, .int .i64 l1] 30)
          have hX2' := hX2.alloc (.cells #[.int .i64 l0, .int .i64 l1] 30)
          have hT15' := hT15.alloc (.cells #[.int .i64 l0, .int .i64 l1] 30)
          have hT22 := hM.side 30 #[.int .i64 l0, .int .i64 l1]
          clear hM hX hX2 hHeld hT15
          have hM := hM'
          have hX := hX'
          have hX2 := hX2'
          have hT15 := hT15'
          clear hM' hX' hX2' hT15'
          have hH7 : w7.heap.size < (w7.alloc (.cells #[.int .i64 l0, .int .i64 l1] 30)).heap.size := by simp
          generalize w7.alloc (.cells #[.int .i64 l0, .int .i64 l1] 30) = w8 at *
          refine hK.out _ _ ?_ (fun hHeld => ?_)
          · exact ⟨hM.blk, hX.blk, hX2.blk⟩
          clear hK K
          try simp only [lay]
          refine two_ready (rs := [16]) (by kernel_rfl) (by kernel_rfl) (by simp) ?_
          refine AllReadyB.cons rfl (fun K hK => ?_) AllReadyB.nil
          refine step_append_lies _ (by rfl) _ _ _ (by rfl) B 3 b0_ _ 1 8 Tryz.underlying49 bi bz0 bz1 bz2 rfl (by omega) v2 s.l.length (cellsOf s.l.length (frF s)) (by rfl) hM.r2 _ 1 1 [.int .i64 frm] (by rfl) (by rfl) (hT15.blk.news) (by simp [Value.oneCell']) (by omega) (by simp only [maxLen]; omega) (by omega) hM.sB.2.2 _ rfl ?_
          intro gg2 cap2 w9 hown2 hgrow2 hat2 hlt2
          have hM' := hM.app2 hown2 hgrow2 hat2
          have hX' := hX.app2 hgrow2 hat2 (s.l.length + 1) cap2
          have hX2' := hX2.app2 hgrow2 hat2 (s.l.length + 1) cap2
          have hT22' := hT22.app2 hgrow2 hat2 (s.l.length + 1) cap2
          clear hM hX hX2 hHeld hown2 hgrow2 hat2 hT15 hT22
          have hM := hM'
          have hX := hX'
          have hX2 := hX2'
          have hT22 := hT22'
          clear hM' hX' hX2' hT22'
          refine hK.out _ _ ?_ (fun hHeld => ?_)
          · exact ⟨hM.blk, hX.blk, hX2.blk⟩
          clear hK K
          try simp only [lay]
          refine two_ready (rs := [23]) (by kernel_rfl) (by kernel_rfl) (by simp) ?_
          refine AllReadyB.cons rfl (fun K hK => ?_) AllReadyB.nil
          refine step_append_lies _ (by rfl) _ _ _ (by rfl) B 30 c0_ _ 2 16 Tryz.underlying29 ci cz0 cz1 cz2 rfl (by omega) v3 s.l.length (cellsC 2 s.l.length (byF J s)) (by rfl) hM.r3 _ 1 1 [.int .i64 l0, .int .i64 l1] (by rfl) (by rfl) (hT22.blk.news) (by simp [Value.oneCell']) (by omega) (by simp only [maxLen]; omega) (by omega) hM.sB.2.2 _ rfl ?_
          intro gg3 cap3 w10 hown3 hgrow3 hat3 hlt3
          have hM' := hM.app3 hown3 hgrow3 hat3
          have hX' := hX.app3 hgrow3 hat3 (s.l.length + 1) cap3
          have hX2' := hX2.app3 hgrow3 hat3 (s.l.length + 1) cap3
          clear hM hX hX2 hHeld hown3 hgrow3 hat3 hT22
          have hM := hM'
          have hX := hX'
          have hX2 := hX2'
          clear hM' hX' hX2' 
          refine hK.out _ _ ?_ (fun hHeld => ?_)
          · exact ⟨hM.blk, hX.blk, hX2.blk⟩
          clear hK K
          try simp only [lay]
          refine p20 24 rfl ?_; try simp only [lay]
          refine p20 25 rfl ?_; try simp only [lay]
          have q1 := hM.blk.cell 1
          have q2 := hM.blk.cell 2
          have q3 := hM.blk.cell 3
          have p1 := hM.blk.frozen 1
          have p2 := hM.blk.frozen 2
          have p3 := hM.blk.frozen 3
          simp at q1 q2 q3
          refine two_ready (rs := [26]) (by kernel_rfl) (by kernel_rfl) (by simp) ?_
          refine AllReadyB.last rfl (fun K hK => ?_)
          go_simp
          refine hK.out _ _ ?_
          clear hK K
          try simp only [lay]
          refine two_late (by kernel_rfl) ?_
          refine la0 27 rfl ?_; try simp only [lay]
          refine la0 28 rfl ?_; try simp only [lay]
          refine wpAny_ready (rs := [29]) (by kernel_rfl) (by simp) ?_
          refine AllReady.cons' rfl (fun K hK => ?_) AllReady.nil
          go_simp
          refine hK.out _ _ ?_
          clear hK K
          try simp only [lay]
          refine la0 30 rfl ?_; try simp only [lay]
          refine la0 31 rfl ?_; try simp only [lay]
          refine wpAny_ready (rs := [32]) (by kernel_rfl) (by simp) ?_
          refine AllReady.cons' rfl (fun K hK => ?_) AllReady.nil
          go_simp
          refine hK.out _ _ ?_
          clear hK K
          try simp only [lay]
          refine wpAny_done (by kernel_rfl) ?_ _
          have hE := hM.store
          clear q1 q2 q3 p1 p2 p3 hM hX hX2
          generalize (((w10.setCell ⟨S, 1, none⟩ (.slice (some ⟨gg1, 0, none⟩) (s.l.length + 1) cap1)).setCell ⟨S, 2, none⟩ (.slice (some ⟨gg2, 0, none⟩) (s.l.length + 1) cap2)).setCell ⟨S, 3, none⟩ (.slice (some ⟨gg3, 0, none⟩) (s.l.length + 1) cap3)) = wz at *
          have e1 : wz.cell? ⟨S, 1, none⟩ = some (.slice (some ⟨gg1, 0, none⟩) (s.l.length + 1) cap1) := hE.blk.cell 1
          have eS := hE.blk.lt
          have HE := Lib.hid hE
          clear hE
          go_wp2
          go_ret2
          exact ⟨ret_pair (by omega), _, _, _, find_end HE.out (by rw [HP.out]) H0.out H1.out, HE.out.off, HE.out.fresh⟩
      ·
        go_simp
        have hM' := hM.alloc (.cells #[.int .i64 l0, .int .i64 l1] 30)
        have hX' := hX.alloc (.cells #[.int .i64 l0, .int .i64 l1] 30)
        have hX2' := hX2.alloc (.cells #[.int .i64 l0, .int .i64 l1] 30)
        have hT22 := hM.side 30 #[.int .i64 l0, .int .i64 l1]
        clear hM hX hX2 hHeld 
        have hM := hM'
        have hX := hX'
        have hX2 := hX2'
        clear hM' hX' hX2' 
        have hH6 : w6.heap.size < (w6.alloc (.cells #[.int .i64 l0, .int .i64 l1] 30)).heap.size := by simp
        generalize w6.alloc (.cells #[.int .i64 l0, .int .i64 l1] 30) = w7 at *
        refine hK.out _ _ ?_ (fun hHeld => ?_)
        · exact ⟨hM.blk, hX.blk, hX2.blk⟩
        clear hK K
        try simp only [lay]
        refine two_ready (rs := [15]) (by kernel_rfl) (by kernel_rfl) (by simp) ?_
        refine AllReadyB.cons rfl (fun K hK => ?_) AllReadyB.nil
        go_simp
        have hM' := hM.alloc (.cells #[.int .i64 frm] 3)
        have hX' := hX.alloc (.cells #[.int .i64 frm] 3)
        have hX2' := hX2.alloc (.cells #[.int .i64 frm] 3)
        have hT22' := hT22.alloc (.cells #[.int .i64 frm] 3)
        have hT15 := hM.side 3 #[.int .i64 frm]
        clear hM hX hX2 hHeld hT22
        have hM := hM'
        have hX := hX'
        have hX2 := hX2'
        have hT22 := hT22'
        clear hM' hX' hX2' hT22'
        have hH7 : w7.heap.size < (w7.alloc (.cells #[.int .i64 frm] 3)).heap.size := by simp
        generalize w7.alloc (.cells #[.int .i64 frm] 3) = w8 at *
        refine hK.out _ _ ?_ (fun hHeld => ?_)
        · exact ⟨hM.blk, hX.blk, hX2.blk⟩
        clear hK K
        try simp only [lay]
        refine two_ready (rs := [16]) (by kernel_rfl) (by kernel_rfl) (by simp) ?_
        refine AllReadyB.cons rfl (fun K hK => ?_) AllReadyB.nil
        refine step_append_lies _ (by rfl) _ _ _ (by rfl) B 3 b0_ _ 1 8 Tryz.underlying49 bi bz0 bz1 bz2 rfl (by omega) v2 s.l.length (cellsOf s.l.length (frF s)) (by rfl) hM.r2 _ 1 1 [.int .i64 frm] (by rfl) (by rfl) (hT15.blk.news) (by simp [Value.oneCell']) (by omega) (by simp only [maxLen]; omega) (by omega) hM.sB.2.2 _ rfl ?_
        intro gg2 cap2 w9 hown2 hgrow2 hat2 hlt2
        have hM' := hM.app2 hown2 hgrow2 hat2
        have hX' := hX.app2 hgrow2 hat2 (s.l.length + 1) cap2
        have hX2' := hX2.app2 hgrow2 hat2 (s.l.length + 1) cap2
        have hT22' := hT22.app2 hgrow2 hat2 (s.l.length + 1) cap2
        clear hM hX hX2 hHeld hown2 hgrow2 hat2 hT22 hT15
        have hM := hM'
        have hX := hX'
        have hX2 := hX2'
        have hT22 := hT22'
        clear hM' hX' hX2' hT22'
        refine hK.out _ _ ?_ (fun hHeld => ?_)
        · exact ⟨hM.blk, hX.blk, hX2.blk⟩
        clear hK K
        try simp only [lay]
        refine two_ready (rs := [23]) (by kernel_rfl) (by kernel_rfl) (by simp) ?_
        refine AllReadyB.cons rfl (fun K hK => ?_) AllReadyB.nil
        refine step_append_lies _ (by rfl) _ _ _ (by rfl) B 30 c0_ _ 2 16 Tryz.underlying29 ci cz0 cz1 cz2 rfl (by omega) v3 s.l.length (cellsC 2 s.l.length (byF J s)) (by rfl) hM.r3 _ 1 1 [.int .i64 l0, .int .i64 l1] (by rfl) (by rfl) (hT22.blk.news) (by simp [Value.oneCell']) (by omega) (by simp only [maxLen]; omega) (by omega) hM.sB.2.2 _ rfl ?_
        intro gg3 cap3 w10 hown3 hgrow3 hat3 hlt3
        have hM' := hM.app3 hown3 hgrow3 hat3
        have hX' := hX.app3 hgrow3 hat3 (s.l.length + 1) cap3
        have hX2' := hX2.app3 hgrow3 hat3 (s.l.length + 1) cap3
        clear hM hX hX2 hHeld hown3 hgrow3 hat3 hT22
        have hM := hM'
        have hX := hX'
        have hX2 := hX2'
        clear hM' hX' hX2' 
        refine hK.out _ _ ?_ (fun hHeld => ?_)
        · exact ⟨hM.blk, hX.blk, hX2.blk⟩
        clear hK K
        try simp only [lay]
        refine p20 24 rfl ?_; try simp only [lay]
        refine p20 25 rfl ?_; try simp only [lay]
        have q1 := hM.blk.cell 1
        have q2 := hM.blk.cell 2
        have q3 := hM.blk.cell 3
        have p1 := hM.blk.frozen 1
        have p2 := hM.blk.frozen 2
        have p3 := hM.blk.frozen 3
        simp at q1 q2 q3
        refine two_ready (rs := [26]) (by kernel_rfl) (by kernel_rfl) (by simp) ?_
        refine AllReadyB.last rfl (fun K hK => ?_)
        go_simp
        refine hK.out _ _ ?_
        clear hK K
        try simp only [lay]
        refine two_late (by kernel_rfl) ?_
        refine la0 27 rfl ?_; try simp only [lay]
        refine la0 28 rfl ?_; try simp only [lay]
        refine wpAny_ready (rs := [29]) (by kernel_rfl) (by simp) ?_
        refine AllReady.cons' rfl (fun K hK => ?_) AllReady.nil
        go_simp
        refine hK.out _ _ ?_
        clear hK K
        try simp only [lay]
        refine la0 30 rfl ?_; try simp only [lay]
        refine la0 31 rfl ?_; try simp only [lay]
        refine wpAny_ready (rs := [32]) (by kernel_rfl) (by simp) ?_
        refine AllReady.cons' rfl (fun K hK => ?_) AllReady.nil
        go_simp
        refine hK.out _ _ ?_
        clear hK K
        try simp only [lay]
        refine wpAny_done (by kernel_rfl) ?_ _
        have hE := hM.store
        clear q1 q2 q3 p1 p2 p3 hM hX hX2
        generalize (((w10.setCell ⟨S, 1, none⟩ (.slice (some ⟨gg1, 0, none⟩) (s.l.length + 1) cap1)).setCell ⟨S, 2, none⟩ (.slice (some ⟨gg2, 0, none⟩) (s.l.length + 1) cap2)).setCell ⟨S, 3, none⟩ (.slice (some ⟨gg3, 0, none⟩) (s.l.length + 1) cap3)) = wz at *
        have e1 : wz.cell? ⟨S, 1, none⟩ = some (.slice (some ⟨gg1, 0, none⟩) (s.l.length + 1) cap1) := hE.blk.cell 1
        have eS := hE.blk.lt
        have HE := Lib.hid hE
        clear hE
        go_wp2
        go_ret2
        exact ⟨ret_pair (by omega), _, _, _, find_end HE.out (by rw [HP.out]) H0.out H1.out, HE.out.off, HE.out.fresh⟩
    ·
      go_simp
      have hM' := hM.alloc (.cells #[.int .i64 frm] 3)
      have hX' := hX.alloc (.cells #[.int .i64 frm] 3)
      have hX2' := hX2.alloc (.cells #[.int .i64 frm] 3)
      have hT8' := hT8.alloc (.cells #[.int .i64 frm] 3)
      have hT15 := hM.side 3 #[.int .i64 frm]
      clear hM hX hX2 hHeld hT8
      have hM := hM'
      have hX := hX'
      have hX2 := hX2'
      have hT8 := hT8'
      clear hM' hX' hX2' hT8'
      have hH5 : w5.heap.size < (w5.alloc (.cells #[.int .i64 frm] 3)).heap.size := by simp
      generalize w5.alloc (.cells #[.int .i64 frm] 3) = w6 at *
      refine hK.out _ _ ?_ (fun hHeld => ?_)
      · exact ⟨hM.blk, hX.blk, hX2.blk⟩
      clear hK K
      try simp only [lay]
      refine two_ready (rs := [9, 22]) (by kernel_rfl) (by kernel_rfl) (by simp) ?_
      refine AllReadyB.cons rfl (fun K hK => ?_) (AllReadyB.cons rfl (fun K hK => ?_) AllReadyB.nil)
      ·
        refine step_append_lies _ (by rfl) _ _ _ (by rfl) B 44 a0_ _ 14 112 Tryz.underlying119 ai az0 az1 az2 rfl (by omega) v1 s.l.length (cellsC 14 s.l.length (stF s)) (by rfl) hM.r1 _ 1 1 [.int .i64 y.a.c0, .int .i64 y.a.c1, .int .i64 y.a.c2, .int .i64 y.a.c3, .int .i64 y.a.c4, .int .i64 y.a.c5, .int .i64 y.b.c0, .int .i64 y.b.c1, .int .i64 y.b.c2, .int .i64 y.b.c3, .int .i64 y.b.c4, .int .i64 y.b.c5, .int .i64 y.w0, .int .i64 y.w1] (by rfl) (by rfl) (hT8.blk.news) (by simp [Value.oneCell']) (by omega) (by simp only [maxLen]; omega) (by omega) hM.sB.2.2 _ rfl ?_
        intro gg1 cap1 w7 hown1 hgrow1 hat1 hlt1
        have hM' := hM.app1 hown1 hgrow1 hat1
        have hX' := hX.app1 hgrow1 hat1 (s.l.length + 1) cap1
        have hX2' := hX2.app1 hgrow1 hat1 (s.l.length + 1) cap1
        have hT15' := hT15.app1 hgrow1 hat1 (s.l.length + 1) cap1
        clear hM hX hX2 hHeld hown1 hgrow1 hat1 hT8 hT15
        have hM := hM'
        have hX := hX'
        have hX2 := hX2'
        have hT15 := hT15'
        clear hM' hX' hX2' hT15'
        refine hK.out _ _ ?_ (fun hHeld => ?_)
        · exact ⟨hM.blk, hX.blk, hX2.blk⟩
        clear hK K
        try simp only [lay]
        refine two_ready (rs := [16, 22]) (by kernel_rfl) (by kernel_rfl) (by simp) ?_
        refine AllReadyB.cons rfl (fun K hK => ?_) (AllReadyB.cons rfl (fun K hK => ?_) AllReadyB.nil)
        ·
          refine step_append_lies _ (by rfl) _ _ _ (by rfl) B 3 b0_ _ 1 8 Tryz.underlying49 bi bz0 bz1 bz2 rfl (by omega) v2 s.l.length (cellsOf s.l.length (frF s)) (by rfl) hM.r2 _ 1 1 [.int .i64 frm] (by rfl) (by rfl) (hT15.blk.news) (by simp [Value.oneCell']) (by omega) (by simp only [maxLen]; omega) (by omega) hM.sB.2.2 _ rfl ?_
          intro gg2 cap2 w8 hown2 hgrow2 hat2 hlt2
          have hM' := hM.app2 hown2 hgrow2 hat2
          have hX' := hX.app2 hgrow2 hat2 (s.l.length + 1) cap2
          have hX2' := hX2.app2 hgrow2 hat2 (s.l.length + 1) cap2
          clear hM hX hX2 hHeld hown2 hgrow2 hat2 hT15
          have hM := hM'
          have hX := hX'
          have hX2 := hX2'
          clear hM' hX' hX2' 
          refine hK.out _ _ ?_ (fun hHeld => ?_)
          · exact ⟨hM.blk, hX.blk, hX2.blk⟩
          clear hK K
          try simp only [lay]
          refine two_ready (rs := [22]) (by kernel_rfl) (by kernel_rfl) (by simp) ?_
          refine AllReadyB.cons rfl (fun K hK => ?_) AllReadyB.nil
          go_simp
          have hM' := hM.alloc (.cells #[.int .i64 l0, .int .i64 l1] 30)
          have hX' := hX.alloc (.cells #[.int .i64 l0, .int .i64 l1] 30)
          have hX2' := hX2.alloc (.cells #[.int .i64 l0, .int .i64 l1] 30)
          have hT22 := hM.side 30 #[.int .i64 l0, .int .i64 l1]
          clear hM hX hX2 hHeld 
          have hM := hM'
          have hX := hX'
          have hX2 := hX2'
          clear hM' hX' hX2' 
          have hH8 : w8.heap.size < (w8.alloc (.cells #[.int .i64 l0, .int .i64 l1] 30)).heap.size := by simp
          generalize w8.alloc (.cells #[.int .i64 l0, .int .i64 l1] 30) = w9 at *
          refine hK.out _ _ ?_ (fun hHeld => ?_)
          · exact ⟨hM.blk, hX.blk, hX2.blk⟩
          clear hK K
          try simp only [lay]
          refine two_ready (rs := [23]) (by kernel_rfl) (by kernel_rfl) (by simp) ?_
          refine AllReadyB.cons rfl (fun K hK => ?_) AllReadyB.nil
          refine step_append_lies _ (by rfl) _ _ _ (by rfl) B 30 c0_ _ 2 16 Tryz.underlying29 ci cz0 cz1 cz2 rfl (by omega) v3 s.l.length (cellsC 2 s.l.length (byF J s)) (by rfl) hM.r3 _ 1 1 [.int .i64 l0, .int .i64 l1] (by rfl) (by rfl) (hT22.blk.news) (by simp [Value.oneCell']) (by omega) (by simp only [maxLen]; omega) (by omega) hM.sB.2.2 _ rfl ?_
          intro gg3 cap3 w10 hown3 hgrow3 hat3 hlt3
          have hM' := hM.app3 hown3 hgrow3 hat3
          have hX' := hX.app3 hgrow3 hat3 (s.l.length + 1) cap3
          have hX2' := hX2.app3 hgrow3 hat3 (s.l.length + 1) cap3
          clear hM hX hX2 hHeld hown3 hgrow3 hat3 hT22
          have hM := hM'
          have hX := hX'
          have hX2 := hX2'
          clear hM' hX' hX2' 
          refine hK.out _ _ ?_ (fun hHeld => ?_)
          · exact ⟨hM.blk, hX.blk, hX2.blk⟩
          clear hK K
          try simp only [lay]
          refine p20 24 rfl ?_; try simp only [lay]
          refine p20 25 rfl ?_; try simp only [lay]
          have q1 := hM.blk.cell 1
          have q2 := hM.blk.cell 2
          have q3 := hM.blk.cell 3
          have p1 := hM.blk.frozen 1
          have p2 := hM.blk.frozen 2
          have p3 := hM.blk.frozen 3
          simp at q1 q2 q3
          refine two_ready (rs := [26]) (by kernel_rfl) (by kernel_rfl) (by simp) ?_
          refine AllReadyB.last rfl (fun K hK => ?_)
          go_simp
          refine hK.out _ _ ?_
          clear hK K
          try simp only [lay]
          refine two_late (by kernel_rfl) ?_
          refine la0 27 rfl ?_; try simp only [lay]
          refine la0 28 rfl ?_; try simp only [lay]
          refine wpAny_ready (rs := [29]) (by kernel_rfl) (by simp) ?_
          refine AllReady.cons' rfl (fun K hK => ?_) AllReady.nil
          go_simp
          refine hK.out _ _ ?_
          clear hK K
          try simp only [lay]
          refine la0 30 rfl ?_; try simp only [lay]
          refine la0 31 rfl ?_; try simp only [lay]
          refine wpAny_ready (rs := [32]) (by kernel_rfl) (by simp) ?_
          refine AllReady.cons' rfl (fun K hK => ?_) AllReady.nil
          go_simp
          refine hK.out _ _ ?_
          clear hK K
          try simp only [lay]
          refine wpAny_done (by kernel_rfl) ?_ _
          have hE := hM.store
          clear q1 q2 q3 p1 p2 p3 hM hX hX2
          generalize (((w10.setCell ⟨S, 1, none⟩ (.slice (some ⟨gg1, 0, none⟩) (s.l.length + 1) cap1)).setCell ⟨S, 2, none⟩ (.slice (some ⟨gg2, 0, none⟩) (s.l.length + 1) cap2)).setCell ⟨S, 3, none⟩ (.slice (some ⟨gg3, 0, none⟩) (s.l.length + 1) cap3)) = wz at *
          have e1 : wz.cell? ⟨S, 1, none⟩ = some (.slice (some ⟨gg1, 0, none⟩) (s.l.length + 1) cap1) := hE.blk.cell 1
          have eS := hE.blk.lt
          have HE := Lib.hid hE
          clear hE
          go_wp2
          go_ret2
          exact ⟨ret_pair (by omega), _, _, _, find_end HE.out (by rw [HP.out]) H0.out H1.out, HE.out.off, HE.out.fresh⟩
        ·
          go_simp
          have hM' := hM.alloc (.cells #[.int .i64 l0, .int .i64 l1] 30)
          have hX' := hX.alloc (.cells #[.int .i64 l0, .int .i64 l1] 30)
          have hX2' := hX2.alloc (.cells #[.int .i64 l0, .int .i64 l1] 30)
          have hT15' := hT15.alloc (.cells #[.int .i64 l0, .int .i64 l1] 30)
          have hT22 := hM.side 30 #[.int .i64 l0, .int .i64 l1]
          clear hM hX hX2 hHeld hT15
          have hM := hM'
          have hX := hX'
          have hX2 := hX2'
          have hT15 := hT15'
          clear hM' hX' hX2' hT15'
          have hH7 : w7.heap.size < (w7.alloc (.cells #[.int .i64 l0, .int .i64 l1] 30)).heap.size := by simp
          generalize w7.alloc (.cells #[.int .i64 l0, .int .i64 l1] 30) = w8 at *
          refine hK.out _ _ ?_ (fun hHeld => ?_)
          · exact ⟨hM.blk, hX.blk, hX2.blk⟩
          clear hK K
          try simp only [lay]
          refine two_ready (rs := [16]) (by kernel_rfl) (by kernel_rfl) (by simp) ?_
          refine AllReadyB.cons rfl (fun K hK => ?_) AllReadyB.nil
          refine step_append_lies _ (by rfl) _ _ _ (by rfl) B 3 b0_ _ 1 8 Tryz.underlying49 bi bz0 bz1 bz2 rfl (by omega) v2 s.l.length (cellsOf s.l.length (frF s)) (by rfl) hM.r2 _ 1 1 [.int .i64 frm] (by rfl) (by rfl) (hT15.blk.news) (by simp [Value.oneCell']) (by omega) (by simp only [maxLen]; omega) (by omega) hM.sB.2.2 _ rfl ?_
          intro gg2 cap2 w9 hown2 hgrow2 hat2 hlt2
          have hM' := hM.app2 hown2 hgrow2 hat2
          have hX' := hX.app2 hgrow2 hat2 (s.l.length + 1) cap2
          have hX2' := hX2.app2 hgrow2 hat2 (s.l.length + 1) cap2
          have hT22' := hT22.app2 hgrow2 hat2 (s.l.length + 1) cap2
          clear hM hX hX2 hHeld hown2 hgrow2 hat2 hT15 hT22
          have hM := hM'
          have hX := hX'
          have hX2 := hX2'
          have hT22 := hT22'
          clear hM' hX' hX2' hT22'
          refine hK.out _ _ ?_ (fun hHeld => ?_)
          · exact ⟨hM.blk, hX.blk, hX2.blk⟩
          clear hK K
          try simp only [lay]
          refine two_ready (rs := [23]) (by kernel_rfl) (by kernel_rfl) (by simp) ?_
          refine AllReadyB.cons rfl (fun K hK => ?_) AllReadyB.nil
          refine step_append_lies _ (by rfl) _ _ _ (by rfl) B 30 c0_ _ 2 16 Tryz.underlying29 ci cz0 cz1 cz2 rfl (by omega) v3 s.l.length (cellsC 2 s.l.length (byF J s)) (by rfl) hM.r3 _ 1 1 [.int .i64 l0, .int .i64 l1] (by rfl) (by rfl) (hT22.blk.news) (by simp [Value.oneCell']) (by omega) (by simp only [maxLen]; omega) (by omega) hM.sB.2.2 _ rfl ?_
          intro gg3 cap3 w10 hown3 hgrow3 hat3 hlt3
          have hM' := hM.app3 hown3 hgrow3 hat3
          have hX' := hX.app3 hgrow3 hat3 (s.l.length + 1) cap3
          have hX2' := hX2.app3 hgrow3 hat3 (s.l.length + 1) cap3
          clear hM hX hX2 hHeld hown3 hgrow3 hat3 hT22
          have hM := hM'
          have hX := hX'
          have hX2 := hX2'
          clear hM' hX' hX2' 
          refine hK.out _ _ ?_ (fun hHeld => ?_)
          · exact ⟨hM.blk, hX.blk, hX2.blk⟩
          clear hK K
          try simp only [lay]
          refine p20 24 rfl ?_; try simp only [lay]
          refine p20 25 rfl ?_; try simp only [lay]
          have q1 := hM.blk.cell 1
          have q2 := hM.blk.cell 2
          have q3 := hM.blk.cell 3
          have p1 := hM.blk.frozen 1
          have p2 := hM.blk.frozen 2
          have p3 := hM.blk.frozen 3
          simp at q1 q2 q3
          refine two_ready (rs := [26]) (by kernel_rfl) (by kernel_rfl) (by simp) ?_
          refine AllReadyB.last rfl (fun K hK => ?_)
          go_simp
          refine hK.out _ _ ?_
          clear hK K
          try simp only [lay]
          refine two_late (by kernel_rfl) ?_
          refine la0 27 rfl ?_; try simp only [lay]
          refine la0 28 rfl ?_; try simp only [lay]
          refine wpAny_ready (rs := [29]) (by kernel_rfl) (by simp) ?_
          refine AllReady.cons' rfl (fun K hK => ?_) AllReady.nil
          go_simp
          refine hK.out _ _ ?_
          clear hK K
          try simp only [lay]
          refine la0 30 rfl ?_; try simp only [lay]
          refine la0 31 rfl ?_; try simp only [lay]
          refine wpAny_ready (rs := [32]) (by kernel_rfl) (by simp) ?_
          refine AllReady.cons' rfl (fun K hK => ?_) AllReady.nil
          go_simp
          refine hK.out _ _ ?_
          clear hK K
          try simp only [lay]
          refine wpAny_done (by kernel_rfl) ?_ _
          have hE := hM.store
          clear q1 q2 q3 p1 p2 p3 hM hX hX2
          generalize (((w10.setCell ⟨S, 1, none⟩ (.slice (some ⟨gg1, 0, none⟩) (s.l.length + 1) cap1)).setCell ⟨S, 2, none⟩ (.slice (some ⟨gg2, 0, none⟩) (s.l.length + 1) cap2)).setCell ⟨S, 3, none⟩ (.slice (some ⟨gg3, 0, none⟩) (s.l.length + 1) cap3)) = wz at *
          have e1 : wz.cell? ⟨S, 1, none⟩ = some (.slice (some ⟨gg1, 0, none⟩) (s.l.length + 1) cap1) := hE.blk.cell 1
          have eS := hE.blk.lt
          have HE := Lib.hid hE
          clear hE
          go_wp2
          go_ret2
          exact ⟨ret_pair (by omega), _, _, _, find_end HE.out (by rw [HP.out]) H0.out H1.out, HE.out.off, HE.out.fresh⟩
      ·
        go_simp
        have hM' := hM.alloc (.cells #[.int .i64 l0, .int .i64 l1] 30)
        have hX' := hX.alloc (.cells #[.int .i64 l0, .int .i64 l1] 30)
        have hX2' := hX2.alloc (.cells #[.int .i64 l0, .int .i64 l1] 30)
        have hT8' := hT8.alloc (.cells #[.int .i64 l0, .int .i64 l1] 30)
        have hT15' := hT15.alloc (.cells #[.int .i64 l0, .int .i64 l1] 30)
        have hT22 := hM.side 30 #[.int .i64 l0, .int .i64 l1]
        clear hM hX hX2 hHeld hT8 hT15
        have hM := hM'
        have hX := hX'
        have hX2 := hX2'
        have hT8 := hT8'
        have hT15 := hT15'
        clear hM' hX' hX2' hT8' hT15'
        have hH6 : w6.heap.size < (w6.alloc (.cells #[.int .i64 l0, .int .i64 l1] 30)).heap.size := by simp
        generalize w6.alloc (.cells #[.int .i64 l0, .int .i64 l1] 30) = w7 at *
        refine hK.out _ _ ?_ (fun hHeld => ?_)
        · exact ⟨hM.blk, hX.blk, hX2.blk⟩
        clear hK K
        try simp only [lay]
        refine two_ready (rs := [9]) (by kernel_rfl) (by kernel_rfl) (by simp) ?_
        refine AllReadyB.cons rfl (fun K hK => ?_) AllReadyB.nil
        refine step_append_lies _ (by rfl) _ _ _ (by rfl) B 44 a0_ _ 14 112 Tryz.underlying119 ai az0 az1 az2 rfl (by omega) v1 s.l.length (cellsC 14 s.l.length (stF s)) (by rfl) hM.r1 _ 1 1 [.int .i64 y.a.c0, .int .i64 y.a.c1, .int .i64 y.a.c2, .int .i64 y.a.c3, .int .i64 y.a.c4, .int .i64 y.a.c5, .int .i64 y.b.c0, .int .i64 y.b.c1, .int .i64 y.b.c2, .int .i64 y.b.c3, .int .i64 y.b.c4, .int .i64 y.b.c5, .int .i64 y.w0, .int .i64 y.w1] (by rfl) (by rfl) (hT8.blk.news) (by simp [Value.oneCell']) (by omega) (by simp only [maxLen]; omega) (by omega) hM.sB.2.2 _ rfl ?_
        intro gg1 cap1 w8 hown1 hgrow1 hat1 hlt1
        have hM' := hM.app1 hown1 hgrow1 hat1
        have hX' := hX.app1 hgrow1 hat1 (s.l.length + 1) cap1
        have hX2' := hX2.app1 hgrow1 hat1 (s.l.length + 1) cap1
        have hT15' := hT15.app1 hgrow1 hat1 (s.l.length + 1) cap1
        have hT22' := hT22.app1 hgrow1 hat1 (s.l.length + 1) cap1
        clear hM hX hX2 hHeld hown1 hgrow1 hat1 hT8 hT15 hT22
        have hM := hM'
        have hX := hX'
        have hX2 := hX2'
        have hT15 := hT15'
        have hT22 := hT22'
        clear hM' hX' hX2' hT15' hT22'
        refine hK.out _ _ ?_ (fun hHeld => ?_)
        · exact ⟨hM.blk, hX.blk, hX2.blk⟩
        clear hK K
        try simp only [lay]
        refine two_ready (rs := [16]) (by kernel_rfl) (by kernel_rfl) (by simp) ?_
        refine AllReadyB.cons rfl (fun K hK => ?_) AllReadyB.nil
        refine step_append_lies _ (by rfl) _ _ _ (by rfl) B 3 b0_ _ 1 8 Tryz.underlying49 bi bz0 bz1 bz2 rfl (by omega) v2 s.l.length (cellsOf s.l.length (frF s)) (by rfl) hM.r2 _ 1 1 [.int .i64 frm] (by rfl) (by rfl) (hT15.blk.news) (by simp [Value.oneCell']) (by omega) (by simp only [maxLen]; omega) (by omega) hM.sB.2.2 _ rfl ?_
        intro gg2 cap2 w9 hown2 hgrow2 hat2 hlt2
        have hM' := hM.app2 hown2 hgrow2 hat2
        have hX' := hX.app2 hgrow2 hat2 (s.l.length + 1) cap2
        have hX2' := hX2.app2 hgrow2 hat2 (s.l.length + 1) cap2
        have hT22' := hT22.app2 hgrow2 hat2 (s.l.length + 1) cap2
        clear hM hX hX2 hHeld hown2 hgrow2 hat2 hT15 hT22
        have hM := hM'
        have hX := hX'
        have hX2 := hX2'
        have hT22 := hT22'
        clear hM' hX' hX2' hT22'
        refine hK.out _ _ ?_ (fun hHeld => ?_)
        · exact ⟨hM.blk, hX.blk, hX2.blk⟩
        clear hK K
        try simp only [lay]
        refine two_ready (rs := [23]) (by kernel_rfl) (by kernel_rfl) (by simp) ?_
        refine AllReadyB.cons rfl (fun K hK => ?_) AllReadyB.nil
        refine step_append_lies _ (by rfl) _ _ _ (by rfl) B 30 c0_ _ 2 16 Tryz.underlying29 ci cz0 cz1 cz2 rfl (by omega) v3 s.l.length (cellsC 2 s.l.length (byF J s)) (by rfl) hM.r3 _ 1 1 [.int .i64 l0, .int .i64 l1] (by rfl) (by rfl) (hT22.blk.news) (by simp [Value.oneCell']) (by omega) (by simp only [maxLen]; omega) (by omega) hM.sB.2.2 _ rfl ?_
        intro gg3 cap3 w10 hown3 hgrow3 hat3 hlt3
        have hM' := hM.app3 hown3 hgrow3 hat3
        have hX' := hX.app3 hgrow3 hat3 (s.l.length + 1) cap3
        have hX2' := hX2.app3 hgrow3 hat3 (s.l.length + 1) cap3
        clear hM hX hX2 hHeld hown3 hgrow3 hat3 hT22
        have hM := hM'
        have hX := hX'
        have hX2 := hX2'
        clear hM' hX' hX2' 
        refine hK.out _ _ ?_ (fun hHeld => ?_)
        · exact ⟨hM.blk, hX.blk, hX2.blk⟩
        clear hK K
        try simp only [lay]
        refine p20 24 rfl ?_; try simp only [lay]
        refine p20 25 rfl ?_; try simp only [lay]
        have q1 := hM.blk.cell 1
        have q2 := hM.blk.cell 2
        have q3 := hM.blk.cell 3
        have p1 := hM.blk.frozen 1
        have p2 := hM.blk.frozen 2
        have p3 := hM.blk.frozen 3
        simp at q1 q2 q3
        refine two_ready (rs := [26]) (by kernel_rfl) (by kernel_rfl) (by simp) ?_
        refine AllReadyB.last rfl (fun K hK => ?_)
        go_simp
        refine hK.out _ _ ?_
        clear hK K
        try simp only [lay]
        refine two_late (by kernel_rfl) ?_
        refine la0 27 rfl ?_; try simp only [lay]
        refine la0 28 rfl ?_; try simp only [lay]
        refine wpAny_ready (rs := [29]) (by kernel_rfl) (by simp) ?_
        refine AllReady.cons' rfl (fun K hK => ?_) AllReady.nil
        go_simp
        refine hK.out _ _ ?_
        clear hK K
        try simp only [lay]
        refine la0 30 rfl ?_; try simp only [lay]
        refine la0 31 rfl ?_; try simp only [lay]
        refine wpAny_ready (rs := [32]) (by kernel_rfl) (by simp) ?_
        refine AllReady.cons' rfl (fun K hK => ?_) AllReady.nil
        go_simp
        refine hK.out _ _ ?_
        clear hK K
        try simp only [lay]
        refine wpAny_done (by kernel_rfl) ?_ _
        have hE := hM.store
        clear q1 q2 q3 p1 p2 p3 hM hX hX2
        generalize (((w10.setCell ⟨S, 1, none⟩ (.slice (some ⟨gg1, 0, none⟩) (s.l.length + 1) cap1)).setCell ⟨S, 2, none⟩ (.slice (some ⟨gg2, 0, none⟩) (s.l.length + 1) cap2)).setCell ⟨S, 3, none⟩ (.slice (some ⟨gg3, 0, none⟩) (s.l.length + 1) cap3)) = wz at *
        have e1 : wz.cell? ⟨S, 1, none⟩ = some (.slice (some ⟨gg1, 0, none⟩) (s.l.length + 1) cap1) := hE.blk.cell 1
        have eS := hE.blk.lt
        have HE := Lib.hid hE
        clear hE
        go_wp2
        go_ret2
        exact ⟨ret_pair (by omega), _, _, _, find_end HE.out (by rw [HP.out]) H0.out H1.out, HE.out.off, HE.out.fresh⟩
    ·
      go_simp
      have hM' := hM.alloc (.cells #[.int .i64 l0, .int .i64 l1] 30)
      have hX' := hX.alloc (.cells #[.int .i64 l0, .int .i64 l1] 30)
      have hX2' := hX2.alloc (.cells #[.int .i64 l0, .int .i64 l1] 30)
      have hT8' := hT8.alloc (.cells #[.int .i64 l0, .int .i64 l1] 30)
      have hT22 := hM.side 30 #[.int .i64 l0, .int .i64 l1]
      clear hM hX hX2 hHeld hT8
      have hM := hM'
      have hX := hX'
      have hX2 := hX2'
      have hT8 := hT8'
      clear hM' hX' hX2' hT8'
      have hH5 : w5.heap.size < (w5.alloc (.cells #[.int .i64 l0, .int .i64 l1] 30)).heap.size := by simp
      generalize w5.alloc (.cells #[.int .i64 l0, .int .i64 l1] 30) = w6 at *
      refine hK.out _ _ ?_ (fun hHeld => ?_)
      · exact ⟨hM.blk, hX.blk, hX2.blk⟩
      clear hK K
      try simp only [lay]
      refine two_ready (rs := [9, 15]) (by kernel_rfl) (by kernel_rfl) (by simp) ?_
      refine AllReadyB.cons rfl (fun K hK => ?_) (AllReadyB.cons rfl (fun K hK => ?_) AllReadyB.nil)
      ·
        refine step_append_lies _ (by rfl) _ _ _ (by rfl) B 44 a0_ _ 14 112 Tryz.underlying119 ai az0 az1 az2 rfl (by omega) v1 s.l.length (cellsC 14 s.l.length (stF s)) (by rfl) hM.r1 _ 1 1 [.int .i64 y.a.c0, .int .i64 y.a.c1, .int .i64 y.a.c2, .int .i64 y.a.c3, .int .i64 y.a.c4, .int .i64 y.a.c5, .int .i64 y.b.c0, .int .i64 y.b.c1, .int .i64 y.b.c2, .int .i64 y.b.c3, .int .i64 y.b.c4, .int .i64 y.b.c5, .int .i64 y.w0, .int .i64 y.w1] (by rfl) (by rfl) (hT8.blk.news) (by simp [Value.oneCell']) (by omega) (by simp only [maxLen]; omega) (by omega) hM.sB.2.2 _ rfl ?_
        intro gg1 cap1 w7 hown1 hgrow1 hat1 hlt1
        have hM' := hM.app1 hown1 hgrow1 hat1
        have hX' := hX.app1 hgrow1 hat1 (s.l.length + 1) cap1
        have hX2' := hX2.app1 hgrow1 hat1 (s.l.length + 1) cap1
        have hT22' := hT22.app1 hgrow1 hat1 (s.l.length + 1) cap1
        clear hM hX hX2 hHeld hown1 hgrow1 hat1 hT8 hT22
        have hM := hM'
        have hX := hX'
        have hX2 := hX2'
        have hT22 := hT22'
        clear hM' hX' hX2' hT22'
        refine hK.out _ _ ?_ (fun hHeld => ?_)
        · exact ⟨hM.blk, hX.blk, hX2.blk⟩
        clear hK K
        try simp only [lay]
        refine two_ready (rs := [15]) (by kernel_rfl) (by kernel_rfl) (by simp) ?_
        refine AllReadyB.cons rfl (fun K hK => ?_) AllReadyB.nil
        go_simp
        have hM' := hM.alloc (.cells #[.int .i64 frm] 3)
        have hX' := hX.alloc (.cells #[.int .i64 frm] 3)
        have hX2' := hX2.alloc (.cells #[.int .i64 frm] 3)
        have hT22' := hT22.alloc (.cells #[.int .i64 frm] 3)
        have hT15 := hM.side 3 #[.int .i64 frm]
        clear hM hX hX2 hHeld hT22
        have hM := hM'
        have hX := hX'
        have hX2 := hX2'
        have hT22 := hT22'
        clear hM' hX' hX2' hT22'
        have hH7 : w7.heap.size < (w7.alloc (.cells #[.int .i64 frm] 3)).heap.size := by simp
        generalize w7.alloc (.cells #[.int .i64 frm] 3) = w8 at *
        refine hK.out _ _ ?_ (fun hHeld => ?_)
        · exact ⟨hM.blk, hX.blk, hX2.blk⟩
        clear hK K
        try simp only [lay]
        refine two_ready (rs := [16]) (by kernel_rfl) (by kernel_rfl) (by simp) ?_
        refine AllReadyB.cons rfl (fun K hK => ?_) AllReadyB.nil
        refine step_append_lies _ (by rfl) _ _ _ (by rfl) B 3 b0_ _ 1 8 Tryz.underlying49 bi bz0 bz1 bz2 rfl (by omega) v2 s.l.length (cellsOf s.l.length (frF s)) (by rfl) hM.r2 _ 1 1 [.int .i64 frm] (by rfl) (by rfl) (hT15.blk.news) (by simp [Value.oneCell']) (by omega) (by simp only [maxLen]; omega) (by omega) hM.sB.2.2 _ rfl ?_
        intro gg2 cap2 w9 hown2 hgrow2 hat2 hlt2
        have hM' := hM.app2 hown2 hgrow2 hat2
        have hX' := hX.app2 hgrow2 hat2 (s.l.length + 1) cap2
        have hX2' := hX2.app2 hgrow2 hat2 (s.l.length + 1) cap2
        have hT22' := hT22.app2 hgrow2 hat2 (s.l.length + 1) cap2
        clear hM hX hX2 hHeld hown2 hgrow2 hat2 hT22 hT15
        have hM := hM'
        have hX := hX'
        have hX2 := hX2'
        have hT22 := hT22'
        clear hM' hX' hX2' hT22'
        refine hK.out _ _ ?_ (fun hHeld => ?_)
        · exact ⟨hM.blk, hX.blk, hX2.blk⟩
        clear hK K
        try simp only [lay]
        refine two_ready (rs := [23]) (by kernel_rfl) (by kernel_rfl) (by simp) ?_
        refine AllReadyB.cons rfl (fun K hK => ?_) AllReadyB.nil
        refine step_append_lies _ (by rfl) _ _ _ (by rfl) B 30 c0_ _ 2 16 Tryz.underlying29 ci cz0 cz1 cz2 rfl (by omega) v3 s.l.length (cellsC 2 s.l.length (byF J s)) (by rfl) hM.r3 _ 1 1 [.int .i64 l0, .int .i64 l1] (by rfl) (by rfl) (hT22.blk.news) (by simp [Value.oneCell']) (by omega) (by simp only [maxLen]; omega) (by omega) hM.sB.2.2 _ rfl ?_
        intro gg3 cap3 w10 hown3 hgrow3 hat3 hlt3
        have hM' := hM.app3 hown3 hgrow3 hat3
        have hX' := hX.app3 hgrow3 hat3 (s.l.length + 1) cap3
        have hX2' := hX2.app3 hgrow3 hat3 (s.l.length + 1) cap3
        clear hM hX hX2 hHeld hown3 hgrow3 hat3 hT22
        have hM := hM'
        have hX := hX'
        have hX2 := hX2'
        clear hM' hX' hX2' 
        refine hK.out _ _ ?_ (fun hHeld => ?_)
        · exact ⟨hM.blk, hX.blk, hX2.blk⟩
        clear hK K
        try simp only [lay]
        refine p20 24 rfl ?_; try simp only [lay]
        refine p20 25 rfl ?_; try simp only [lay]
        have q1 := hM.blk.cell 1
        have q2 := hM.blk.cell 2
        have q3 := hM.blk.cell 3
        have p1 := hM.blk.frozen 1
        have p2 := hM.blk.frozen 2
        have p3 := hM.blk.frozen 3
        simp at q1 q2 q3
        refine two_ready (rs := [26]) (by kernel_rfl) (by kernel_rfl) (by simp) ?_
        refine AllReadyB.last rfl (fun K hK => ?_)
        go_simp
        refine hK.out _ _ ?_
        clear hK K
        try simp only [lay]
        refine two_late (by kernel_rfl) ?_
        refine la0 27 rfl ?_; try simp only [lay]
        refine la0 28 rfl ?_; try simp only [lay]
        refine wpAny_ready (rs := [29]) (by kernel_rfl) (by simp) ?_
        refine AllReady.cons' rfl (fun K hK => ?_) AllReady.nil
        go_simp
        refine hK.out _ _ ?_
        clear hK K
        try simp only [lay]
        refine la0 30 rfl ?_; try simp only [lay]
        refine la0 31 rfl ?_; try simp only [lay]
        refine wpAny_ready (rs := [32]) (by kernel_rfl) (by simp) ?_
        refine AllReady.cons' rfl (fun K hK => ?_) AllReady.nil
        go_simp
        refine hK.out _ _ ?_
        clear hK K
        try simp only [lay]
        refine wpAny_done (by kernel_rfl) ?_ _
        have hE := hM.store
        clear q1 q2 q3 p1 p2 p3 hM hX hX2
        generalize (((w10.setCell ⟨S, 1, none⟩ (.slice (some ⟨gg1, 0, none⟩) (s.l.length + 1) cap1)).setCell ⟨S, 2, none⟩ (.slice (some ⟨gg2, 0, none⟩) (s.l.length + 1) cap2)).setCell ⟨S, 3, none⟩ (.slice (some ⟨gg3, 0, none⟩) (s.l.length + 1) cap3)) = wz at *
        have e1 : wz.cell? ⟨S, 1, none⟩ = some (.slice (some ⟨gg1, 0, none⟩) (s.l.length + 1) cap1) := hE.blk.cell 1
        have eS := hE.blk.lt
        have HE := Lib.hid hE
        clear hE
        go_wp2
        go_ret2
        exact ⟨ret_pair (by omega), _, _, _, find_end HE.out (by rw [HP.out]) H0.out H1.out, HE.out.off, HE.out.fresh⟩
      ·
        go_simp
        have hM' := hM.alloc (.cells #[.int .i64 frm] 3)
        have hX' := hX.alloc (.cells #[.int .i64 frm] 3)
        have hX2' := hX2.alloc (.cells #[.int .i64 frm] 3)
        have hT8' := hT8.alloc (.cells #[.int .i64 frm] 3)
        have hT22' := hT22.alloc (.cells #[.int .i64 frm] 3)
        have hT15 := hM.side 3 #[.int .i64 frm]
        clear hM hX hX2 hHeld hT8 hT22
        have hM := hM'
        have hX := hX'
        have hX2 := hX2'
        have hT8 := hT8'
        have hT22 := hT22'
        clear hM' hX' hX2' hT8' hT22'
        have hH6 : w6.heap.size < (w6.alloc (.cells #[.int .i64 frm] 3)).heap.size := by simp
        generalize w6.alloc (.cells #[.int .i64 frm] 3) = w7 at *
        refine hK.out _ _ ?_ (fun hHeld => ?_)
        · exact ⟨hM.blk, hX.blk, hX2.blk⟩
        clear hK K
        try simp only [lay]
        refine two_ready (rs := [9]) (by kernel_rfl) (by kernel_rfl) (by simp) ?_
        refine AllReadyB.cons rfl (fun K hK => ?_) AllReadyB.nil
        refine step_append_lies _ (by rfl) _ _ _ (by rfl) B 44 a0_ _ 14 112 Tryz.underlying119 ai az0 az1 az2 rfl (by omega) v1 s.l.length (cellsC 14 s.l.length (stF s)) (by rfl) hM.r1 _ 1 1 [.int .i64 y.a.c0, .int .i64 y.a.c1, .int .i64 y.a.c2, .int .i64 y.a.c3, .int .i64 y.a.c4, .int .i64 y.a.c5, .int .i64 y.b.c0, .int .i64 y.b.c1, .int .i64 y.b.c2, .int .i64 y.b.c3, .int .i64 y.b.c4, .int .i64 y.b.c5, .int .i64 y.w0, .int .i64 y.w1] (by rfl) (by rfl) (hT8.blk.news) (by simp [Value.oneCell']) (by omega) (by simp only [maxLen]; omega) (by omega) hM.sB.2.2 _ rfl ?_
        intro gg1 cap1 w8 hown1 hgrow1 hat1 hlt1
        have hM' := hM.app1 hown1 hgrow1 hat1
        have hX' := hX.app1 hgrow1 hat1 (s.l.length + 1) cap1
        have hX2' := hX2.app1 hgrow1 hat1 (s.l.length + 1) cap1
        have hT22' := hT22.app1 hgrow1 hat1 (s.l.length + 1) cap1
        have hT15' := hT15.app1 hgrow1 hat1 (s.l.length + 1) cap1
        clear hM hX hX2 hHeld hown1 hgrow1 hat1 hT8 hT22 hT15
        have hM := hM'
        have hX := hX'
        have hX2 := hX2'
        have hT22 := hT22'
        have hT15 := hT15'
        clear hM' hX' hX2' hT22' hT15'
        refine hK.out _ _ ?_ (fun hHeld => ?_)
        · exact ⟨hM.blk, hX.blk, hX2.blk⟩
        clear hK K
        try simp only [lay]
        refine two_ready (rs := [16]) (by kernel_rfl) (by kernel_rfl) (by simp) ?_
        refine AllReadyB.cons rfl (fun K hK => ?_) AllReadyB.nil
        refine step_append_lies _ (by rfl) _ _ _ (by rfl) B 3 b0_ _ 1 8 Tryz.underlying49 bi bz0 bz1 bz2 rfl (by omega) v2 s.l.length (cellsOf s.l.length (frF s)) (by rfl) hM.r2 _ 1 1 [.int .i64 frm] (by rfl) (by rfl) (hT15.blk.news) (by simp [Value.oneCell']) (by omega) (by simp only [maxLen]; omega) (by omega) hM.sB.2.2 _ rfl ?_
        intro gg2 cap2 w9 hown2 hgrow2 hat2 hlt2
        have hM' := hM.app2 hown2 hgrow2 hat2
        have hX' := hX.app2 hgrow2 hat2 (s.l.length + 1) cap2
        have hX2' := hX2.app2 hgrow2 hat2 (s.l.length + 1) cap2
        have hT22' := hT22.app2 hgrow2 hat2 (s.l.length + 1) cap2
        clear hM hX hX2 hHeld hown2 hgrow2 hat2 hT22 hT15
        have hM := hM'
        have hX := hX'
        have hX2 := hX2'
        have hT22 := hT22'
        clear hM' hX' hX2' hT22'
        refine hK.out _ _ ?_ (fun hHeld => ?_)
        · exact ⟨hM.blk, hX.blk, hX2.blk⟩
        clear hK K
        try simp only [lay]
        refine two_ready (rs := [23]) (by kernel_rfl) (by kernel_rfl) (by simp) ?_
        refine AllReadyB.cons rfl (fun K hK => ?_) AllReadyB.nil
        refine step_append_lies _ (by rfl) _ _ _ (by rfl) B 30 c0_ _ 2 16 Tryz.underlying29 ci cz0 cz1 cz2 rfl (by omega) v3 s.l.length (cellsC 2 s.l.length (byF J s)) (by rfl) hM.r3 _ 1 1 [.int .i64 l0, .int .i64 l1] (by rfl) (by rfl) (hT22.blk.news) (by simp [Value.oneCell']) (by omega) (by simp only [maxLen]; omega) (by omega) hM.sB.2.2 _ rfl ?_
        intro gg3 cap3 w10 hown3 hgrow3 hat3 hlt3
        have hM' := hM.app3 hown3 hgrow3 hat3
        have hX' := hX.app3 hgrow3 hat3 (s.l.length + 1) cap3
        have hX2' := hX2.app3 hgrow3 hat3 (s.l.length + 1) cap3
        clear hM hX hX2 hHeld hown3 hgrow3 hat3 hT22
        have hM := hM'
        have hX := hX'
        have hX2 := hX2'
        clear hM' hX' hX2' 
        refine hK.out _ _ ?_ (fun hHeld => ?_)
        · exact ⟨hM.blk, hX.blk, hX2.blk⟩
        clear hK K
        try simp only [lay]
        refine p20 24 rfl ?_; try simp only [lay]
        refine p20 25 rfl ?_; try simp only [lay]
        have q1 := hM.blk.cell 1
        have q2 := hM.blk.cell 2
        have q3 := hM.blk.cell 3
        have p1 := hM.blk.frozen 1
        have p2 := hM.blk.frozen 2
        have p3 := hM.blk.frozen 3
        simp at q1 q2 q3
        refine two_ready (rs := [26]) (by kernel_rfl) (by kernel_rfl) (by simp) ?_
        refine AllReadyB.last rfl (fun K hK => ?_)
        go_simp
        refine hK.out _ _ ?_
        clear hK K
        try simp only [lay]
        refine two_late (by kernel_rfl) ?_
        refine la0 27 rfl ?_; try simp only [lay]
        refine la0 28 rfl ?_; try simp only [lay]
        refine wpAny_ready (rs := [29]) (by kernel_rfl) (by simp) ?_
        refine AllReady.cons' rfl (fun K hK => ?_) AllReady.nil
        go_simp
        refine hK.out _ _ ?_
        clear hK K
        try simp only [lay]
        refine la0 30 rfl ?_; try simp only [lay]
        refine la0 31 rfl ?_; try simp only [lay]
        refine wpAny_ready (rs := [32]) (by kernel_rfl) (by simp) ?_
        refine AllReady.cons' rfl (fun K hK => ?_) AllReady.nil
        go_simp
        refine hK.out _ _ ?_
        clear hK K
        try simp only [lay]
        refine wpAny_done (by kernel_rfl) ?_ _
        have hE := hM.store
        clear q1 q2 q3 p1 p2 p3 hM hX hX2
        generalize (((w10.setCell ⟨S, 1, none⟩ (.slice (some ⟨gg1, 0, none⟩) (s.l.length + 1) cap1)).setCell ⟨S, 2, none⟩ (.slice (some ⟨gg2, 0, none⟩) (s.l.length + 1) cap2)).setCell ⟨S, 3, none⟩ (.slice (some ⟨gg3, 0, none⟩) (s.l.length + 1) cap3)) = wz at *
        have e1 : wz.cell? ⟨S, 1, none⟩ = some (.slice (some ⟨gg1, 0, none⟩) (s.l.length + 1) cap1) := hE.blk.cell 1
        have eS := hE.blk.lt
        have HE := Lib.hid hE
        clear hE
        go_wp2
        go_ret2
        exact ⟨ret_pair (by omega), _, _, _, find_end HE.out (by rw [HP.out]) H0.out H1.out, HE.out.off, HE.out.fresh⟩
  ·
    go_simp
    have hM' := hM.alloc (.cells #[.int .i64 frm] 3)
    have hX' := hX.alloc (.cells #[.int .i64 frm] 3)
    have hX2' := hX2.alloc (.cells #[.int .i64 frm] 3)
    have hT15 := hM.side 3 #[.int .i64 frm]
    clear hM hX hX2 hHeld 
    have hM := hM'
    have hX := hX'
    have hX2 := hX2'
    clear hM' hX' hX2' 
    have hH4 : w4.heap.size < (w4.alloc (.cells #[.int .i64 frm] 3)).heap.size := by simp
    generalize w4.alloc (.cells #[.int .i64 frm] 3) = w5 at *
    refine hK.out _ _ ?_ (fun hHeld => ?_)
    · exact ⟨hM.blk, hX.blk, hX2.blk⟩
    clear hK K
    try simp only [lay]
    refine two_ready (rs := [8, 22]) (by kernel_rfl) (by kernel_rfl) (by simp) ?_
    refine AllReadyB.cons rfl (fun K hK => ?_) (AllReadyB.cons rfl (fun K hK => ?_) AllReadyB.nil)
    ·
      go_simp
      have hM' := hM.alloc (.cells #[.int .i64 y.a.c0, .int .i64 y.a.c1, .int .i64 y.a.c2, .int .i64 y.a.c3, .int .i64 y.a.c4, .int .i64 y.a.c5, .int .i64 y.b.c0, .int .i64 y.b.c1, .int .i64 y.b.c2, .int .i64 y.b.c3, .int .i64 y.b.c4, .int .i64 y.b.c5, .int .i64 y.w0, .int .i64 y.w1] 44)
      have hX' := hX.alloc (.cells #[.int .i64 y.a.c0, .int .i64 y.a.c1, .int .i64 y.a.c2, .int .i64 y.a.c3, .int .i64 y.a.c4, .int .i64 y.a.c5, .int .i64 y.b.c0, .int .i64 y.b.c1, .int .i64 y.b.c2, .int .i64 y.b.c3, .int .i64 y.b.c4, .int .i64 y.b.c5, .int .i64 y.w0, .int .i64 y.w1] 44)
      have hX2' := hX2.alloc (.cells #[.int .i64 y.a.c0, .int .i64 y.a.c1, .int .i64 y.a.c2, .int .i64 y.a.c3, .int .i64 y.a.c4, .int .i64 y.a.c5, .int .i64 y.b.c0, .int .i64 y.b.c1, .int .i64 y.b.c2, .int .i64 y.b.c3, .int .i64 y.b.c4, .int .i64 y.b.c5, .int .i64 y.w0, .int .i64 y.w1] 44)
      have hT15' := hT15.alloc (.cells #[.int .i64 y.a.c0, .int .i64 y.a.c1, .int .i64 y.a.c2, .int .i64 y.a.c3, .int .i64 y.a.c4, .int .i64 y.a.c5, .int .i64 y.b.c0, .int .i64 y.b.c1, .int .i64 y.b.c2, .int .i64 y.b.c3, .int .i64 y.b.c4, .int .i64 y.b.c5, .int .i64 y.w0, .int .i64 y.w1] 44)
      have hT8 := hM.side 44 #[.int .i64 y.a.c0, .int .i64 y.a.c1, .int .i64 y.a.c2, .int .i64 y.a.c3, .int .i64 y.a.c4, .int .i64 y.a.c5, .int .i64 y.b.c0, .int .i64 y.b.c1, .int .i64 y.b.c2, .int .i64 y.b.c3, .int .i64 y.b.c4, .int .i64 y.b.c5, .int .i64 y.w0, .int .i64 y.w1]
      clear hM hX hX2 hHeld hT15
      have hM := hM'
      have hX := hX'
      have hX2 := hX2'
      have hT15 := hT15'
      clear hM' hX' hX2' hT15'
      have hH5 : w5.heap.size < (w5.alloc (.cells #[.int .i64 y.a.c0, .int .i64 y.a.c1, .int .i64 y.a.c2, .int .i64 y.a.c3, .int .i64 y.a.c4, .int .i64 y.a.c5, .int .i64 y.b.c0, .int .i64 y.b.c1, .int .i64 y.b.c2, .int .i64 y.b.c3, .int .i64 y.b.c4, .int .i64 y.b.c5, .int .i64 y.w0, .int .i64 y.w1] 44)).heap.size := by simp
      generalize w5.alloc (.cells #[.int .i64 y.a.c0, .int .i64 y.a.c1, .int .i64 y.a.c2, .int .i64 y.a.c3, .int .i64 y.a.c4, .int .i64 y.a.c5, .int .i64 y.b.c0, .int .i64 y.b.c1, .int .i64 y.b.c2, .int .i64 y.b.c3, .int .i64 y.b.c4, .int .i64 y.b.c5, .int .i64 y.w0, .int .i64 y.w1] 44) = w6 at *
      refine hK.out _ _ ?_ (fun hHeld => ?_)
      · exact ⟨hM.blk, hX.blk, hX2.blk⟩
      clear hK K
      try simp only [lay]
      refine two_ready (rs := [9, 22]) (by kernel_rfl) (by kernel_rfl) (by simp) ?_
      refine AllReadyB.cons rfl (fun K hK => ?_) (AllReadyB.cons rfl (fun K hK => ?_) AllReadyB.nil)
      ·
        refine step_append_lies _ (by rfl) _ _ _ (by rfl) B 44 a0_ _ 14 112 Tryz.underlying119 ai az0 az1 az2 rfl (by omega) v1 s.l.length (cellsC 14 s.l.length (stF s)) (by rfl) hM.r1 _ 1 1 [.int .i64 y.a.c0, .int .i64 y.a.c1, .int .i64 y.a.c2, .int .i64 y.a.c3, .int .i64 y.a.c4, .int .i64 y.a.c5, .int .i64 y.b.c0, .int .i64 y.b.c1, .int .i64 y.b.c2, .int .i64 y.b.c3, .int .i64 y.b.c4, .int .i64 y.b.c5, .int .i64 y.w0, .int .i64 y.w1] (by rfl) (by rfl) (hT8.blk.news) (by simp [Value.oneCell']) (by omega) (by simp only [maxLen]; omega) (by omega) hM.sB.2.2 _ rfl ?_
        intro gg1 cap1 w7 hown1 hgrow1 hat1 hlt1
        have hM' := hM.app1 hown1 hgrow1 hat1
        have hX' := hX.app1 hgrow1 hat1 (s.l.length + 1) cap1
        have hX2' := hX2.app1 hgrow1 hat1 (s.l.length + 1) cap1
        have hT15' := hT15.app1 hgrow1 hat1 (s.l.length + 1) cap1
        clear hM hX hX2 hHeld hown1 hgrow1 hat1 hT15 hT8
        have hM := hM'
        have hX := hX'
        have hX2 := hX2'
        have hT15 := hT15'
        clear hM' hX' hX2' hT15'
        refine hK.out _ _ ?_ (fun hHeld => ?_)
        · exact ⟨hM.blk, hX.blk, hX2.blk⟩
        clear hK K
        try simp only [lay]
        refine two_ready (rs := [16, 22]) (by kernel_rfl) (by kernel_rfl) (by simp) ?_
        refine AllReadyB.cons rfl (fun K hK => ?_) (AllReadyB.cons rfl (fun K hK => ?_) AllReadyB.nil)
        ·
          refine step_append_lies _ (by rfl) _ _ _ (by rfl) B 3 b0_ _ 1 8 Tryz.underlying49 bi bz0 bz1 bz2 rfl (by omega) v2 s.l.length (cellsOf s.l.length (frF s)) (by rfl) hM.r2 _ 1 1 [.int .i64 frm] (by rfl) (by rfl) (hT15.blk.news) (by simp [Value.oneCell']) (by omega) (by simp only [maxLen]; omega) (by omega) hM.sB.2.2 _ rfl ?_
          intro gg2 cap2 w8 hown2 hgrow2 hat2 hlt2
          have hM' := hM.app2 hown2 hgrow2 hat2
          have hX' := hX.app2 hgrow2 hat2 (s.l.length + 1) cap2
          have hX2' := hX2.app2 hgrow2 hat2 (s.l.length + 1) cap2
          clear hM hX hX2 hHeld hown2 hgrow2 hat2 hT15
          have hM := hM'
          have hX := hX'
          have hX2 := hX2'
          clear hM' hX' hX2' 
          refine hK.out _ _ ?_ (fun hHeld => ?_)
          · exact ⟨hM.blk, hX.blk, hX2.blk⟩
          clear hK K
          try simp only [lay]
          refine two_ready (rs := [22]) (by kernel_rfl) (by kernel_rfl) (by simp) ?_
          refine AllReadyB.cons rfl (fun K hK => ?_) AllReadyB.nil
          go_simp
          have hM' := hM.alloc (.cells #[.int .i64 l0, .int .i64 l1] 30)
          have hX' := hX.alloc (.cells #[.int .i64 l0, .int .i64 l1] 30)
          have hX2' := hX2.alloc (.cells #[.int .i64 l0, .int .i64 l1] 30)
          have hT22 := hM.side 30 #[.int .i64 l0, .int .i64 l1]
          clear hM hX hX2 hHeld 
          have hM := hM'
          have hX := hX'
          have hX2 := hX2'
          clear hM' hX' hX2' 
          have hH8 : w8.heap.size < (w8.alloc (.cells #[.int .i64 l0, .int .i64 l1] 30)).heap.size := by simp
          generalize w8.alloc (.cells #[.int .i64 l0, .int .i64 l1] 30) = w9 at *
          refine hK.out _ _ ?_ (fun hHeld => ?_)
          · exact ⟨hM.blk, hX.blk, hX2.blk⟩
          clear hK K
          try simp only [lay]
          refine two_ready (rs := [23]) (by kernel_rfl) (by kernel_rfl) (by simp) ?_
          refine AllReadyB.cons rfl (fun K hK => ?_) AllReadyB.nil
          refine step_append_lies _ (by rfl) _ _ _ (by rfl) B 30 c0_ _ 2 16 Tryz.underlying29 ci cz0 cz1 cz2 rfl (by omega) v3 s.l.length (cellsC 2 s.l.length (byF J s)) (by rfl) hM.r3 _ 1 1 [.int .i64 l0, .int .i64 l1] (by rfl) (by rfl) (hT22.blk.news) (by simp [Value.oneCell']) (by omega) (by simp only [maxLen]; omega) (by omega) hM.sB.2.2 _ rfl ?_
          intro gg3 cap3 w10 hown3 hgrow3 hat3 hlt3
          have hM' := hM.app3 hown3 hgrow3 hat3
          have hX' := hX.app3 hgrow3 hat3 (s.l.length + 1) cap3
          have hX2' := hX2.app3 hgrow3 hat3 (s.l.length + 1) cap3
          clear hM hX hX2 hHeld hown3 hgrow3 hat3 hT22
          have hM := hM'
          have hX := hX'
          have hX2 := hX2'
          clear hM' hX' hX2' 
          refine hK.out _ _ ?_ (fun hHeld => ?_)
          · exact ⟨hM.blk, hX.blk, hX2.blk⟩
          clear hK K
          try simp only [lay]
          refine p20 24 rfl ?_; try simp only [lay]
          refine p20 25 rfl ?_; try simp only [lay]
          have q1 := hM.blk.cell 1
          have q2 := hM.blk.cell 2
          have q3 := hM.blk.cell 3
          have p1 := hM.blk.frozen 1
          have p2 := hM.blk.frozen 2
          have p3 := hM.blk.frozen 3
          simp at q1 q2 q3
          refine two_ready (rs := [26]) (by kernel_rfl) (by kernel_rfl) (by simp) ?_
          refine AllReadyB.last rfl (fun K hK => ?_)
          go_simp
          refine hK.out _ _ ?_
          clear hK K
          try simp only [lay]
          refine two_late (by kernel_rfl) ?_
          refine la0 27 rfl ?_; try simp only [lay]
          refine la0 28 rfl ?_; try simp only [lay]
          refine wpAny_ready (rs := [29]) (by kernel_rfl) (by simp) ?_
          refine AllReady.cons' rfl (fun K hK => ?_) AllReady.nil
          go_simp
          refine hK.out _ _ ?_
          clear hK K
          try simp only [lay]
          refine la0 30 rfl ?_; try simp only [lay]
          refine la0 31 rfl ?_; try simp only [lay]
          refine wpAny_ready (rs := [32]) (by kernel_rfl) (by simp) ?_
          refine AllReady.cons' rfl (fun K hK => ?_) AllReady.nil
          go_simp
          refine hK.out _ _ ?_
          clear hK K
          try simp only [lay]
          refine wpAny_done (by kernel_rfl) ?_ _
          have hE := hM.store
          clear q1 q2 q3 p1 p2 p3 hM hX hX2
          generalize (((w10.setCell ⟨S, 1, none⟩ (.slice (some ⟨gg1, 0, none⟩) (s.l.length + 1) cap1)).setCell ⟨S, 2, none⟩ (.slice (some ⟨gg2, 0, none⟩) (s.l.length + 1) cap2)).setCell ⟨S, 3, none⟩ (.slice (some ⟨gg3, 0, none⟩) (s.l.length + 1) cap3)) = wz at *
          have e1 : wz.cell? ⟨S, 1, none⟩ = some (.slice (some ⟨gg1, 0, none⟩) (s.l.length + 1) cap1) := hE.blk.cell 1
          have eS := hE.blk.lt
          have HE := Lib.hid hE
          clear hE
          go_wp2
          go_ret2
          exact ⟨ret_pair (by omega), _, _, _, find_end HE.out (by rw [HP.out]) H0.out H1.out, HE.out.off, HE.out.fresh⟩
        ·
          go_simp
          have hM' := hM.alloc (.cells #[.int .i64 l0, .int .i64 l1] 30)
          have hX' := hX.alloc (.cells #[.int .i64 l0, .int .i64 l1] 30)
          have hX2' := hX2.alloc (.cells #[.int .i64 l0, .int .i64 l1] 30)
          have hT15' := hT15.alloc (.cells #[.int .i64 l0, .int .i64 l1] 30)
          have hT22 := hM.side 30 #[.int .i64 l0, .int .i64 l1]
          clear hM hX hX2 hHeld hT15
          have hM := hM'
          have hX := hX'
          have hX2 := hX2'
          have hT15 := hT15'
          clear hM' hX' hX2' hT15'
          have hH7 : w7.heap.size < (w7.alloc (.cells #[.int .i64 l0, .int .i64 l1] 30)).heap.size := by simp
          generalize w7.alloc (.cells #[.int .i64 l0, .int .i64 l1] 30) = w8 at *
          refine hK.out _ _ ?_ (fun hHeld => ?_)
          · exact ⟨hM.blk, hX.blk, hX2.blk⟩
          clear hK K
          try simp only [lay]
          refine two_ready (rs := [16]) (by kernel_rfl) (by kernel_rfl) (by simp) ?_
          refine AllReadyB.cons rfl (fun K hK => ?_) AllReadyB.nil
          refine step_append_lies _ (by rfl) _ _ _ (by rfl) B 3 b0_ _ 1 8 Tryz.underlying49 bi bz0 bz1 bz2 rfl (by omega) v2 s.l.length (cellsOf s.l.length (frF s)) (by rfl) hM.r2 _ 1 1 [.int .i64 frm] (by rfl) (by rfl) (hT15.blk.news) (by simp [Value.oneCell']) (by omega) (by simp only [maxLen]; omega) (by omega) hM.sB.2.2 _ rfl ?_
          intro gg2 cap2 w9 hown2 hgrow2 hat2 hlt2
          have hM' := hM.app2 hown2 hgrow2 hat2
          have hX' := hX.app2 hgrow2 hat2 (s.l.length + 1) cap2
          have hX2' := hX2.app2 hgrow2 hat2 (s.l.length + 1) cap2
          have hT22' := hT22.app2 hgrow2 hat2 (s.l.length + 1) cap2
          clear hM hX hX2 hHeld hown2 hgrow2 hat2 hT15 hT22
          have hM := hM'
          have hX := hX'
          have hX2 := hX2'
          have hT22 := hT22'
          clear hM' hX' hX2' hT22'
          refine hK.out _ _ ?_ (fun hHeld => ?_)
          · exact ⟨hM.blk, hX.blk, hX2.blk⟩
          clear hK K
          try simp only [lay]
          refine two_ready (rs := [23]) (by kernel_rfl) (by kernel_rfl) (by simp) ?_
          refine AllReadyB.cons rfl (fun K hK => ?_) AllReadyB.nil
          refine step_append_lies _ (by rfl) _ _ _ (by rfl) B 30 c0_ _ 2 16 Tryz.underlying29 ci cz0 cz1 cz2 rfl (by omega) v3 s.l.length (cellsC 2 s.l.length (byF J s)) (by rfl) hM.r3 _ 1 1 [.int .i64 l0, .int .i64 l1] (by rfl) (by rfl) (hT22.blk.news) (by simp [Value.oneCell']) (by omega) (by simp only [maxLen]; omega) (by omega) hM.sB.2.2 _ rfl ?_
          intro gg3 cap3 w10 hown3 hgrow3 hat3 hlt3
          have hM' := hM.app3 hown3 hgrow3 hat3
          have hX' := hX.app3 hgrow3 hat3 (s.l.length + 1) cap3
          have hX2' := hX2.app3 hgrow3 hat3 (s.l.length + 1) cap3
          clear hM hX hX2 hHeld hown3 hgrow3 hat3 hT22
          have hM := hM'
          have hX := hX'
          have hX2 := hX2'
          clear hM' hX' hX2' 
          refine hK.out _ _ ?_ (fun hHeld => ?_)
          · exact ⟨hM.blk, hX.blk, hX2.blk⟩
          clear hK K
          try simp only [lay]
          refine p20 24 rfl ?_; try simp only [lay]
          refine p20 25 rfl ?_; try simp only [lay]
          have q1 := hM.blk.cell 1
          have q2 := hM.blk.cell 2
          have q3 := hM.blk.cell 3
          have p1 := hM.blk.frozen 1
          have p2 := hM.blk.frozen 2
          have p3 := hM.blk.frozen 3
          simp at q1 q2 q3
          refine two_ready (rs := [26]) (by kernel_rfl) (by kernel_rfl) (by simp) ?_
          refine AllReadyB.last rfl (fun K hK => ?_)
          go_simp
          refine hK.out _ _ ?_
          clear hK K
          try simp only [lay]
          refine two_late (by kernel_rfl) ?_
          refine la0 27 rfl ?_; try simp only [lay]
          refine la0 28 rfl ?_; try simp only [lay]
          refine wpAny_ready (rs := [29]) (by kernel_rfl) (by simp) ?_
          refine AllReady.cons' rfl (fun K hK => ?_) AllReady.nil
          go_simp
          refine hK.out _ _ ?_
          clear hK K
          try simp only [lay]
          refine la0 30 rfl ?_; try simp only [lay]
          refine la0 31 rfl ?_; try simp only [lay]
          refine wpAny_ready (rs := [32]) (by kernel_rfl) (by simp) ?_
          refine AllReady.cons' rfl (fun K hK => ?_) AllReady.nil
          go_simp
          refine hK.out _ _ ?_
          clear hK K
          try simp only [lay]
          refine wpAny_done (by kernel_rfl) ?_ _
          have hE := hM.store
          clear q1 q2 q3 p1 p2 p3 hM hX hX2
          generalize (((w10.setCell ⟨S, 1, none⟩ (.slice (some ⟨gg1, 0, none⟩) (s.l.length + 1) cap1)).setCell ⟨S, 2, none⟩ (.slice (some ⟨gg2, 0, none⟩) (s.l.length + 1) cap2)).setCell ⟨S, 3, none⟩ (.slice (some ⟨gg3, 0, none⟩) (s.l.length + 1) cap3)) = wz at *
          have e1 : wz.cell? ⟨S, 1, none⟩ = some (.slice (some ⟨gg1, 0, none⟩) (s.l.length + 1) cap1) := hE.blk.cell 1
          have eS := hE.blk.lt
          have HE := Lib.hid hE
          clear hE
          go_wp2
          go_ret2
          exact ⟨ret_pair (by omega), _, _, _, find_end HE.out (by rw [HP.out]) H0.out H1.out, HE.out.off, HE.out.fresh⟩
      ·
        go_simp
        have hM' := hM.alloc (.cells #[.int .i64 l0, .int .i64 l1] 30)
        have hX' := hX.alloc (.cells #[.int .i64 l0, .int .i64 l1] 30)
        have hX2' := hX2.alloc (.cells #[.int .i64 l0, .int .i64 l1] 30)
        have hT15' := hT15.alloc (.cells #[.int .i64 l0, .int .i64 l1] 30)
        have hT8' := hT8.alloc (.cells #[.int .i64 l0, .int .i64 l1] 30)
        have hT22 := hM.side 30 #[.int .i64 l0, .int .i64 l1]
        clear hM hX hX2 hHeld hT15 hT8
        have hM := hM'
        have hX := hX'
        have hX2 := hX2'
        have hT15 := hT15'
        have hT8 := hT8'
        clear hM' hX' hX2' hT15' hT8'
        have hH6 : w6.heap.size < (w6.alloc (.cells #[.int .i64 l0, .int .i64 l1] 30)).heap.size := by simp
        generalize w6.alloc (.cells #[.int .i64 l0, .int .i64 l1] 30) = w7 at *
        refine hK.out _ _ ?_ (fun hHeld => ?_)
        · exact ⟨hM.blk, hX.blk, hX2.blk⟩
        clear hK K
        try simp only [lay]
        refine two_ready (rs := [9]) (by kernel_rfl) (by kernel_rfl) (by simp) ?_
        refine AllReadyB.cons rfl (fun K hK => ?_) AllReadyB.nil
        refine step_append_lies _ (by rfl) _ _ _ (by rfl) B 44 a0_ _ 14 112 Tryz.underlying119 ai az0 az1 az2 rfl (by omega) v1 s.l.length (cellsC 14 s.l.length (stF s)) (by rfl) hM.r1 _ 1 1 [.int .i64 y.a.c0, .int .i64 y.a.c1, .int .i64 y.a.c2, .int .i64 y.a.c3, .int .i64 y.a.c4, .int .i64 y.a.c5, .int .i64 y.b.c0, .int .i64 y.b.c1, .int .i64 y.b.c2, .int .i64 y.b.c3, .int .i64 y.b.c4, .int .i64 y.b.c5, .int .i64 y.w0, .int .i64 y.w1] (by rfl) (by rfl) (hT8.blk.news) (by simp [Value.oneCell']) (by omega) (by simp only [maxLen]; omega) (by omega) hM.sB.2.2 _ rfl ?_
        intro gg1 cap1 w8 hown1 hgrow1 hat1 hlt1
        have hM' := hM.app1 hown1 hgrow1 hat1
        have hX' := hX.app1 hgrow1 hat1 (s.l.length + 1) cap1
        have hX2' := hX2.app1 hgrow1 hat1 (s.l.length + 1) cap1
        have hT15' := hT15.app1 hgrow1 hat1 (s.l.length + 1) cap1
        have hT22' := hT22.app1 hgrow1 hat1 (s.l.length + 1) cap1
        clear hM hX hX2 hHeld hown1 hgrow1 hat1 hT15 hT8 hT22
        have hM := hM'
        have hX := hX'
        have hX2 := hX2'
        have hT15 := hT15'
        have hT22 := hT22'
        clear hM' hX' hX2' hT15' hT22'
        refine hK.out _ _ ?_ (fun hHeld => ?_)
        · exact ⟨hM.blk, hX.blk, hX2.blk⟩
        clear hK K
        try simp only [lay]
        refine two_ready (rs := [16]) (by kernel_rfl) (by kernel_rfl) (by simp) ?_
        refine AllReadyB.cons rfl (fun K hK => ?_) AllReadyB.nil
        refine step_append_lies _ (by rfl) _ _ _ (by rfl) B 3 b0_ _ 1 8 Tryz.underlying49 bi bz0 bz1 bz2 rfl (by omega) v2 s.l.length (cellsOf s.l.length (frF s)) (by rfl) hM.r2 _ 1 1 [.int .i64 frm] (by rfl) (by rfl) (hT15.blk.news) (by simp [Value.oneCell']) (by omega) (by simp only [maxLen]; omega) (by omega) hM.sB.2.2 _ rfl ?_
        intro gg2 cap2 w9 hown2 hgrow2 hat2 hlt2
        have hM' := hM.app2 hown2 hgrow2 hat2
        have hX' := hX.app2 hgrow2 hat2 (s.l.length + 1) cap2
        have hX2' := hX2.app2 hgrow2 hat2 (s.l.length + 1) cap2
        have hT22' := hT22.app2 hgrow2 hat2 (s.l.length + 1) cap2
        clear hM hX hX2 hHeld hown2 hgrow2 hat2 hT15 hT22
        have hM := hM'
        have hX := hX'
        have hX2 := hX2'
        have hT22 := hT22'
        clear hM' hX' hX2' hT22'
        refine hK.out _ _ ?_ (fun hHeld => ?_)
        · exact ⟨hM.blk, hX.blk, hX2.blk⟩
        clear hK K
        try simp only [lay]
        refine two_ready (rs := [23]) (by kernel_rfl) (by kernel_rfl) (by simp) ?_
        refine AllReadyB.cons rfl (fun K hK => ?_) AllReadyB.nil
        refine step_append_lies _ (by rfl) _ _ _ (by rfl) B 30 c0_ _ 2 16 Tryz.underlying29 ci cz0 cz1 cz2 rfl (by omega) v3 s.l.length (cellsC 2 s.l.length (byF J s)) (by rfl) hM.r3 _ 1 1 [.int .i64 l0, .int .i64 l1] (by rfl) (by rfl) (hT22.blk.news) (by simp [Value.oneCell']) (by omega) (by simp only [maxLen]; omega) (by omega) hM.sB.2.2 _ rfl ?_
        intro gg3 cap3 w10 hown3 hgrow3 hat3 hlt3
        have hM' := hM.app3 hown3 hgrow3 hat3
        have hX' := hX.app3 hgrow3 hat3 (s.l.length + 1) cap3
        have hX2' := hX2.app3 hgrow3 hat3 (s.l.length + 1) cap3
        clear hM hX hX2 hHeld hown3 hgrow3 hat3 hT22
        have hM := hM'
        have hX := hX'
        have hX2 := hX2'
        clear hM' hX' hX2' 
        refine hK.out _ _ ?_ (fun hHeld => ?_)
        · exact ⟨hM.blk, hX.blk, hX2.blk⟩
        clear hK K
        try simp only [lay]
        refine p20 24 rfl ?_; try simp only [lay]
        refine p20 25 rfl ?_; try simp only [lay]
        have q1 := hM.blk.cell 1
        have q2 := hM.blk.cell 2
        have q3 := hM.blk.cell 3
        have p1 := hM.blk.frozen 1
        have p2 := hM.blk.frozen 2
        have p3 := hM.blk.frozen 3
        simp at q1 q2 q3
        refine two_ready (rs := [26]) (by kernel_rfl) (by kernel_rfl) (by simp) ?_
        refine AllReadyB.last rfl (fun K hK => ?_)
        go_simp
        refine hK.out _ _ ?_
        clear hK K
        try simp only [lay]
        refine two_late (by kernel_rfl) ?_
        refine la0 27 rfl ?_; try simp only [lay]
        refine la0 28 rfl ?_; try simp only [lay]
        refine wpAny_ready (rs := [29]) (by kernel_rfl) (by simp) ?_
        refine AllReady.cons' rfl (fun K hK => ?_) AllReady.nil
        go_simp
        refine hK.out _ _ ?_
        clear hK K
        try simp only [lay]
        refine la0 30 rfl ?_; try simp only [lay]
        refine la0 31 rfl ?_; try simp only [lay]
        refine wpAny_ready (rs := [32]) (by kernel_rfl) (by simp) ?_
        refine AllReady.cons' rfl (fun K hK => ?_) AllReady.nil
        go_simp
        refine hK.out _ _ ?_
        clear hK K
        try simp only [lay]
        refine wpAny_done (by kernel_rfl) ?_ _
        have hE := hM.store
        clear q1 q2 q3 p1 p2 p3 hM hX hX2
        generalize (((w10.setCell ⟨S, 1, none⟩ (.slice (some ⟨gg1, 0, none⟩) (s.l.length + 1) cap1)).setCell ⟨S, 2, none⟩ (.slice (some ⟨gg2, 0, none⟩) (s.l.length + 1) cap2)).setCell ⟨S, 3, none⟩ (.slice (some ⟨gg3, 0, none⟩) (s.l.length + 1) cap3)) = wz at *
        have e1 : wz.cell? ⟨S, 1, none⟩ = some (.slice (some ⟨gg1, 0, none⟩) (s.l.length + 1) cap1) := hE.blk.cell 1
        have eS := hE.blk.lt
        have HE := Lib.hid hE
        clear hE
        go_wp2
        go_ret2
        exact ⟨ret_pair (by omega), _, _, _, find_end HE.out (by rw [HP.out]) H0.out H1.out, HE.out.off, HE.out.fresh⟩
    ·
      go_simp
      have hM' := hM.alloc (.cells #[.int .i64 l0, .int .i64 l1] 30)
      have hX' := hX.alloc (.cells #[.int .i64 l0, .int .i64 l1] 30)
      have hX2' := hX2.alloc (.cells #[.int .i64 l0, .int .i64 l1] 30)
      have hT15' := hT15.alloc (.cells #[.int .i64 l0, .int .i64 l1] 30)
      have hT22 := hM.side 30 #[.int .i64 l0, .int .i64 l1]
      clear hM hX hX2 hHeld hT15
      have hM := hM'
      have hX := hX'
      have hX2 := hX2'
      have hT15 := hT15'
      clear hM' hX' hX2' hT15'
      have hH5 : w5.heap.size < (w5.alloc (.cells #[.int .i64 l0, .int .i64 l1] 30)).heap.size := by simp
      generalize w5.alloc (.cells #[.int .i64 l0, .int .i64 l1] 30) = w6 at *
      refine hK.out _ _ ?_ (fun hHeld => ?_)
      · exact ⟨hM.blk, hX.blk, hX2.blk⟩
      clear hK K
      try simp only [lay]
      refine two_ready (rs := [8]) (by kernel_rfl) (by kernel_rfl) (by simp) ?_
      refine AllReadyB.cons rfl (fun K hK => ?_) AllReadyB.nil
      go_simp
      have hM' := hM.alloc (.cells #[.int .i64 y.a.c0, .int .i64 y.a.c1, .int .i64 y.a.c2, .int .i64 y.a.c3, .int .i64 y.a.c4, .int .i64 y.a.c5, .int .i64 y.b.c0, .int .i64 y.b.c1, .int .i64 y.b.c2, .int .i64 y.b.c3, .int .i64 y.b.c4, .int .i64 y.b.c5, .int .i64 y.w0, .int .i64 y.w1] 44)
      have hX' := hX.alloc (.cells #[.int .i64 y.a.c0, .int .i64 y.a.c1, .int .i64 y.a.c2, .int .i64 y.a.c3, .int .i64 y.a.c4, .int .i64 y.a.c5, .int .i64 y.b.c0, .int .i64 y.b.c1, .int .i64 y.b.c2, .int .i64 y.b.c3, .int .i64 y.b.c4, .int .i64 y.b.c5, .int .i64 y.w0, .int .i64 y.w1] 44)
      have hX2' := hX2.alloc (.cells #[.int .i64 y.a.c0, .int .i64 y.a.c1, .int .i64 y.a.c2, .int .i64 y.a.c3, .int .i64 y.a.c4, .int .i64 y.a.c5, .int .i64 y.b.c0, .int .i64 y.b.c1, .int .i64 y.b.c2, .int .i64 y.b.c3, .int .i64 y.b.c4, .int .i64 y.b.c5, .int .i64 y.w0, .int .i64 y.w1] 44)
      have hT15' := hT15.alloc (.cells #[.int .i64 y.a.c0, .int .i64 y.a.c1, .int .i64 y.a.c2, .int .i64 y.a.c3, .int .i64 y.a.c4, .int .i64 y.a.c5, .int .i64 y.b.c0, .int .i64 y.b.c1, .int .i64 y.b.c2, .int .i64 y.b.c3, .int .i64 y.b.c4, .int .i64 y.b.c5, .int .i64 y.w0, .int .i64 y.w1] 44)
      have hT22' := hT22.alloc (.cells #[.int .i64 y.a.c0, .int .i64 y.a.c1, .int .i64 y.a.c2, .int .i64 y.a.c3, .int .i64 y.a.c4, .int .i64 y.a.c5, .int .i64 y.b.c0, .int .i64 y.b.c1, .int .i64 y.b.c2, .int .i64 y.b.c3, .int .i64 y.b.c4, .int .i64 y.b.c5, .int .i64 y.w0, .int .i64 y.w1] 44)
      have hT8 := hM.side 44 #[.int .i64 y.a.c0, .int .i64 y.a.c1, .int .i64 y.a.c2, .int .i64 y.a.c3, .int .i64 y.a.c4, .int .i64 y.a.c5, .int .i64 y.b.c0, .int .i64 y.b.c1, .int .i64 y.b.c2, .int .i64 y.b.c3, .int .i64 y.b.c4, .int .i64 y.b.c5, .int .i64 y.w0, .int .i64 y.w1]
      clear hM hX hX2 hHeld hT15 hT22
      have hM := hM'
      have hX := hX'
      have hX2 := hX2'
      have hT15 := hT15'
      have hT22 := hT22'
      clear hM' hX' hX2' hT15' hT22'
      have hH6 : w6.heap.size < (w6.alloc (.cells #[.int .i64 y.a.c0, .int .i64 y.a.c1, .int .i64 y.a.c2, .int .i64 y.a.c3, .int .i64 y.a.c4, .int .i64 y.a.c5, .int .i64 y.b.c0, .int .i64 y.b.c1, .int .i64 y.b.c2, .int .i64 y.b.c3, .int .i64 y.b.c4, .int .i64 y.b.c5, .int .i64 y.w0, .int .i64 y.w1] 44)).heap.size := by simp
      generalize w6.alloc (.cells #[.int .i64 y.a.c0, .int .i64 y.a.c1, .int .i64 y.a.c2, .int .i64 y.a.c3, .int .i64 y.a.c4, .int .i64 y.a.c5, .int .i64 y.b.c0, .int .i64 y.b.c1, .int .i64 y.b.c2, .int .i64 y.b.c3, .int .i64 y.b.c4, .int .i64 y.b.c5, .int .i64 y.w0, .int .i64 y.w1] 44) = w7 at *
      refine hK.out _ _ ?_ (fun hHeld => ?_)
      · exact ⟨hM.blk, hX.blk, hX2.blk⟩
      clear hK K
      try simp only [lay]
      refine two_ready (rs := [9]) (by kernel_rfl) (by kernel_rfl) (by simp) ?_
      refine AllReadyB.cons rfl (fun K hK => ?_) AllReadyB.nil
      refine step_append_lies _ (by rfl) _ _ _ (by rfl) B 44 a0_ _ 14 112 Tryz.underlying119 ai az0 az1 az2 rfl (by omega) v1 s.l.length (cellsC 14 s.l.length (stF s)) (by rfl) hM.r1 _ 1 1 [.int .i64 y.a.c0, .int .i64 y.a.c1, .int .i64 y.a.c2, .int .i64 y.a.c3, .int .i64 y.a.c4, .int .i64 y.a.c5, .int .i64 y.b.c0, .int .i64 y.b.c1, .int .i64 y.b.c2, .int .i64 y.b.c3, .int .i64 y.b.c4, .int .i64 y.b.c5, .int .i64 y.w0, .int .i64 y.w1] (by rfl) (by rfl) (hT8.blk.news) (by simp [Value.oneCell']) (by omega) (by simp only [maxLen]; omega) (by omega) hM.sB.2.2 _ rfl ?_
      intro gg1 cap1 w8 hown1 hgrow1 hat1 hlt1
      have hM' := hM.app1 hown1 hgrow1 hat1
      have hX' := hX.app1 hgrow1 hat1 (s.l.length + 1) cap1
      have hX2' := hX2.app1 hgrow1 hat1 (s.l.length + 1) cap1
      have hT15' := hT15.app1 hgrow1 hat1 (s.l.length + 1) cap1
      have hT22' := hT22.app1 hgrow1 hat1 (s.l.length + 1) cap1
      clear hM hX hX2 hHeld hown1 hgrow1 hat1 hT15 hT22 hT8
      have hM := hM'
      have hX := hX'
      have hX2 := hX2'
      have hT15 := hT15'
      have hT22 := hT22'
      clear hM' hX' hX2' hT15' hT22'
      refine hK.out _ _ ?_ (fun hHeld => ?_)
      · exact ⟨hM.blk, hX.blk, hX2.blk⟩
      clear hK K
      try simp only [lay]
      refine two_ready (rs := [16]) (by kernel_rfl) (by kernel_rfl) (by simp) ?_
      refine AllReadyB.cons rfl (fun K hK => ?_) AllReadyB.nil
      refine step_append_lies _ (by rfl) _ _ _ (by rfl) B 3 b0_ _ 1 8 Tryz.underlying49 bi bz0 bz1 bz2 rfl (by omega) v2 s.l.length (cellsOf s.l.length (frF s)) (by rfl) hM.r2 _ 1 1 [.int .i64 frm] (by rfl) (by rfl) (hT15.blk.news) (by simp [Value.oneCell']) (by omega) (by simp only [maxLen]; omega) (by omega) hM.sB.2.2 _ rfl ?_
      intro gg2 cap2 w9 hown2 hgrow2 hat2 hlt2
      have hM' := hM.app2 hown2 hgrow2 hat2
      have hX' := hX.app2 hgrow2 hat2 (s.l.length + 1) cap2
      have hX2' := hX2.app2 hgrow2 hat2 (s.l.length + 1) cap2
      have hT22' := hT22.app2 hgrow2 hat2 (s.l.length + 1) cap2
      clear hM hX hX2 hHeld hown2 hgrow2 hat2 hT15 hT22
      have hM := hM'
      have hX := hX'
      have hX2 := hX2'
      have hT22 := hT22'
      clear hM' hX' hX2' hT22'
      refine hK.out _ _ ?_ (fun hHeld => ?_)
      · exact ⟨hM.blk, hX.blk, hX2.blk⟩
      clear hK K
      try simp only [lay]
      refine two_ready (rs := [23]) (by kernel_rfl) (by kernel_rfl) (by simp) ?_
      refine AllReadyB.cons rfl (fun K hK => ?_) AllReadyB.nil
      refine step_append_lies _ (by rfl) _ _ _ (by rfl) B 30 c0_ _ 2 16 Tryz.underlying29 ci cz0 cz1 cz2 rfl (by omega) v3 s.l.length (cellsC 2 s.l.length (byF J s)) (by rfl) hM.r3 _ 1 1 [.int .i64 l0, .int .i64 l1] (by rfl) (by rfl) (hT22.blk.news) (by simp [Value.oneCell']) (by omega) (by simp only [maxLen]; omega) (by omega) hM.sB.2.2 _ rfl ?_
      intro gg3 cap3 w10 hown3 hgrow3 hat3 hlt3
      have hM' := hM.app3 hown3 hgrow3 hat3
      have hX' := hX.app3 hgrow3 hat3 (s.l.length + 1) cap3
      have hX2' := hX2.app3 hgrow3 hat3 (s.l.length + 1) cap3
      clear hM hX hX2 hHeld hown3 hgrow3 hat3 hT22
      have hM := hM'
      have hX := hX'
      have hX2 := hX2'
      clear hM' hX' hX2' 
      refine hK.out _ _ ?_ (fun hHeld => ?_)
      · exact ⟨hM.blk, hX.blk, hX2.blk⟩
      clear hK K
      try simp only [lay]
      refine p20 24 rfl ?_; try simp only [lay]
      refine p20 25 rfl ?_; try simp only [lay]
      have q1 := hM.blk.cell 1
      have q2 := hM.blk.cell 2
      have q3 := hM.blk.cell 3
      have p1 := hM.blk.frozen 1
      have p2 := hM.blk.frozen 2
      have p3 := hM.blk.frozen 3
      simp at q1 q2 q3
      refine two_ready (rs := [26]) (by kernel_rfl) (by kernel_rfl) (by simp) ?_
      refine AllReadyB.last rfl (fun K hK => ?_)
      go_simp
      refine hK.out _ _ ?_
      clear hK K
      try simp only [lay]
      refine two_late (by kernel_rfl) ?_
      refine la0 27 rfl ?_; try simp only [lay]
      refine la0 28 rfl ?_; try simp only [lay]
      refine wpAny_ready (rs := [29]) (by kernel_rfl) (by simp) ?_
      refine AllReady.cons' rfl (fun K hK => ?_) AllReady.nil
      go_simp
      refine hK.out _ _ ?_
      clear hK K
      try simp only [lay]
      refine la0 30 rfl ?_; try simp only [lay]
      refine la0 31 rfl ?_; try simp only [lay]
      refine wpAny_ready (rs := [32]) (by kernel_rfl) (by simp) ?_
      refine AllReady.cons' rfl (fun K hK => ?_) AllReady.nil
      go_simp
      refine hK.out _ _ ?_
      clear hK K
      try simp only [lay]
      refine wpAny_done (by kernel_rfl) ?_ _
      have hE := hM.store
      clear q1 q2 q3 p1 p2 p3 hM hX hX2
      generalize (((w10.setCell ⟨S, 1, none⟩ (.slice (some ⟨gg1, 0, none⟩) (s.l.length + 1) cap1)).setCell ⟨S, 2, none⟩ (.slice (some ⟨gg2, 0, none⟩) (s.l.length + 1) cap2)).setCell ⟨S, 3, none⟩ (.slice (some ⟨gg3, 0, none⟩) (s.l.length + 1) cap3)) = wz at *
      have e1 : wz.cell? ⟨S, 1, none⟩ = some (.slice (some ⟨gg1, 0, none⟩) (s.l.length + 1) cap1) := hE.blk.cell 1
      have eS := hE.blk.lt
      have HE := Lib.hid hE
      clear hE
      go_wp2
      go_ret2
      exact ⟨ret_pair (by omega), _, _, _, find_end HE.out (by rw [HP.out]) H0.out H1.out, HE.out.off, HE.out.fresh⟩
  ·
    go_simp
    have hM' := hM.alloc (.cells #[.int .i64 l0, .int .i64 l1] 30)
    have hX' := hX.alloc (.cells #[.int .i64 l0, .int .i64 l1] 30)
    have hX2' := hX2.alloc (.cells #[.int .i64 l0, .int .i64 l1] 30)
    have hT22 := hM.side 30 #[.int .i64 l0, .int .i64 l1]
    clear hM hX hX2 hHeld 
    have hM := hM'
    have hX := hX'
    have hX2 := hX2'
    clear hM' hX' hX2' 
    have hH4 : w4.heap.size < (w4.alloc (.cells #[.int .i64 l0, .int .i64 l1] 30)).heap.size := by simp
    generalize w4.alloc (.cells #[.int .i64 l0, .int .i64 l1] 30) = w5 at *
    refine hK.out _ _ ?_ (fun hHeld => ?_)
    · exact ⟨hM.blk, hX.blk, hX2.blk⟩
    clear hK K
    try simp only [lay]
    refine two_ready (rs := [8, 15]) (by kernel_rfl) (by kernel_rfl) (by simp) ?_
    refine AllReadyB.cons rfl (fun K hK => ?_) (AllReadyB.cons rfl (fun K hK => ?_) AllReadyB.nil)
    ·
      go_simp
      have hM' := hM.alloc (.cells #[.int .i64 y.a.c0, .int .i64 y.a.c1, .int .i64 y.a.c2, .int .i64 y.a.c3, .int .i64 y.a.c4, .int .i64 y.a.c5, .int .i64 y.b.c0, .int .i64 y.b.c1, .int .i64 y.b.c2, .int .i64 y.b.c3, .int .i64 y.b.c4, .int .i64 y.b.c5, .int .i64 y.w0, .int .i64 y.w1] 44)
      have hX' := hX.alloc (.cells #[.int .i64 y.a.c0, .int .i64 y.a.c1, .int .i64 y.a.c2, .int .i64 y.a.c3, .int .i64 y.a.c4, .int .i64 y.a.c5, .int .i64 y.b.c0, .int .i64 y.b.c1, .int .i64 y.b.c2, .int .i64 y.b.c3, .int .i64 y.b.c4, .int .i64 y.b.c5, .int .i64 y.w0, .int .i64 y.w1] 44)
      have hX2' := hX2.alloc (.cells #[.int .i64 y.a.c0, .int .i64 y.a.c1, .int .i64 y.a.c2, .int .i64 y.a.c3, .int .i64 y.a.c4, .int .i64 y.a.c5, .int .i64 y.b.c0, .int .i64 y.b.c1, .int .i64 y.b.c2, .int .i64 y.b.c3, .int .i64 y.b.c4, .int .i64 y.b.c5, .int .i64 y.w0, .int .i64 y.w1] 44)
      have hT22' := hT22.alloc (.cells #[.int .i64 y.a.c0, .int .i64 y.a.c1, .int .i64 y.a.c2, .int .i64 y.a.c3, .int .i64 y.a.c4, .int .i64 y.a.c5, .int .i64 y.b.c0, .int .i64 y.b.c1, .int .i64 y.b.c2, .int .i64 y.b.c3, .int .i64 y.b.c4, .int .i64 y.b.c5, .int .i64 y.w0, .int .i64 y.w1] 44)
      have hT8 := hM.side 44 #[.int .i64 y.a.c0, .int .i64 y.a.c1, .int .i64 y.a.c2, .int .i64 y.a.c3, .int .i64 y.a.c4, .int .i64 y.a.c5, .int .i64 y.b.c0, .int .i64 y.b.c1, .int .i64 y.b.c2, .int .i64 y.b.c3, .int .i64 y.b.c4, .int .i64 y.b.c5, .int .i64 y.w0, .int .i64 y.w1]
      clear hM hX hX2 hHeld hT22
      have hM := hM'
      have hX := hX'
      have hX2 := hX2'
      have hT22 := hT22'
      clear hM' hX' hX2' hT22'
      have hH5 : w5.heap.size < (w5.alloc (.cells #[.int .i64 y.a.c0, .int .i64 y.a.c1, .int .i64 y.a.c2, .int .i64 y.a.c3, .int .i64 y.a.c4, .int .i64 y.a.c5, .int .i64 y.b.c0, .int .i64 y.b.c1, .int .i64 y.b.c2, .int .i64 y.b.c3, .int .i64 y.b.c4, .int .i64 y.b.c5, .int .i64 y.w0, .int .i64 y.w1] 44)).heap.size := by simp
      generalize w5.alloc (.cells #[.int .i64 y.a.c0, .int .i64 y.a.c1, .int .i64 y.a.c2, .int .i64 y.a.c3, .int .i64 y.a.c4, .int .i64 y.a.c5, .int .i64 y.b.c0, .int .i64 y.b.c1, .int .i64 y.b.c2, .int .i64 y.b.c3, .int .i64 y.b.c4, .int .i64 y.b.c5, .int .i64 y.w0, .int .i64 y.w1] 44) = w6 at *
      refine hK.out _ _ ?_ (fun hHeld => ?_)
      · exact ⟨hM.blk, hX.blk, hX2.blk⟩
      clear hK K
      try simp only [lay]
      refine two_ready (rs := [9, 15]) (by kernel_rfl) (by kernel_rfl) (by simp) ?_
      refine AllReadyB.cons rfl (fun K hK => ?_) (AllReadyB.cons rfl (fun K hK => ?_) AllReadyB.nil)
      ·
        refine step_append_lies _ (by rfl) _ _ _ (by rfl) B 44 a0_ _ 14 112 Tryz.underlying119 ai az0 az1 az2 rfl (by omega) v1 s.l.length (cellsC 14 s.l.length (stF s)) (by rfl) hM.r1 _ 1 1 [.int .i64 y.a.c0, .int .i64 y.a.c1, .int .i64 y.a.c2, .int .i64 y.a.c3, .int .i64 y.a.c4, .int .i64 y.a.c5, .int .i64 y.b.c0, .int .i64 y.b.c1, .int .i64 y.b.c2, .int .i64 y.b.c3, .int .i64 y.b.c4, .int .i64 y.b.c5, .int .i64 y.w0, .int .i64 y.w1] (by rfl) (by rfl) (hT8.blk.news) (by simp [Value.oneCell']) (by omega) (by simp only [maxLen]; omega) (by omega) hM.sB.2.2 _ rfl ?_
        intro gg1 cap1 w7 hown1 hgrow1 hat1 hlt1
        have hM' := hM.app1 hown1 hgrow1 hat1
        have hX' := hX.app1 hgrow1 hat1 (s.l.length + 1) cap1
        have hX2' := hX2.app1 hgrow1 hat1 (s.l.length + 1) cap1
        have hT22' := hT22.app1 hgrow1 hat1 (s.l.length + 1) cap1
        clear hM hX hX2 hHeld hown1 hgrow1 hat1 hT22 hT8
        have hM := hM'
        have hX := hX'
        have hX2 := hX2'
        have hT22 := hT22'
        clear hM' hX' hX2' hT22'
        refine hK.out _ _ ?_ (fun hHeld => ?_)
        · exact ⟨hM.blk, hX.blk, hX2.blk⟩
        clear hK K
        try simp only [lay]
        refine two_ready (rs := [15]) (by kernel_rfl) (by kernel_rfl) (by simp) ?_
        refine AllReadyB.cons rfl (fun K hK => ?_) AllReadyB.nil
        go_simp
        have hM' := hM.alloc (.cells #[.int .i64 frm] 3)
        have hX' := hX.alloc (.cells #[.int .i64 frm] 3)
        have hX2' := hX2.alloc (.cells #[.int .i64 frm] 3)
        have hT22' := hT22.alloc (.cells #[.int .i64 frm] 3)
        have hT15 := hM.side 3 #[.int .i64 frm]
        clear hM hX hX2 hHeld hT22
        have hM := hM'
        have hX := hX'
        have hX2 := hX2'
        have hT22 := hT22'
        clear hM' hX' hX2' hT22'
        have hH7 : w7.heap.size < (w7.alloc (.cells #[.int .i64 frm] 3)).heap.size := by simp
        generalize w7.alloc (.cells #[.int .i64 frm] 3) = w8 at *
        refine hK.out _ _ ?_ (fun hHeld => ?_)
        · exact ⟨hM.blk, hX.blk, hX2.blk⟩
        clear hK K
        try simp only [lay]
        refine two_ready (rs := [16]) (by kernel_rfl) (by kernel_rfl) (by simp) ?_
        refine AllReadyB.cons rfl (fun K hK => ?_) AllReadyB.nil
        refine step_append_lies _ (by rfl) _ _ _ (by rfl) B 3 b0_ _ 1 8 Tryz.underlying49 bi bz0 bz1 bz2 rfl (by omega) v2 s.l.length (cellsOf s.l.length (frF s)) (by rfl) hM.r2 _ 1 1 [.int .i64 frm] (by rfl) (by rfl) (hT15.blk.news) (by simp [Value.oneCell']) (by omega) (by simp only [maxLen]; omega) (by omega) hM.sB.2.2 _ rfl ?_
        intro gg2 cap2 w9 hown2 hgrow2 hat2 hlt2
        have hM' := hM.app2 hown2 hgrow2 hat2
        have hX' := hX.app2 hgrow2 hat2 (s.l.length + 1) cap2
        have hX2' := hX2.app2 hgrow2 hat2 (s.l.length + 1) cap2
        have hT22' := hT22.app2 hgrow2 hat2 (s.l.length + 1) cap2
        clear hM hX hX2 hHeld hown2 hgrow2 hat2 hT22 hT15
        have hM := hM'
        have hX := hX'
        have hX2 := hX2'
        have hT22 := hT22'
        clear hM' hX' hX2' hT22'
        refine hK.out _ _ ?_ (fun hHeld => ?_)
        · exact ⟨hM.blk, hX.blk, hX2.blk⟩
        clear hK K
        try simp only [lay]
        refine two_ready (rs := [23]) (by kernel_rfl) (by kernel_rfl) (by simp) ?_
        refine AllReadyB.cons rfl (fun K hK => ?_) AllReadyB.nil
        refine step_append_lies _ (by rfl) _ _ _ (by rfl) B 30 c0_ _ 2 16 Tryz.underlying29 ci cz0 cz1 cz2 rfl (by omega) v3 s.l.length (cellsC 2 s.l.length (byF J s)) (by rfl) hM.r3 _ 1 1 [.int .i64 l0, .int .i64 l1] (by rfl) (by rfl) (hT22.blk.news) (by simp [Value.oneCell']) (by omega) (by simp only [maxLen]; omega) (by omega) hM.sB.2.2 _ rfl ?_
        intro gg3 cap3 w10 hown3 hgrow3 hat3 hlt3
        have hM' := hM.app3 hown3 hgrow3 hat3
        have hX' := hX.app3 hgrow3 hat3 (s.l.length + 1) cap3
        have hX2' := hX2.app3 hgrow3 hat3 (s.l.length + 1) cap3
        clear hM hX hX2 hHeld hown3 hgrow3 hat3 hT22
        have hM := hM'
        have hX := hX'
        have hX2 := hX2'
        clear hM' hX' hX2' 
        refine hK.out _ _ ?_ (fun hHeld => ?_)
        · exact ⟨hM.blk, hX.blk, hX2.blk⟩
        clear hK K
        try simp only [lay]
        refine p20 24 rfl ?_; try simp only [lay]
        refine p20 25 rfl ?_; try simp only [lay]
        have q1 := hM.blk.cell 1
        have q2 := hM.blk.cell 2
        have q3 := hM.blk.cell 3
        have p1 := hM.blk.frozen 1
        have p2 := hM.blk.frozen 2
        have p3 := hM.blk.frozen 3
        simp at q1 q2 q3
        refine two_ready (rs := [26]) (by kernel_rfl) (by kernel_rfl) (by simp) ?_
        refine AllReadyB.last rfl (fun K hK => ?_)
        go_simp
        refine hK.out _ _ ?_
        clear hK K
        try simp only [lay]
        refine two_late (by kernel_rfl) ?_
        refine la0 27 rfl ?_; try simp only [lay]
        refine la0 28 rfl ?_; try simp only [lay]
        refine wpAny_ready (rs := [29]) (by kernel_rfl) (by simp) ?_
        refine AllReady.cons' rfl (fun K hK => ?_) AllReady.nil
        go_simp
        refine hK.out _ _ ?_
        clear hK K
        try simp only [lay]
        refine la0 30 rfl ?_; try simp only [lay]
        refine la0 31 rfl ?_; try simp only [lay]
        refine wpAny_ready (rs := [32]) (by kernel_rfl) (by simp) ?_
        refine AllReady.cons' rfl (fun K hK => ?_) AllReady.nil
        go_simp
        refine hK.out _ _ ?_
        clear hK K
        try simp only [lay]
        refine wpAny_done (by kernel_rfl) ?_ _
        have hE := hM.store
        clear q1 q2 q3 p1 p2 p3 hM hX hX2
        generalize (((w10.setCell ⟨S, 1, none⟩ (.slice (some ⟨gg1, 0, none⟩) (s.l.length + 1) cap1)).setCell ⟨S, 2, none⟩ (.slice (some ⟨gg2, 0, none⟩) (s.l.length + 1) cap2)).setCell ⟨S, 3, none⟩ (.slice (some ⟨gg3, 0, none⟩) (s.l.length + 1) cap3)) = wz at *
        have e1 : wz.cell? ⟨S, 1, none⟩ = some (.slice (some ⟨gg1, 0, none⟩) (s.l.length + 1) cap1) := hE.blk.cell 1
        have eS := hE.blk.lt
        have HE := Lib.hid hE
        clear hE
        go_wp2
        go_ret2
        exact ⟨ret_pair (by omega), _, _, _, find_end HE.out (by rw [HP.out]) H0.out H1.out, HE.out.off, HE.out.fresh⟩
      ·
        go_simp
        have hM' := hM.alloc (.cells #[.int .i64 frm] 3)
        have hX' := hX.alloc (.cells #[.int .i64 frm] 3)
        have hX2' := hX2.alloc (.cells #[.int .i64 frm] 3)
        have hT22' := hT22.alloc (.cells #[.int .i64 frm] 3)
        have hT8' := hT8.alloc (.cells #[.int .i64 frm] 3)
        have hT15 := hM.side 3 #[.int .i64 frm]
        clear hM hX hX2 hHeld hT22 hT8
        have hM := hM'
        have hX := hX'
        have hX2 := hX2'
        have hT22 := hT22'
        have hT8 := hT8'
        clear hM' hX' hX2' hT22' hT8'
        have hH6 : w6.heap.size < (w6.alloc (.cells #[.int .i64 frm] 3)).heap.size := by simp
        generalize w6.alloc (.cells #[.int .i64 frm] 3) = w7 at *
        refine hK.out _ _ ?_ (fun hHeld => ?_)
        · exact ⟨hM.blk, hX.blk, hX2.blk⟩
        clear hK K
        try simp only [lay]
        refine two_ready (rs := [9]) (by kernel_rfl) (by kernel_rfl) (by simp) ?_
        refine AllReadyB.cons rfl (fun K hK => ?_) AllReadyB.nil
        refine step_append_lies _ (by rfl) _ _ _ (by rfl) B 44 a0_ _ 14 112 Tryz.underlying119 ai az0 az1 az2 rfl (by omega) v1 s.l.length (cellsC 14 s.l.length (stF s)) (by rfl) hM.r1 _ 1 1 [.int .i64 y.a.c0, .int .i64 y.a.c1, .int .i64 y.a.c2, .int .i64 y.a.c3, .int .i64 y.a.c4, .int .i64 y.a.c5, .int .i64 y.b.c0, .int .i64 y.b.c1, .int .i64 y.b.c2, .int .i64 y.b.c3, .int .i64 y.b.c4, .int .i64 y.b.c5, .int .i64 y.w0, .int .i64 y.w1] (by rfl) (by rfl) (hT8.blk.news) (by simp [Value.oneCell']) (by omega) (by simp only [maxLen]; omega) (by omega) hM.sB.2.2 _ rfl ?_
        intro gg1 cap1 w8 hown1 hgrow1 hat1 hlt1
        have hM' := hM.app1 hown1 hgrow1 hat1
        have hX' := hX.app1 hgrow1 hat1 (s.l.length + 1) cap1
        have hX2' := hX2.app1 hgrow1 hat1 (s.l.length + 1) cap1
        have hT22' := hT22.app1 hgrow1 hat1 (s.l.length + 1) cap1
        have hT15' := hT15.app1 hgrow1 hat1 (s.l.length + 1) cap1
        clear hM hX hX2 hHeld hown1 hgrow1 hat1 hT22 hT8 hT15
        have hM := hM'
        have hX := hX'
        have hX2 := hX2'
        have hT22 := hT22'
        have hT15 := hT15'
        clear hM' hX' hX2' hT22' hT15'
        refine hK.out _ _ ?_ (fun hHeld => ?_)
        · exact ⟨hM.blk, hX.blk, hX2.blk⟩
        clear hK K
        try simp only [lay]
        refine two_ready (rs := [16]) (by kernel_rfl) (by kernel_rfl) (by simp) ?_
        refine AllReadyB.cons rfl (fun K hK => ?_) AllReadyB.nil
        refine step_append_lies _ (by rfl) _ _ _ (by rfl) B 3 b0_ _ 1 8 Tryz.underlying49 bi bz0 bz1 bz2 rfl (by omega) v2 s.l.length (cellsOf s.l.length (frF s)) (by rfl) hM.r2 _ 1 1 [.int .i64 frm] (by rfl) (by rfl) (hT15.blk.news) (by simp [Value.oneCell']) (by omega) (by simp only [maxLen]; omega) (by omega) hM.sB.2.2 _ rfl ?_
        intro gg2 cap2 w9 hown2 hgrow2 hat2 hlt2
        have hM' := hM.app2 hown2 hgrow2 hat2
        have hX' := hX.app2 hgrow2 hat2 (s.l.length + 1) cap2
        have hX2' := hX2.app2 hgrow2 hat2 (s.l.length + 1) cap2
        have hT22' := hT22.app2 hgrow2 hat2 (s.l.length + 1) cap2
        clear hM hX hX2 hHeld hown2 hgrow2 hat2 hT22 hT15
        have hM := hM'
        have hX := hX'
        have hX2 := hX2'
        have hT22 := hT22'
        clear hM' hX' hX2' hT22'
        refine hK.out _ _ ?_ (fun hHeld => ?_)
        · exact ⟨hM.blk, hX.blk, hX2.blk⟩
        clear hK K
        try simp only [lay]
        refine two_ready (rs := [23]) (by kernel_rfl) (by kernel_rfl) (by simp) ?_
        refine AllReadyB.cons rfl (fun K hK => ?_) AllReadyB.nil
        refine step_append_lies _ (by rfl) _ _ _ (by rfl) B 30 c0_ _ 2 16 Tryz.underlying29 ci cz0 cz1 cz2 rfl (by omega) v3 s.l.length (cellsC 2 s.l.length (byF J s)) (by rfl) hM.r3 _ 1 1 [.int .i64 l0, .int .i64 l1] (by rfl) (by rfl) (hT22.blk.news) (by simp [Value.oneCell']) (by omega) (by simp only [maxLen]; omega) (by omega) hM.sB.2.2 _ rfl ?_
        intro gg3 cap3 w10 hown3 hgrow3 hat3 hlt3
        have hM' := hM.app3 hown3 hgrow3 hat3
        have hX' := hX.app3 hgrow3 hat3 (s.l.length + 1) cap3
        have hX2' := hX2.app3 hgrow3 hat3 (s.l.length + 1) cap3
        clear hM hX hX2 hHeld hown3 hgrow3 hat3 hT22
        have hM := hM'
        have hX := hX'
        have hX2 := hX2'
        clear hM' hX' hX2' 
        refine hK.out _ _ ?_ (fun hHeld => ?_)
        · exact ⟨hM.blk, hX.blk, hX2.blk⟩
        clear hK K
        try simp only [lay]
        refine p20 24 rfl ?_; try simp only [lay]
        refine p20 25 rfl ?_; try simp only [lay]
        have q1 := hM.blk.cell 1
        have q2 := hM.blk.cell 2
        have q3 := hM.blk.cell 3
        have p1 := hM.blk.frozen 1
        have p2 := hM.blk.frozen 2
        have p3 := hM.blk.frozen 3
        simp at q1 q2 q3
        refine two_ready (rs := [26]) (by kernel_rfl) (by kernel_rfl) (by simp) ?_
        refine AllReadyB.last rfl (fun K hK => ?_)
        go_simp
        refine hK.out _ _ ?_
        clear hK K
        try simp only [lay]
        refine two_late (by kernel_rfl) ?_
        refine la0 27 rfl ?_; try simp only [lay]
        refine la0 28 rfl ?_; try simp only [lay]
        refine wpAny_ready (rs := [29]) (by kernel_rfl) (by simp) ?_
        refine AllReady.cons' rfl (fun K hK => ?_) AllReady.nil
        go_simp
        refine hK.out _ _ ?_
        clear hK K
        try simp only [lay]
        refine la0 30 rfl ?_; try simp only [lay]
        refine la0 31 rfl ?_; try simp only [lay]
        refine wpAny_ready (rs := [32]) (by kernel_rfl) (by simp) ?_
        refine AllReady.cons' rfl (fun K hK => ?_) AllReady.nil
        go_simp
        refine hK.out _ _ ?_
        clear hK K
        try simp only [lay]
        refine wpAny_done (by kernel_rfl) ?_ _
        have hE := hM.store
        clear q1 q2 q3 p1 p2 p3 hM hX hX2
        generalize (((w10.setCell ⟨S, 1, none⟩ (.slice (some ⟨gg1, 0, none⟩) (s.l.length + 1) cap1)).setCell ⟨S, 2, none⟩ (.slice (some ⟨gg2, 0, none⟩) (s.l.length + 1) cap2)).setCell ⟨S, 3, none⟩ (.slice (some ⟨gg3, 0, none⟩) (s.l.length + 1) cap3)) = wz at *
        have e1 : wz.cell? ⟨S, 1, none⟩ = some (.slice (some ⟨gg1, 0, none⟩) (s.l.length + 1) cap1) := hE.blk.cell 1
        have eS := hE.blk.lt
        have HE := Lib.hid hE
        clear hE
        go_wp2
        go_ret2
        exact ⟨ret_pair (by omega), _, _, _, find_end HE.out (by rw [HP.out]) H0.out H1.out, HE.out.off, HE.out.fresh⟩
    ·
      go_simp
      have hM' := hM.alloc (.cells #[.int .i64 frm] 3)
      have hX' := hX.alloc (.cells #[.int .i64 frm] 3)
      have hX2' := hX2.alloc (.cells #[.int .i64 frm] 3)
      have hT22' := hT22.alloc (.cells #[.int .i64 frm] 3)
      have hT15 := hM.side 3 #[.int .i64 frm]
      clear hM hX hX2 hHeld hT22
      have hM := hM'
      have hX := hX'
      have hX2 := hX2'
      have hT22 := hT22'
      clear hM' hX' hX2' hT22'
      have hH5 : w5.heap.size < (w5.alloc (.cells #[.int .i64 frm] 3)).heap.size := by simp
      generalize w5.alloc (.cells #[.int .i64 frm] 3) = w6 at *
      refine hK.out _ _ ?_ (fun hHeld => ?_)
      · exact ⟨hM.blk, hX.blk, hX2.blk⟩
      clear hK K
      try simp only [lay]
      refine two_ready (rs := [8]) (by kernel_rfl) (by kernel_rfl) (by simp) ?_
      refine AllReadyB.cons rfl (fun K hK => ?_) AllReadyB.nil
      go_simp
      have hM' := hM.alloc (.cells #[.int .i64 y.a.c0, .int .i64 y.a.c1, .int .i64 y.a.c2, .int .i64 y.a.c3, .int .i64 y.a.c4, .int .i64 y.a.c5, .int .i64 y.b.c0, .int .i64 y.b.c1, .int .i64 y.b.c2, .int .i64 y.b.c3, .int .i64 y.b.c4, .int .i64 y.b.c5, .int .i64 y.w0, .int .i64 y.w1] 44)
      have hX' := hX.alloc (.cells #[.int .i64 y.a.c0, .int .i64 y.a.c1, .int .i64 y.a.c2, .int .i64 y.a.c3, .int .i64 y.a.c4, .int .i64 y.a.c5, .int .i64 y.b.c0, .int .i64 y.b.c1, .int .i64 y.b.c2, .int .i64 y.b.c3, .int .i64 y.b.c4, .int .i64 y.b.c5, .int .i64 y.w0, .int .i64 y.w1] 44)
      have hX2' := hX2.alloc (.cells #[.int .i64 y.a.c0, .int .i64 y.a.c1, .int .i64 y.a.c2, .int .i64 y.a.c3, .int .i64 y.a.c4, .int .i64 y.a.c5, .int .i64 y.b.c0, .int .i64 y.b.c1, .int .i64 y.b.c2, .int .i64 y.b.c3, .int .i64 y.b.c4, .int .i64 y.b.c5, .int .i64 y.w0, .int .i64 y.w1] 44)
      have hT22' := hT22.alloc (.cells #[.int .i64 y.a.c0, .int .i64 y.a.c1, .int .i64 y.a.c2, .int .i64 y.a.c3, .int .i64 y.a.c4, .int .i64 y.a.c5, .int .i64 y.b.c0, .int .i64 y.b.c1, .int .i64 y.b.c2, .int .i64 y.b.c3, .int .i64 y.b.c4, .int .i64 y.b.c5, .int .i64 y.w0, .int .i64 y.w1] 44)
      have hT15' := hT15.alloc (.cells #[.int .i64 y.a.c0, .int .i64 y.a.c1, .int .i64 y.a.c2, .int .i64 y.a.c3, .int .i64 y.a.c4, .int .i64 y.a.c5, .int .i64 y.b.c0, .int .i64 y.b.c1, .int .i64 y.b.c2, .int .i64 y.b.c3, .int .i64 y.b.c4, .int .i64 y.b.c5, .int .i64 y.w0, .int .i64 y.w1] 44)
      have hT8 := hM.side 44 #[.int .i64 y.a.c0, .int .i64 y.a.c1, .int .i64 y.a.c2, .int .i64 y.a.c3, .int .i64 y.a.c4, .int .i64 y.a.c5, .int .i64 y.b.c0, .int .i64 y.b.c1, .int .i64 y.b.c2, .int .i64 y.b.c3, .int .i64 y.b.c4, .int .i64 y.b.c5, .int .i64 y.w0, .int .i64 y.w1]
      clear hM hX hX2 hHeld hT22 hT15
      have hM := hM'
      have hX := hX'
      have hX2 := hX2'
      have hT22 := hT22'
      have hT15 := hT15'
      clear hM' hX' hX2' hT22' hT15'
      have hH6 : w6.heap.size < (w6.alloc (.cells #[.int .i64 y.a.c0, .int .i64 y.a.c1, .int .i64 y.a.c2, .int .i64 y.a.c3, .int .i64 y.a.c4, .int .i64 y.a.c5, .int .i64 y.b.c0, .int .i64 y.b.c1, .int .i64 y.b.c2, .int .i64 y.b.c3, .int .i64 y.b.c4, .int .i64 y.b.c5, .int .i64 y.w0, .int .i64 y.w1] 44)).heap.size := by simp
      generalize w6.alloc (.cells #[.int .i64 y.a.c0, .int .i64 y.a.c1, .int .i64 y.a.c2, .int .i64 y.a.c3, .int .i64 y.a.c4, .int .i64 y.a.c5, .int .i64 y.b.c0, .int .i64 y.b.c1, .int .i64 y.b.c2, .int .i64 y.b.c3, .int .i64 y.b.c4, .int .i64 y.b.c5, .int .i64 y.w0, .int .i64 y.w1] 44) = w7 at *
      refine hK.out _ _ ?_ (fun hHeld => ?_)
      · exact ⟨hM.blk, hX.blk, hX2.blk⟩
      clear hK K
      try simp only [lay]
      refine two_ready (rs := [9]) (by kernel_rfl) (by kernel_rfl) (by simp) ?_
      refine AllReadyB.cons rfl (fun K hK => ?_) AllReadyB.nil
      refine step_append_lies _ (by rfl) _ _ _ (by rfl) B 44 a0_ _ 14 112 Tryz.underlying119 ai az0 az1 az2 rfl (by omega) v1 s.l.length (cellsC 14 s.l.length (stF s)) (by rfl) hM.r1 _ 1 1 [.int .i64 y.a.c0, .int .i64 y.a.c1, .int .i64 y.a.c2, .int .i64 y.a.c3, .int .i64 y.a.c4, .int .i64 y.a.c5, .int .i64 y.b.c0, .int .i64 y.b.c1, .int .i64 y.b.c2, .int .i64 y.b.c3, .int .i64 y.b.c4, .int .i64 y.b.c5, .int .i64 y.w0, .int .i64 y.w1] (by rfl) (by rfl) (hT8.blk.news) (by simp [Value.oneCell']) (by omega) (by simp only [maxLen]; omega) (by omega) hM.sB.2.2 _ rfl ?_
      intro gg1 cap1 w8 hown1 hgrow1 hat1 hlt1
      have hM' := hM.app1 hown1 hgrow1 hat1
      have hX' := hX.app1 hgrow1 hat1 (s.l.length + 1) cap1
      have hX2' := hX2.app1 hgrow1 hat1 (s.l.length + 1) cap1
      have hT22' := hT22.app1 hgrow1 hat1 (s.l.length + 1) cap1
      have hT15' := hT15.app1 hgrow1 hat1 (s.l.length + 1) cap1
      clear hM hX hX2 hHeld hown1 hgrow1 hat1 hT22 hT15 hT8
      have hM := hM'
      have hX := hX'
      have hX2 := hX2'
      have hT22 := hT22'
      have hT15 := hT15'
      clear hM' hX' hX2' hT22' hT15'
      refine hK.out _ _ ?_ (fun hHeld => ?_)
      · exact ⟨hM.blk, hX.blk, hX2.blk⟩
      clear hK K
      try simp only [lay]
      refine two_ready (rs := [16]) (by kernel_rfl) (by kernel_rfl) (by simp) ?_
      refine AllReadyB.cons rfl (fun K hK => ?_) AllReadyB.nil
      refine step_append_lies _ (by rfl) _ _ _ (by rfl) B 3 b0_ _ 1 8 Tryz.underlying49 bi bz0 bz1 bz2 rfl (by omega) v2 s.l.length (cellsOf s.l.length (frF s)) (by rfl) hM.r2 _ 1 1 [.int .i64 frm] (by rfl) (by rfl) (hT15.blk.news) (by simp [Value.oneCell']) (by omega) (by simp only [maxLen]; omega) (by omega) hM.sB.2.2 _ rfl ?_
      intro gg2 cap2 w9 hown2 hgrow2 hat2 hlt2
      have hM' := hM.app2 hown2 hgrow2 hat2
      have hX' := hX.app2 hgrow2 hat2 (s.l.length + 1) cap2
      have hX2' := hX2.app2 hgrow2 hat2 (s.l.length + 1) cap2
      have hT22' := hT22.app2 hgrow2 hat2 (s.l.length + 1) cap2
      clear hM hX hX2 hHeld hown2 hgrow2 hat2 hT22 hT15
      have hM := hM'
      have hX := hX'
      have hX2 := hX2'
      have hT22 := hT22'
      clear hM' hX' hX2' hT22'
      refine hK.out _ _ ?_ (fun hHeld => ?_)
      · exact ⟨hM.blk, hX.blk, hX2.blk⟩
      clear hK K
      try simp only [lay]
      refine two_ready (rs := [23]) (by kernel_rfl) (by kernel_rfl) (by simp) ?_
      refine AllReadyB.cons rfl (fun K hK => ?_) AllReadyB.nil
      refine step_append_lies _ (by rfl) _ _ _ (by rfl) B 30 c0_ _ 2 16 Tryz.underlying29 ci cz0 cz1 cz2 rfl (by omega) v3 s.l.length (cellsC 2 s.l.length (byF J s)) (by rfl) hM.r3 _ 1 1 [.int .i64 l0, .int .i64 l1] (by rfl) (by rfl) (hT22.blk.news) (by simp [Value.oneCell']) (by omega) (by simp only [maxLen]; omega) (by omega) hM.sB.2.2 _ rfl ?_
      intro gg3 cap3 w10 hown3 hgrow3 hat3 hlt3
      have hM' := hM.app3 hown3 hgrow3 hat3
      have hX' := hX.app3 hgrow3 hat3 (s.l.length + 1) cap3
      have hX2' := hX2.app3 hgrow3 hat3 (s.l.length + 1) cap3
      clear hM hX hX2 hHeld hown3 hgrow3 hat3 hT22
      have hM := hM'
      have hX := hX'
      have hX2 := hX2'
      clear hM' hX' hX2' 
      refine hK.out _ _ ?_ (fun hHeld => ?_)
      · exact ⟨hM.blk, hX.blk, hX2.blk⟩
      clear hK K
      try simp only [lay]
      refine p20 24 rfl ?_; try simp only [lay]
      refine p20 25 rfl ?_; try simp only [lay]
      have q1 := hM.blk.cell 1
      have q2 := hM.blk.cell 2
      have q3 := hM.blk.cell 3
      have p1 := hM.blk.frozen 1
      have p2 := hM.blk.frozen 2
      have p3 := hM.blk.frozen 3
      simp at q1 q2 q3
      refine two_ready (rs := [26]) (by kernel_rfl) (by kernel_rfl) (by simp) ?_
      refine AllReadyB.last rfl (fun K hK => ?_)
      go_simp
      refine hK.out _ _ ?_
      clear hK K
      try simp only [lay]
      refine two_late (by kernel_rfl) ?_
      refine la0 27 rfl ?_; try simp only [lay]
      refine la0 28 rfl ?_; try simp only [lay]
      refine wpAny_ready (rs := [29]) (by kernel_rfl) (by simp) ?_
      refine AllReady.cons' rfl (fun K hK => ?_) AllReady.nil
      go_simp
      refine hK.out _ _ ?_
      clear hK K
      try simp only [lay]
      refine la0 30 rfl ?_; try simp only [lay]
      refine la0 31 rfl ?_; try simp only [lay]
      refine wpAny_ready (rs := [32]) (by kernel_rfl) (by simp) ?_
      refine AllReady.cons' rfl (fun K hK => ?_) AllReady.nil
      go_simp
      refine hK.out _ _ ?_
      clear hK K
      try simp only [lay]
      refine wpAny_done (by kernel_rfl) ?_ _
      have hE := hM.store
      clear q1 q2 q3 p1 p2 p3 hM hX hX2
      generalize (((w10.setCell ⟨S, 1, none⟩ (.slice (some ⟨gg1, 0, none⟩) (s.l.length + 1) cap1)).setCell ⟨S, 2, none⟩ (.slice (some ⟨gg2, 0, none⟩) (s.l.length + 1) cap2)).setCell ⟨S, 3, none⟩ (.slice (some ⟨gg3, 0, none⟩) (s.l.length + 1) cap3)) = wz at *
      have e1 : wz.cell? ⟨S, 1, none⟩ = some (.slice (some ⟨gg1, 0, none⟩) (s.l.length + 1) cap1) := hE.blk.cell 1
      have eS := hE.blk.lt
      have HE := Lib.hid hE
      clear hE
      go_wp2
      go_ret2
      exact ⟨ret_pair (by omega), _, _, _, find_end HE.out (by rw [HP.out]) H0.out H1.out, HE.out.off, HE.out.fresh⟩
end Go.Proofs.YtgmljgcmfooniaaGreatDoor
