/- link.Pass. Conditions: none. -/
import Derived.Test.YtgmljgcmfooniaaGreatDoorLinkR
set_option linter.unusedVariables false
set_option linter.unusedSimpArgs false
namespace Go
open Go.RowKit Go.Tide
theorem Blk.kept {w w' : World} {g : Nat} {t : TypeId} {cs : Array Value} {row : Option Nat} (h : Blk w g t cs) (hg : w.grownBy w' row) (hr : ∀ r, row = some r → ∃ o : Obj, w.heap[r]? = some o ∧ o.isCells = false) : Blk w' g t cs :=
  h.grown hg fun e => by
    obtain ⟨o, ho, hc⟩ := hr g e.symm
    have h' : w.heap[g]? = some (.cells cs t (0, 0)) := h
    rw [h'] at ho
    cases ho
    cases hc
theorem Blk.ne {w : World} {g g' : Nat} {t t' : TypeId} {cs cs' : Array Value} (h : Blk w g t cs) (h' : Blk w g' t' cs') (hs : cs.size ≠ cs'.size) : g ≠ g' := by
  intro e
  subst e
  have h1 : w.heap[g]? = some (.cells cs t (0, 0)) := h
  have h2 : w.heap[g]? = some (.cells cs' t' (0, 0)) := h'
  rw [h1] at h2
  injection h2 with h2
  injection h2 with h2
  exact hs (by rw [h2])
end Go
namespace Go.Proofs.YtgmljgcmfooniaaGreatDoor
open Go.RowKit Go.Shelf Go.Tide
set_option linter.unusedVariables false
set_option linter.unusedSimpArgs false
attribute [local go_sem] Oper.semAt_some
/-- What lies in the link's own blocks. -/
structure LInv (w : World) (A R L K : Nat) (rate room S0 S1 : Nat) (s : LSt) (W : World) : Prop where
  rate : Blk W A 3 #[.int .i64 rate]
  room : Blk W (A + 1) 3 #[.int .i64 room]
  o1 : Blk W (A + 4) 93 #[.int .i64 0, .int .i64 0, .int .i64 0, .int .i64 0, .int .i64 0, .int .i64 0]
  o2 : Blk W (A + 5) 30 #[.int .i64 0, .int .i64 0]
  r : Blk W R 93 #[.int .i64 S0, .int .i64 S1, .int .i64 s.c0, .int .i64 s.c1, .int .i64 s.x0, .int .i64 s.x1]
  l : Blk W L 30 #[.int .i64 s.l0, .int .i64 s.l1]
  k : Blk W K 3 #[.int .i64 s.k]
  below : Below A w W
theorem LInv.own {w : World} {A R L K rate room S0 S1 B : Nat} (hA : A ≤ w.heap.size) (hB : A ≤ B) : OwnFrom B (fun (pre : List Bool) W => LInv w A R L K rate room S0 S1 (lgo rate room pre) W) :=
  fun s W W' row hs hg hr => ⟨hs.rate.kept hg (fun r e => (hr r e).2), hs.room.kept hg (fun r e => (hr r e).2), hs.o1.kept hg (fun r e => (hr r e).2), hs.o2.kept hg (fun r e => (hr r e).2), hs.r.kept hg (fun r e => (hr r e).2), hs.l.kept hg (fun r e => (hr r e).2), hs.k.kept hg (fun r e => (hr r e).2),
    ownFrom_below (β := List Bool) hA hB s W W' row hs.below hg hr⟩
theorem line_stops (n : Nat) (hn : 1 ≤ n) (B1 B2 W0 W1 S0 S1 : Nat) (hW0 : W0 ≤ 16) (hW1 : W1 ≤ 16) (hS0 : S0 ≤ 12) (hS1 : S1 ≤ 12) (w : World) (h1 : Blk w B1 30 #[.int .i64 W0, .int .i64 W1]) (h2 : Blk w B2 30 #[.int .i64 S0, .int .i64 S1]) :
    SeqStopsK Fence.wide n Tryz.prog 127 #[.pointer (some ⟨B1, 0, none⟩), .pointer (some ⟨B2, 0, none⟩)] (fun x : Bool => #[Value.int .i64 (lbit x)]) (LKeeps B1 B2) (fun ys => ys = lline W0 W1 S0 S1 (W0 + W1 + S0 + S1)) (fun pre => ∃ k, k ≤ W0 + W1 + S0 + S1 ∧ pre = lline W0 W1 S0 S1 k) (W0 + W1 + S0 + S1) w :=
  fun l J Jx W hW _ _ hY h0 => line1_in Fence.wide n trivial rfl hn l B1 B2 W0 W1 S0 S1 hW0 hW1 hS0 hS1 J Jx hY W (h1.below hW h1.lt) (h2.below hW h2.lt) h0
theorem line_in (a b c d : Int) (w : World) : CallsIn Fence.wide 4 Tryz.prog 104 #[.agg #[.int .i64 a, .int .i64 b], .agg #[.int .i64 c, .int .i64 d]] w fun e w' =>
    e = .returned (.func (.func 127) #[] #[.pointer (some ⟨w.heap.size, 0, none⟩), .pointer (some ⟨w.heap.size + 1, 0, none⟩)]) ∧ w' = (w.alloc (.cells #[.int .i64 a, .int .i64 b] 30)).alloc (.cells #[.int .i64 c, .int .i64 d] 30) := by
  refine callsIn_wide.2 ?_
  go_enter Tryz.func104, Tryz.ntmps104
  go_wp2
  go_ret
  exact ⟨rfl, rfl⟩
set_option maxRecDepth 100000 in
set_option maxHeartbeats 4000000 in
theorem pass_in (rate room W0 W1 S0 S1 : Nat) (w : World) (h : LRight rate room W0 W1 S0 S1) :
    CallsIn Fence.wide 5 Tryz.prog 70 #[.int .i64 rate, .int .i64 room, .agg #[.int .i64 W0, .int .i64 W1], .agg #[.int .i64 S0, .int .i64 S1]] w fun e w' =>
      e = .returned (.tuple #[.agg #[.int .i64 S0, .int .i64 S1, .int .i64 (lpass rate room W0 W1 S0 S1).c0, .int .i64 (lpass rate room W0 W1 S0 S1).c1, .int .i64 (lpass rate room W0 W1 S0 S1).x0, .int .i64 (lpass rate room W0 W1 S0 S1).x1],
        .agg #[.int .i64 (lpass rate room W0 W1 S0 S1).l0, .int .i64 (lpass rate room W0 W1 S0 S1).l1], .int .i64 0]) ∧ Below w.heap.size w w' := by
  have HR := Lib.hid h
  obtain ⟨h1, h2, h3, h4, h5, h6, h7, h8, h9, h10, h11⟩ := h
  refine callsIn_of_wp_marks Tryz.func70 rfl trivial ?_ rfl
  simp only [Tryz.ntmps70, List.size_toArray, List.length_cons, List.length_nil, Nat.reduceAdd, Nat.reduceSub, Array.replicate_succ, Array.replicate_zero, List.push_toArray, List.append_toArray, List.nil_append, List.cons_append]
  gi_wp2
  refine ⟨trivial, ?_⟩
  refine (callsIn_wide.2 (right_true _ _ _ _ _ _ _ HR.out)).mono ?_
  rintro e w' ⟨rfl, os1, d1, rfl⟩
  gi_wp2
  refine ⟨trivial, ?_⟩
  refine (line_in _ _ _ _ _).mono ?_
  rintro e w' ⟨rfl, rfl⟩
  gi_wp2
  have hI0 : LInv w w.heap.size (w.heap.size + (6 + os1.size)) (w.heap.size + (6 + (os1.size + 1))) (w.heap.size + (6 + (os1.size + 2))) rate room S0 S1 (lgo rate room []) ((((((((((((w.alloc (.cells #[.int .i64 rate] 3)).alloc (.cells #[.int .i64 room] 3)).alloc (.cells #[.int .i64 W0, .int .i64 W1] 30)).alloc (.cells #[.int .i64 S0, .int .i64 S1] 30)).alloc (.cells #[.int .i64 0, .int .i64 0, .int .i64 0, .int .i64 0, .int .i64 0, .int .i64 0] 93)).alloc (.cells #[.int .i64 0, .int .i64 0] 30)).more os1 d1).alloc (.cells #[.int .i64 S0, .int .i64 S1, .int .i64 0, .int .i64 0, .int .i64 0, .int .i64 0] 93)).alloc (.cells #[.int .i64 0, .int .i64 0] 30)).alloc (.cells #[.int .i64 0] 3)).alloc (.cells #[.int .i64 W0, .int .i64 W1] 30)).alloc (.cells #[.int .i64 S0, .int .i64 S1] 30)) := ⟨(by repeat (first | (with_reducible assumption) | ((with_reducible refine Blk.new' ?_); (simp [Nat.add_assoc]; done)) | (with_reducible refine Blk.alloc ?_ _) | (with_reducible refine Blk.more ?_ _ _) | (with_reducible refine Blk.drew ?_) | (with_reducible refine Blk.drewN ?_ _))), (by repeat (first | (with_reducible assumption) | ((with_reducible refine Blk.new' ?_); (simp [Nat.add_assoc]; done)) | (with_reducible refine Blk.alloc ?_ _) | (with_reducible refine Blk.more ?_ _ _) | (with_reducible refine Blk.drew ?_) | (with_reducible refine Blk.drewN ?_ _))), (by repeat (first | (with_reducible assumption) | ((with_reducible refine Blk.new' ?_); (simp [Nat.add_assoc]; done)) | (with_reducible refine Blk.alloc ?_ _) | (with_reducible refine Blk.more ?_ _ _) | (with_reducible refine Blk.drew ?_) | (with_reducible refine Blk.drewN ?_ _))), (by repeat (first | (with_reducible assumption) | ((with_reducible refine Blk.new' ?_); (simp [Nat.add_assoc]; done)) | (with_reducible refine Blk.alloc ?_ _) | (with_reducible refine Blk.more ?_ _ _) | (with_reducible refine Blk.drew ?_) | (with_reducible refine Blk.drewN ?_ _))), (show Blk _ _ 93 #[.int .i64 S0, .int .i64 S1, .int .i64 0, .int .i64 0, .int .i64 0, .int .i64 0] from (by repeat (first | (with_reducible assumption) | ((with_reducible refine Blk.new' ?_); (simp [Nat.add_assoc]; done)) | (with_reducible refine Blk.alloc ?_ _) | (with_reducible refine Blk.more ?_ _ _) | (with_reducible refine Blk.drew ?_) | (with_reducible refine Blk.drewN ?_ _)))), (show Blk _ _ 30 #[.int .i64 0, .int .i64 0] from (by repeat (first | (with_reducible assumption) | ((with_reducible refine Blk.new' ?_); (simp [Nat.add_assoc]; done)) | (with_reducible refine Blk.alloc ?_ _) | (with_reducible refine Blk.more ?_ _ _) | (with_reducible refine Blk.drew ?_) | (with_reducible refine Blk.drewN ?_ _)))), (show Blk _ _ 3 #[.int .i64 0] from (by repeat (first | (with_reducible assumption) | ((with_reducible refine Blk.new' ?_); (simp [Nat.add_assoc]; done)) | (with_reducible refine Blk.alloc ?_ _) | (with_reducible refine Blk.more ?_ _ _) | (with_reducible refine Blk.drew ?_) | (with_reducible refine Blk.drewN ?_ _)))), More.below (by repeat (first | (with_reducible assumption) | (with_reducible exact More.refl _) | (with_reducible refine More.alloc ?_ _) | (with_reducible refine More.more ?_ _ _) | (with_reducible refine More.drewN ?_ _) | (with_reducible refine More.drew ?_)))⟩
  have hb1 : Blk ((((((((((((w.alloc (.cells #[.int .i64 rate] 3)).alloc (.cells #[.int .i64 room] 3)).alloc (.cells #[.int .i64 W0, .int .i64 W1] 30)).alloc (.cells #[.int .i64 S0, .int .i64 S1] 30)).alloc (.cells #[.int .i64 0, .int .i64 0, .int .i64 0, .int .i64 0, .int .i64 0, .int .i64 0] 93)).alloc (.cells #[.int .i64 0, .int .i64 0] 30)).more os1 d1).alloc (.cells #[.int .i64 S0, .int .i64 S1, .int .i64 0, .int .i64 0, .int .i64 0, .int .i64 0] 93)).alloc (.cells #[.int .i64 0, .int .i64 0] 30)).alloc (.cells #[.int .i64 0] 3)).alloc (.cells #[.int .i64 W0, .int .i64 W1] 30)).alloc (.cells #[.int .i64 S0, .int .i64 S1] 30)) (w.heap.size + (6 + (os1.size + 3))) 30 #[.int .i64 W0, .int .i64 W1] := (by repeat (first | (with_reducible assumption) | ((with_reducible refine Blk.new' ?_); (simp [Nat.add_assoc]; done)) | (with_reducible refine Blk.alloc ?_ _) | (with_reducible refine Blk.more ?_ _ _) | (with_reducible refine Blk.drew ?_) | (with_reducible refine Blk.drewN ?_ _)))
  have hb2 : Blk ((((((((((((w.alloc (.cells #[.int .i64 rate] 3)).alloc (.cells #[.int .i64 room] 3)).alloc (.cells #[.int .i64 W0, .int .i64 W1] 30)).alloc (.cells #[.int .i64 S0, .int .i64 S1] 30)).alloc (.cells #[.int .i64 0, .int .i64 0, .int .i64 0, .int .i64 0, .int .i64 0, .int .i64 0] 93)).alloc (.cells #[.int .i64 0, .int .i64 0] 30)).more os1 d1).alloc (.cells #[.int .i64 S0, .int .i64 S1, .int .i64 0, .int .i64 0, .int .i64 0, .int .i64 0] 93)).alloc (.cells #[.int .i64 0, .int .i64 0] 30)).alloc (.cells #[.int .i64 0] 3)).alloc (.cells #[.int .i64 W0, .int .i64 W1] 30)).alloc (.cells #[.int .i64 S0, .int .i64 S1] 30)) (w.heap.size + (6 + (os1.size + 4))) 30 #[.int .i64 S0, .int .i64 S1] := (by repeat (first | (with_reducible assumption) | ((with_reducible refine Blk.new' ?_); (simp [Nat.add_assoc]; done)) | (with_reducible refine Blk.alloc ?_ _) | (with_reducible refine Blk.more ?_ _ _) | (with_reducible refine Blk.drew ?_) | (with_reducible refine Blk.drewN ?_ _)))
  have hz : w.heap.size + 5 < w.heap.size + (6 + os1.size) ∧ w.heap.size + (6 + os1.size) < w.heap.size + (6 + (os1.size + 1)) ∧ w.heap.size + (6 + (os1.size + 1)) < w.heap.size + (6 + (os1.size + 2)) ∧ w.heap.size + (6 + (os1.size + 2)) < w.heap.size + (6 + (os1.size + 3)) ∧ w.heap.size + (6 + (os1.size + 3)) < w.heap.size + (6 + (os1.size + 4)) ∧ w.heap.size + (6 + (os1.size + 4)) < ((((((((((((w.alloc (.cells #[.int .i64 rate] 3)).alloc (.cells #[.int .i64 room] 3)).alloc (.cells #[.int .i64 W0, .int .i64 W1] 30)).alloc (.cells #[.int .i64 S0, .int .i64 S1] 30)).alloc (.cells #[.int .i64 0, .int .i64 0, .int .i64 0, .int .i64 0, .int .i64 0, .int .i64 0] 93)).alloc (.cells #[.int .i64 0, .int .i64 0] 30)).more os1 d1).alloc (.cells #[.int .i64 S0, .int .i64 S1, .int .i64 0, .int .i64 0, .int .i64 0, .int .i64 0] 93)).alloc (.cells #[.int .i64 0, .int .i64 0] 30)).alloc (.cells #[.int .i64 0] 3)).alloc (.cells #[.int .i64 W0, .int .i64 W1] 30)).alloc (.cells #[.int .i64 S0, .int .i64 S1] 30)).heap.size := by
    refine ⟨?_, ?_, ?_, ?_, ?_, hb2.lt⟩ <;> omega
  generalize ((((((((((((w.alloc (.cells #[.int .i64 rate] 3)).alloc (.cells #[.int .i64 room] 3)).alloc (.cells #[.int .i64 W0, .int .i64 W1] 30)).alloc (.cells #[.int .i64 S0, .int .i64 S1] 30)).alloc (.cells #[.int .i64 0, .int .i64 0, .int .i64 0, .int .i64 0, .int .i64 0, .int .i64 0] 93)).alloc (.cells #[.int .i64 0, .int .i64 0] 30)).more os1 d1).alloc (.cells #[.int .i64 S0, .int .i64 S1, .int .i64 0, .int .i64 0, .int .i64 0, .int .i64 0] 93)).alloc (.cells #[.int .i64 0, .int .i64 0] 30)).alloc (.cells #[.int .i64 0] 3)).alloc (.cells #[.int .i64 W0, .int .i64 W1] 30)).alloc (.cells #[.int .i64 S0, .int .i64 S1] 30)) = wq at *
  generalize w.heap.size + (6 + os1.size) = R at *
  generalize w.heap.size + (6 + (os1.size + 1)) = L at *
  generalize w.heap.size + (6 + (os1.size + 2)) = K at *
  generalize w.heap.size + (6 + (os1.size + 3)) = B1 at *
  generalize w.heap.size + (6 + (os1.size + 4)) = B2 at *
  obtain ⟨z1, z2, z3, z4, z5, z6⟩ := hz
  refine wpIn_rangeFunc_ownF rfl (by omega) (gf := 127) (lb := #[.pointer (some ⟨B1, 0, none⟩), .pointer (some ⟨B2, 0, none⟩)]) rfl trivial (enters_of Tryz.func127 (by kernel_rfl) rfl)
    (line_stops 4 (by omega) B1 B2 W0 W1 S0 S1 (by omega) (by omega) (by omega) (by omega) wq hb1 hb2) (fun h k => LKeeps.trans h k) (fun W l o o' hl _ _ _ => ⟨World.putObj_heap_other (by omega), World.putObj_heap_other (by omega)⟩) (Below.refl _ _) (fun _ => rfl)
    (fun pre W => LInv w w.heap.size R L K rate room S0 S1 (lgo rate room pre) W) (fun _ _ _ => False) (LInv.own (by omega) (by omega)) (fun _ _ _ _ _ hs _ _ => hs) hI0
    (fun x => { tmps := #[.int .i64 rate, .int .i64 room, (.agg #[.int .i64 W0, .int .i64 W1]), (.agg #[.int .i64 S0, .int .i64 S1]), .pointer (some ⟨w.heap.size, 0, none⟩), .pointer (some ⟨(w.heap.size + 1), 0, none⟩), .pointer (some ⟨(w.heap.size + 2), 0, none⟩), .pointer (some ⟨(w.heap.size + 3), 0, none⟩), .pointer (some ⟨(w.heap.size + 4), 0, none⟩), .pointer (some ⟨(w.heap.size + 5), 0, none⟩), .int .i64 0, .pointer (some ⟨R, 0, none⟩), .pointer (some ⟨L, 0, none⟩), .pointer (some ⟨K, 0, none⟩), .int .i64 (lbit x), .int .i64 rate, .int .i64 room, (.agg #[.int .i64 W0, .int .i64 W1]), (.agg #[.int .i64 S0, .int .i64 S1]), .bool true, .bool false, undef, undef, (.agg #[.int .i64 S0, .int .i64 S1]), (.agg #[.int .i64 S0, .int .i64 S1, .int .i64 0, .int .i64 0, .int .i64 0, .int .i64 0]), (.agg #[.int .i64 W0, .int .i64 W1]), (.agg #[.int .i64 S0, .int .i64 S1]), (.func (.func 127) #[] #[.pointer (some ⟨B1, 0, none⟩), .pointer (some ⟨B2, 0, none⟩)]), .int .i64 (lbit x), undef, undef, undef, undef, undef, undef, undef, undef, undef, undef, undef, undef, undef, undef, undef, undef, undef, undef, undef, undef, undef, undef, undef, undef, undef, undef, undef, undef, undef, undef, undef, undef, undef], defers := [] }) ?assign ?body ?done ?stop
  case assign =>
    intro l x W K hK
    gi_wp2
    exact hK
  case body =>
    rintro l pre x W hI hlen
    have hk := lgo_k rate room pre
    have hle := lgo_le rate room pre
    obtain ⟨s, hs⟩ : ∃ s, Hid (lgo rate room pre = s) := ⟨_, rfl⟩
    rw [hs.out] at hI hk hle
    obtain ⟨y1, y2, y3, y4, y5, y6⟩ := hle
    have v1 := hI.rate.cell 0
    have v2 := hI.room.cell 0
    have v3 := hI.r.cell 2
    have v4 := hI.r.cell 3
    have v5 := hI.r.cell 4
    have v6 := hI.r.cell 5
    have v7 := hI.l.cell 0
    have v8 := hI.l.cell 1
    have v9 := hI.k.cell 0
    simp at v1 v2 v3 v4 v5 v6 v7 v8 v9
    have f3 := hI.r.frozen 2
    have f4 := hI.r.frozen 3
    have f5 := hI.r.frozen 4
    have f6 := hI.r.frozen 5
    have f7 := hI.l.frozen 0
    have f8 := hI.l.frozen 1
    have f9 := hI.k.frozen 0
    have e1 : IntKind.i64.wrap ((s.c0 : Int) + 1) = s.c0 + 1 := IntWalk.i64_in _ (by omega)
    have e2 : IntKind.i64.wrap ((s.c1 : Int) + 1) = s.c1 + 1 := IntWalk.i64_in _ (by omega)
    have e3 : IntKind.i64.wrap ((s.l0 : Int) + 1) = s.l0 + 1 := IntWalk.i64_in _ (by omega)
    have e4 : IntKind.i64.wrap ((s.l1 : Int) + 1) = s.l1 + 1 := IntWalk.i64_in _ (by omega)
    have e5 : IntKind.i64.wrap ((s.x0 : Int) + 1) = s.x0 + 1 := IntWalk.i64_in _ (by omega)
    have e6 : IntKind.i64.wrap ((s.x1 : Int) + 1) = s.x1 + 1 := IntWalk.i64_in _ (by omega)
    have e7 : IntKind.i64.wrap ((s.k : Int) + 1) = s.k + 1 := IntWalk.i64_in _ (by omega)
    have e8 : IntKind.i64.wrap ((rate : Int) + (room : Int)) = rate + room := IntWalk.i64_in _ (by omega)
    have lk := hI.k.lt
    clear hk hlen y1 y2 y3 y4 y5 y6
    cases x
    · show Code.wpIn _ _ _ _ _ { tmps := #[.int .i64 rate, .int .i64 room, (.agg #[.int .i64 W0, .int .i64 W1]), (.agg #[.int .i64 S0, .int .i64 S1]), .pointer (some ⟨w.heap.size, 0, none⟩), .pointer (some ⟨(w.heap.size + 1), 0, none⟩), .pointer (some ⟨(w.heap.size + 2), 0, none⟩), .pointer (some ⟨(w.heap.size + 3), 0, none⟩), .pointer (some ⟨(w.heap.size + 4), 0, none⟩), .pointer (some ⟨(w.heap.size + 5), 0, none⟩), .int .i64 0, .pointer (some ⟨R, 0, none⟩), .pointer (some ⟨L, 0, none⟩), .pointer (some ⟨K, 0, none⟩), .int .i64 0, .int .i64 rate, .int .i64 room, (.agg #[.int .i64 W0, .int .i64 W1]), (.agg #[.int .i64 S0, .int .i64 S1]), .bool true, .bool false, undef, undef, (.agg #[.int .i64 S0, .int .i64 S1]), (.agg #[.int .i64 S0, .int .i64 S1, .int .i64 0, .int .i64 0, .int .i64 0, .int .i64 0]), (.agg #[.int .i64 W0, .int .i64 W1]), (.agg #[.int .i64 S0, .int .i64 S1]), (.func (.func 127) #[] #[.pointer (some ⟨B1, 0, none⟩), .pointer (some ⟨B2, 0, none⟩)]), .int .i64 0, undef, undef, undef, undef, undef, undef, undef, undef, undef, undef, undef, undef, undef, undef, undef, undef, undef, undef, undef, undef, undef, undef, undef, undef, undef, undef, undef, undef, undef, undef, undef, undef, undef], defers := [] } _
      by_cases hc : s.k < rate
      ·
        have g1 : decide ((s.k : Int) < (rate : Int)) = true := by simp; omega
        gi_wp2
        refine ⟨(KeepsOthers.setCell _ _ _).trans (KeepsOthers.setCell _ _ _), ?_, ?_⟩
        · exact ⟨(Below.heap_setCell _ ⟨K, 0, none⟩ _ B1 (by simp only [ne_eq]; omega)).trans (Below.heap_setCell _ ⟨R, 2, none⟩ _ B1 (by simp only [ne_eq]; omega)), (Below.heap_setCell _ ⟨K, 0, none⟩ _ B2 (by simp only [ne_eq]; omega)).trans (Below.heap_setCell _ ⟨R, 2, none⟩ _ B2 (by simp only [ne_eq]; omega))⟩
        · show LInv w w.heap.size R L K rate room S0 S1 (lgo rate room (pre ++ [false])) _
          rw [lgo_snoc, hs.out]
          simp only [lstep, if_pos hc, Bool.false_eq_true, if_true, if_false]
          exact ⟨((hI.rate.far (p := ⟨R, 2, none⟩) (by simp only [ne_eq]; omega) _).far (p := ⟨K, 0, none⟩) (by simp only [ne_eq]; omega) _), ((hI.room.far (p := ⟨R, 2, none⟩) (by simp only [ne_eq]; omega) _).far (p := ⟨K, 0, none⟩) (by simp only [ne_eq]; omega) _), ((hI.o1.far (p := ⟨R, 2, none⟩) (by simp only [ne_eq]; omega) _).far (p := ⟨K, 0, none⟩) (by simp only [ne_eq]; omega) _), ((hI.o2.far (p := ⟨R, 2, none⟩) (by simp only [ne_eq]; omega) _).far (p := ⟨K, 0, none⟩) (by simp only [ne_eq]; omega) _), ((hI.r.put 2 (.int .i64 ((s.c0 : Int) + 1))).far (p := ⟨K, 0, none⟩) (by simp only [ne_eq]; omega) _), ((hI.l.far (p := ⟨R, 2, none⟩) (by simp only [ne_eq]; omega) _).far (p := ⟨K, 0, none⟩) (by simp only [ne_eq]; omega) _), ((hI.k.far (p := ⟨R, 2, none⟩) (by simp only [ne_eq]; omega) _).put 0 (.int .i64 ((s.k : Int) + 1))), (hI.below.setCell (p := ⟨R, 2, none⟩) (by first | omega | (dsimp only; omega)) _).setCell (p := ⟨K, 0, none⟩) (by first | omega | (dsimp only; omega)) _⟩
      by_cases hd : s.k < rate + room
      ·
        have g1 : decide ((s.k : Int) < (rate : Int)) = false := by simp; omega
        have g2 : decide ((s.k : Int) < (rate : Int) + (room : Int)) = true := by simp; omega
        gi_wp2
        refine ⟨(KeepsOthers.setCell _ _ _).trans (KeepsOthers.setCell _ _ _), ?_, ?_⟩
        · exact ⟨(Below.heap_setCell _ ⟨K, 0, none⟩ _ B1 (by simp only [ne_eq]; omega)).trans (Below.heap_setCell _ ⟨L, 0, none⟩ _ B1 (by simp only [ne_eq]; omega)), (Below.heap_setCell _ ⟨K, 0, none⟩ _ B2 (by simp only [ne_eq]; omega)).trans (Below.heap_setCell _ ⟨L, 0, none⟩ _ B2 (by simp only [ne_eq]; omega))⟩
        · show LInv w w.heap.size R L K rate room S0 S1 (lgo rate room (pre ++ [false])) _
          rw [lgo_snoc, hs.out]
          simp only [lstep, if_neg hc, if_pos hd, Bool.false_eq_true, if_true, if_false]
          exact ⟨((hI.rate.far (p := ⟨L, 0, none⟩) (by simp only [ne_eq]; omega) _).far (p := ⟨K, 0, none⟩) (by simp only [ne_eq]; omega) _), ((hI.room.far (p := ⟨L, 0, none⟩) (by simp only [ne_eq]; omega) _).far (p := ⟨K, 0, none⟩) (by simp only [ne_eq]; omega) _), ((hI.o1.far (p := ⟨L, 0, none⟩) (by simp only [ne_eq]; omega) _).far (p := ⟨K, 0, none⟩) (by simp only [ne_eq]; omega) _), ((hI.o2.far (p := ⟨L, 0, none⟩) (by simp only [ne_eq]; omega) _).far (p := ⟨K, 0, none⟩) (by simp only [ne_eq]; omega) _), ((hI.r.far (p := ⟨L, 0, none⟩) (by simp only [ne_eq]; omega) _).far (p := ⟨K, 0, none⟩) (by simp only [ne_eq]; omega) _), ((hI.l.put 0 (.int .i64 ((s.l0 : Int) + 1))).far (p := ⟨K, 0, none⟩) (by simp only [ne_eq]; omega) _), ((hI.k.far (p := ⟨L, 0, none⟩) (by simp only [ne_eq]; omega) _).put 0 (.int .i64 ((s.k : Int) + 1))), (hI.below.setCell (p := ⟨L, 0, none⟩) (by first | omega | (dsimp only; omega)) _).setCell (p := ⟨K, 0, none⟩) (by first | omega | (dsimp only; omega)) _⟩
      ·
        have g1 : decide ((s.k : Int) < (rate : Int)) = false := by simp; omega
        have g2 : decide ((s.k : Int) < (rate : Int) + (room : Int)) = false := by simp; omega
        gi_wp2
        refine ⟨(KeepsOthers.setCell _ _ _).trans (KeepsOthers.setCell _ _ _), ?_, ?_⟩
        · exact ⟨(Below.heap_setCell _ ⟨K, 0, none⟩ _ B1 (by simp only [ne_eq]; omega)).trans (Below.heap_setCell _ ⟨R, 4, none⟩ _ B1 (by simp only [ne_eq]; omega)), (Below.heap_setCell _ ⟨K, 0, none⟩ _ B2 (by simp only [ne_eq]; omega)).trans (Below.heap_setCell _ ⟨R, 4, none⟩ _ B2 (by simp only [ne_eq]; omega))⟩
        · show LInv w w.heap.size R L K rate room S0 S1 (lgo rate room (pre ++ [false])) _
          rw [lgo_snoc, hs.out]
          simp only [lstep, if_neg hc, if_neg hd, Bool.false_eq_true, if_true, if_false]
          exact ⟨((hI.rate.far (p := ⟨R, 4, none⟩) (by simp only [ne_eq]; omega) _).far (p := ⟨K, 0, none⟩) (by simp only [ne_eq]; omega) _), ((hI.room.far (p := ⟨R, 4, none⟩) (by simp only [ne_eq]; omega) _).far (p := ⟨K, 0, none⟩) (by simp only [ne_eq]; omega) _), ((hI.o1.far (p := ⟨R, 4, none⟩) (by simp only [ne_eq]; omega) _).far (p := ⟨K, 0, none⟩) (by simp only [ne_eq]; omega) _), ((hI.o2.far (p := ⟨R, 4, none⟩) (by simp only [ne_eq]; omega) _).far (p := ⟨K, 0, none⟩) (by simp only [ne_eq]; omega) _), ((hI.r.put 4 (.int .i64 ((s.x0 : Int) + 1))).far (p := ⟨K, 0, none⟩) (by simp only [ne_eq]; omega) _), ((hI.l.far (p := ⟨R, 4, none⟩) (by simp only [ne_eq]; omega) _).far (p := ⟨K, 0, none⟩) (by simp only [ne_eq]; omega) _), ((hI.k.far (p := ⟨R, 4, none⟩) (by simp only [ne_eq]; omega) _).put 0 (.int .i64 ((s.k : Int) + 1))), (hI.below.setCell (p := ⟨R, 4, none⟩) (by first | omega | (dsimp only; omega)) _).setCell (p := ⟨K, 0, none⟩) (by first | omega | (dsimp only; omega)) _⟩
    · show Code.wpIn _ _ _ _ _ { tmps := #[.int .i64 rate, .int .i64 room, (.agg #[.int .i64 W0, .int .i64 W1]), (.agg #[.int .i64 S0, .int .i64 S1]), .pointer (some ⟨w.heap.size, 0, none⟩), .pointer (some ⟨(w.heap.size + 1), 0, none⟩), .pointer (some ⟨(w.heap.size + 2), 0, none⟩), .pointer (some ⟨(w.heap.size + 3), 0, none⟩), .pointer (some ⟨(w.heap.size + 4), 0, none⟩), .pointer (some ⟨(w.heap.size + 5), 0, none⟩), .int .i64 0, .pointer (some ⟨R, 0, none⟩), .pointer (some ⟨L, 0, none⟩), .pointer (some ⟨K, 0, none⟩), .int .i64 1, .int .i64 rate, .int .i64 room, (.agg #[.int .i64 W0, .int .i64 W1]), (.agg #[.int .i64 S0, .int .i64 S1]), .bool true, .bool false, undef, undef, (.agg #[.int .i64 S0, .int .i64 S1]), (.agg #[.int .i64 S0, .int .i64 S1, .int .i64 0, .int .i64 0, .int .i64 0, .int .i64 0]), (.agg #[.int .i64 W0, .int .i64 W1]), (.agg #[.int .i64 S0, .int .i64 S1]), (.func (.func 127) #[] #[.pointer (some ⟨B1, 0, none⟩), .pointer (some ⟨B2, 0, none⟩)]), .int .i64 1, undef, undef, undef, undef, undef, undef, undef, undef, undef, undef, undef, undef, undef, undef, undef, undef, undef, undef, undef, undef, undef, undef, undef, undef, undef, undef, undef, undef, undef, undef, undef, undef, undef], defers := [] } _
      by_cases hc : s.k < rate
      ·
        have g1 : decide ((s.k : Int) < (rate : Int)) = true := by simp; omega
        gi_wp2
        refine ⟨(KeepsOthers.setCell _ _ _).trans (KeepsOthers.setCell _ _ _), ?_, ?_⟩
        · exact ⟨(Below.heap_setCell _ ⟨K, 0, none⟩ _ B1 (by simp only [ne_eq]; omega)).trans (Below.heap_setCell _ ⟨R, 3, none⟩ _ B1 (by simp only [ne_eq]; omega)), (Below.heap_setCell _ ⟨K, 0, none⟩ _ B2 (by simp only [ne_eq]; omega)).trans (Below.heap_setCell _ ⟨R, 3, none⟩ _ B2 (by simp only [ne_eq]; omega))⟩
        · show LInv w w.heap.size R L K rate room S0 S1 (lgo rate room (pre ++ [true])) _
          rw [lgo_snoc, hs.out]
          simp only [lstep, if_pos hc, Bool.false_eq_true, if_true, if_false]
          exact ⟨((hI.rate.far (p := ⟨R, 3, none⟩) (by simp only [ne_eq]; omega) _).far (p := ⟨K, 0, none⟩) (by simp only [ne_eq]; omega) _), ((hI.room.far (p := ⟨R, 3, none⟩) (by simp only [ne_eq]; omega) _).far (p := ⟨K, 0, none⟩) (by simp only [ne_eq]; omega) _), ((hI.o1.far (p := ⟨R, 3, none⟩) (by simp only [ne_eq]; omega) _).far (p := ⟨K, 0, none⟩) (by simp only [ne_eq]; omega) _), ((hI.o2.far (p := ⟨R, 3, none⟩) (by simp only [ne_eq]; omega) _).far (p := ⟨K, 0, none⟩) (by simp only [ne_eq]; omega) _), ((hI.r.put 3 (.int .i64 ((s.c1 : Int) + 1))).far (p := ⟨K, 0, none⟩) (by simp only [ne_eq]; omega) _), ((hI.l.far (p := ⟨R, 3, none⟩) (by simp only [ne_eq]; omega) _).far (p := ⟨K, 0, none⟩) (by simp only [ne_eq]; omega) _), ((hI.k.far (p := ⟨R, 3, none⟩) (by simp only [ne_eq]; omega) _).put 0 (.int .i64 ((s.k : Int) + 1))), (hI.below.setCell (p := ⟨R, 3, none⟩) (by first | omega | (dsimp only; omega)) _).setCell (p := ⟨K, 0, none⟩) (by first | omega | (dsimp only; omega)) _⟩
      by_cases hd : s.k < rate + room
      ·
        have g1 : decide ((s.k : Int) < (rate : Int)) = false := by simp; omega
        have g2 : decide ((s.k : Int) < (rate : Int) + (room : Int)) = true := by simp; omega
        gi_wp2
        refine ⟨(KeepsOthers.setCell _ _ _).trans (KeepsOthers.setCell _ _ _), ?_, ?_⟩
        · exact ⟨(Below.heap_setCell _ ⟨K, 0, none⟩ _ B1 (by simp only [ne_eq]; omega)).trans (Below.heap_setCell _ ⟨L, 1, none⟩ _ B1 (by simp only [ne_eq]; omega)), (Below.heap_setCell _ ⟨K, 0, none⟩ _ B2 (by simp only [ne_eq]; omega)).trans (Below.heap_setCell _ ⟨L, 1, none⟩ _ B2 (by simp only [ne_eq]; omega))⟩
        · show LInv w w.heap.size R L K rate room S0 S1 (lgo rate room (pre ++ [true])) _
          rw [lgo_snoc, hs.out]
          simp only [lstep, if_neg hc, if_pos hd, Bool.false_eq_true, if_true, if_false]
          exact ⟨((hI.rate.far (p := ⟨L, 1, none⟩) (by simp only [ne_eq]; omega) _).far (p := ⟨K, 0, none⟩) (by simp only [ne_eq]; omega) _), ((hI.room.far (p := ⟨L, 1, none⟩) (by simp only [ne_eq]; omega) _).far (p := ⟨K, 0, none⟩) (by simp only [ne_eq]; omega) _), ((hI.o1.far (p := ⟨L, 1, none⟩) (by simp only [ne_eq]; omega) _).far (p := ⟨K, 0, none⟩) (by simp only [ne_eq]; omega) _), ((hI.o2.far (p := ⟨L, 1, none⟩) (by simp only [ne_eq]; omega) _).far (p := ⟨K, 0, none⟩) (by simp only [ne_eq]; omega) _), ((hI.r.far (p := ⟨L, 1, none⟩) (by simp only [ne_eq]; omega) _).far (p := ⟨K, 0, none⟩) (by simp only [ne_eq]; omega) _), ((hI.l.put 1 (.int .i64 ((s.l1 : Int) + 1))).far (p := ⟨K, 0, none⟩) (by simp only [ne_eq]; omega) _), ((hI.k.far (p := ⟨L, 1, none⟩) (by simp only [ne_eq]; omega) _).put 0 (.int .i64 ((s.k : Int) + 1))), (hI.below.setCell (p := ⟨L, 1, none⟩) (by first | omega | (dsimp only; omega)) _).setCell (p := ⟨K, 0, none⟩) (by first | omega | (dsimp only; omega)) _⟩
      ·
        have g1 : decide ((s.k : Int) < (rate : Int)) = false := by simp; omega
        have g2 : decide ((s.k : Int) < (rate : Int) + (room : Int)) = false := by simp; omega
        gi_wp2
        refine ⟨(KeepsOthers.setCell _ _ _).trans (KeepsOthers.setCell _ _ _), ?_, ?_⟩
        · exact ⟨(Below.heap_setCell _ ⟨K, 0, none⟩ _ B1 (by simp only [ne_eq]; omega)).trans (Below.heap_setCell _ ⟨R, 5, none⟩ _ B1 (by simp only [ne_eq]; omega)), (Below.heap_setCell _ ⟨K, 0, none⟩ _ B2 (by simp only [ne_eq]; omega)).trans (Below.heap_setCell _ ⟨R, 5, none⟩ _ B2 (by simp only [ne_eq]; omega))⟩
        · show LInv w w.heap.size R L K rate room S0 S1 (lgo rate room (pre ++ [true])) _
          rw [lgo_snoc, hs.out]
          simp only [lstep, if_neg hc, if_neg hd, Bool.false_eq_true, if_true, if_false]
          exact ⟨((hI.rate.far (p := ⟨R, 5, none⟩) (by simp only [ne_eq]; omega) _).far (p := ⟨K, 0, none⟩) (by simp only [ne_eq]; omega) _), ((hI.room.far (p := ⟨R, 5, none⟩) (by simp only [ne_eq]; omega) _).far (p := ⟨K, 0, none⟩) (by simp only [ne_eq]; omega) _), ((hI.o1.far (p := ⟨R, 5, none⟩) (by simp only [ne_eq]; omega) _).far (p := ⟨K, 0, none⟩) (by simp only [ne_eq]; omega) _), ((hI.o2.far (p := ⟨R, 5, none⟩) (by simp only [ne_eq]; omega) _).far (p := ⟨K, 0, none⟩) (by simp only [ne_eq]; omega) _), ((hI.r.put 5 (.int .i64 ((s.x1 : Int) + 1))).far (p := ⟨K, 0, none⟩) (by simp only [ne_eq]; omega) _), ((hI.l.far (p := ⟨R, 5, none⟩) (by simp only [ne_eq]; omega) _).far (p := ⟨K, 0, none⟩) (by simp only [ne_eq]; omega) _), ((hI.k.far (p := ⟨R, 5, none⟩) (by simp only [ne_eq]; omega) _).put 0 (.int .i64 ((s.k : Int) + 1))), (hI.below.setCell (p := ⟨R, 5, none⟩) (by first | omega | (dsimp only; omega)) _).setCell (p := ⟨K, 0, none⟩) (by first | omega | (dsimp only; omega)) _⟩
  case done =>
    rintro D ys W hD rfl hI hK
    have hfin : lgo rate room (lline W0 W1 S0 S1 (W0 + W1 + S0 + S1)) = lpass rate room W0 W1 S0 S1 := rfl
    rw [hfin] at hI
    obtain ⟨s, hs⟩ : ∃ s, Hid (lpass rate room W0 W1 S0 S1 = s) := ⟨_, rfl⟩
    rw [hs.out] at hI
    have r0 := hI.r.cell 0
    have o0 := hI.o1.cell 0
    have p0 := hI.o1.frozen 0
    have r1 := hI.r.cell 1
    have o1 := hI.o1.cell 1
    have p1 := hI.o1.frozen 1
    have r2 := hI.r.cell 2
    have o2 := hI.o1.cell 2
    have p2 := hI.o1.frozen 2
    have r3 := hI.r.cell 3
    have o3 := hI.o1.cell 3
    have p3 := hI.o1.frozen 3
    have r4 := hI.r.cell 4
    have o4 := hI.o1.cell 4
    have p4 := hI.o1.frozen 4
    have r5 := hI.r.cell 5
    have o5 := hI.o1.cell 5
    have p5 := hI.o1.frozen 5
    have l0 := hI.l.cell 0
    have q0 := hI.o2.cell 0
    have t0 := hI.o2.frozen 0
    have l1 := hI.l.cell 1
    have q1 := hI.o2.cell 1
    have t1 := hI.o2.frozen 1
    simp at r0 o0 r1 o1 r2 o2 r3 o3 r4 o4 r5 o5 l0 q0 l1 q1
    have hlW := hI.k.lt
    gi_wp2
    gi_region
    have hO1 : Blk ((((((((W.setCell ⟨w.heap.size + 4, 0, none⟩ (.int .i64 S0)).setCell ⟨w.heap.size + 4, 1, none⟩ (.int .i64 S1)).setCell ⟨w.heap.size + 4, 2, none⟩ (.int .i64 s.c0)).setCell ⟨w.heap.size + 4, 3, none⟩ (.int .i64 s.c1)).setCell ⟨w.heap.size + 4, 4, none⟩ (.int .i64 s.x0)).setCell ⟨w.heap.size + 4, 5, none⟩ (.int .i64 s.x1)).setCell ⟨w.heap.size + 5, 0, none⟩ (.int .i64 s.l0)).setCell ⟨w.heap.size + 5, 1, none⟩ (.int .i64 s.l1)).drew (w.heap.size + 4) 93 #[.int .i64 S0, .int .i64 S1, .int .i64 s.c0, .int .i64 s.c1, .int .i64 s.x0, .int .i64 s.x1] := by
      have hh := (((((((((hI.o1.put 0 (.int .i64 S0)).put 1 (.int .i64 S1)).put 2 (.int .i64 s.c0)).put 3 (.int .i64 s.c1)).put 4 (.int .i64 s.x0)).put 5 (.int .i64 s.x1)).far (p := ⟨w.heap.size + 5, 0, none⟩) (by simp only [ne_eq]; omega) (.int .i64 s.l0)).far (p := ⟨w.heap.size + 5, 1, none⟩) (by simp only [ne_eq]; omega) (.int .i64 s.l1))).drew
      simpa only [Array.setIfInBounds, List.size_toArray, List.length_cons, List.length_nil, Nat.reduceAdd, Nat.reduceLT, ↓reduceDIte, List.set_toArray, Array.set, List.set_cons_zero, List.set_cons_succ, List.setIfInBounds_toArray] using hh
    have hO2 : Blk ((((((((W.setCell ⟨w.heap.size + 4, 0, none⟩ (.int .i64 S0)).setCell ⟨w.heap.size + 4, 1, none⟩ (.int .i64 S1)).setCell ⟨w.heap.size + 4, 2, none⟩ (.int .i64 s.c0)).setCell ⟨w.heap.size + 4, 3, none⟩ (.int .i64 s.c1)).setCell ⟨w.heap.size + 4, 4, none⟩ (.int .i64 s.x0)).setCell ⟨w.heap.size + 4, 5, none⟩ (.int .i64 s.x1)).setCell ⟨w.heap.size + 5, 0, none⟩ (.int .i64 s.l0)).setCell ⟨w.heap.size + 5, 1, none⟩ (.int .i64 s.l1)).drew (w.heap.size + 5) 30 #[.int .i64 s.l0, .int .i64 s.l1] := by
      have hh := (((((((((hI.o2.far (p := ⟨w.heap.size + 4, 0, none⟩) (by simp only [ne_eq]; omega) (.int .i64 S0)).far (p := ⟨w.heap.size + 4, 1, none⟩) (by simp only [ne_eq]; omega) (.int .i64 S1)).far (p := ⟨w.heap.size + 4, 2, none⟩) (by simp only [ne_eq]; omega) (.int .i64 s.c0)).far (p := ⟨w.heap.size + 4, 3, none⟩) (by simp only [ne_eq]; omega) (.int .i64 s.c1)).far (p := ⟨w.heap.size + 4, 4, none⟩) (by simp only [ne_eq]; omega) (.int .i64 s.x0)).far (p := ⟨w.heap.size + 4, 5, none⟩) (by simp only [ne_eq]; omega) (.int .i64 s.x1)).put 0 (.int .i64 s.l0)).put 1 (.int .i64 s.l1))).drew
      simpa only [Array.setIfInBounds, List.size_toArray, List.length_cons, List.length_nil, Nat.reduceAdd, Nat.reduceLT, ↓reduceDIte, List.set_toArray, Array.set, List.set_cons_zero, List.set_cons_succ, List.setIfInBounds_toArray] using hh
    have hBl : Below w.heap.size w ((((((((W.setCell ⟨w.heap.size + 4, 0, none⟩ (.int .i64 S0)).setCell ⟨w.heap.size + 4, 1, none⟩ (.int .i64 S1)).setCell ⟨w.heap.size + 4, 2, none⟩ (.int .i64 s.c0)).setCell ⟨w.heap.size + 4, 3, none⟩ (.int .i64 s.c1)).setCell ⟨w.heap.size + 4, 4, none⟩ (.int .i64 s.x0)).setCell ⟨w.heap.size + 4, 5, none⟩ (.int .i64 s.x1)).setCell ⟨w.heap.size + 5, 0, none⟩ (.int .i64 s.l0)).setCell ⟨w.heap.size + 5, 1, none⟩ (.int .i64 s.l1)).drew := (((((((((hI.below.setCell (p := ⟨w.heap.size + 4, 0, none⟩) (by dsimp only; omega) (.int .i64 S0)).setCell (p := ⟨w.heap.size + 4, 1, none⟩) (by dsimp only; omega) (.int .i64 S1)).setCell (p := ⟨w.heap.size + 4, 2, none⟩) (by dsimp only; omega) (.int .i64 s.c0)).setCell (p := ⟨w.heap.size + 4, 3, none⟩) (by dsimp only; omega) (.int .i64 s.c1)).setCell (p := ⟨w.heap.size + 4, 4, none⟩) (by dsimp only; omega) (.int .i64 s.x0)).setCell (p := ⟨w.heap.size + 4, 5, none⟩) (by dsimp only; omega) (.int .i64 s.x1)).setCell (p := ⟨w.heap.size + 5, 0, none⟩) (by dsimp only; omega) (.int .i64 s.l0)).setCell (p := ⟨w.heap.size + 5, 1, none⟩) (by dsimp only; omega) (.int .i64 s.l1))).drew
    have hko : KeepsOthers W ((((((((W.setCell ⟨w.heap.size + 4, 0, none⟩ (.int .i64 S0)).setCell ⟨w.heap.size + 4, 1, none⟩ (.int .i64 S1)).setCell ⟨w.heap.size + 4, 2, none⟩ (.int .i64 s.c0)).setCell ⟨w.heap.size + 4, 3, none⟩ (.int .i64 s.c1)).setCell ⟨w.heap.size + 4, 4, none⟩ (.int .i64 s.x0)).setCell ⟨w.heap.size + 4, 5, none⟩ (.int .i64 s.x1)).setCell ⟨w.heap.size + 5, 0, none⟩ (.int .i64 s.l0)).setCell ⟨w.heap.size + 5, 1, none⟩ (.int .i64 s.l1)) := (((((((((KeepsOthers.refl W).trans (KeepsOthers.setCell _ ⟨w.heap.size + 4, 0, none⟩ (.int .i64 S0))).trans (KeepsOthers.setCell _ ⟨w.heap.size + 4, 1, none⟩ (.int .i64 S1))).trans (KeepsOthers.setCell _ ⟨w.heap.size + 4, 2, none⟩ (.int .i64 s.c0))).trans (KeepsOthers.setCell _ ⟨w.heap.size + 4, 3, none⟩ (.int .i64 s.c1))).trans (KeepsOthers.setCell _ ⟨w.heap.size + 4, 4, none⟩ (.int .i64 s.x0))).trans (KeepsOthers.setCell _ ⟨w.heap.size + 4, 5, none⟩ (.int .i64 s.x1))).trans (KeepsOthers.setCell _ ⟨w.heap.size + 5, 0, none⟩ (.int .i64 s.l0))).trans (KeepsOthers.setCell _ ⟨w.heap.size + 5, 1, none⟩ (.int .i64 s.l1)))
    have hK1 := hko.same D _ hK rfl
    clear hko
    have hK2 : ((((((((W.setCell ⟨w.heap.size + 4, 0, none⟩ (.int .i64 S0)).setCell ⟨w.heap.size + 4, 1, none⟩ (.int .i64 S1)).setCell ⟨w.heap.size + 4, 2, none⟩ (.int .i64 s.c0)).setCell ⟨w.heap.size + 4, 3, none⟩ (.int .i64 s.c1)).setCell ⟨w.heap.size + 4, 4, none⟩ (.int .i64 s.x0)).setCell ⟨w.heap.size + 4, 5, none⟩ (.int .i64 s.x1)).setCell ⟨w.heap.size + 5, 0, none⟩ (.int .i64 s.l0)).setCell ⟨w.heap.size + 5, 1, none⟩ (.int .i64 s.l1)).drew.heap[D]? = some (.deferred (some [])) := by
      generalize ((((((((W.setCell ⟨w.heap.size + 4, 0, none⟩ (.int .i64 S0)).setCell ⟨w.heap.size + 4, 1, none⟩ (.int .i64 S1)).setCell ⟨w.heap.size + 4, 2, none⟩ (.int .i64 s.c0)).setCell ⟨w.heap.size + 4, 3, none⟩ (.int .i64 s.c1)).setCell ⟨w.heap.size + 4, 4, none⟩ (.int .i64 s.x0)).setCell ⟨w.heap.size + 4, 5, none⟩ (.int .i64 s.x1)).setCell ⟨w.heap.size + 5, 0, none⟩ (.int .i64 s.l0)).setCell ⟨w.heap.size + 5, 1, none⟩ (.int .i64 s.l1)) = wg at *
      exact hK1
    clear hK1
    generalize ((((((((W.setCell ⟨w.heap.size + 4, 0, none⟩ (.int .i64 S0)).setCell ⟨w.heap.size + 4, 1, none⟩ (.int .i64 S1)).setCell ⟨w.heap.size + 4, 2, none⟩ (.int .i64 s.c0)).setCell ⟨w.heap.size + 4, 3, none⟩ (.int .i64 s.c1)).setCell ⟨w.heap.size + 4, 4, none⟩ (.int .i64 s.x0)).setCell ⟨w.heap.size + 4, 5, none⟩ (.int .i64 s.x1)).setCell ⟨w.heap.size + 5, 0, none⟩ (.int .i64 s.l0)).setCell ⟨w.heap.size + 5, 1, none⟩ (.int .i64 s.l1)).drew = W2 at *
    have hg := grownBy_putObj' W2 D (.deferred none)
    have hr : ∀ r, some D = some r → ∃ o : Obj, W2.heap[r]? = some o ∧ o.isCells = false := fun r e => by cases e; exact ⟨_, hK2, rfl⟩
    have hP1 := hO1.kept hg hr
    have hP2 := hO2.kept hg hr
    have hP3 : Below w.heap.size w (W2.putObj D (.deferred none)) := hBl.trans (belowK_b (w := w) (Nat.le_refl _) W2 D _ _ (by omega) hK2 rfl rfl)
    have x0 := hP1.cell 0
    have x1 := hP1.cell 1
    have x2 := hP1.cell 2
    have x3 := hP1.cell 3
    have x4 := hP1.cell 4
    have x5 := hP1.cell 5
    have y0 := hP2.cell 0
    have y1 := hP2.cell 1
    simp at x0 x1 x2 x3 x4 x5 y0 y1
    gi_wp2
    refine ⟨by simp, .inl ⟨_, _, rfl, run_takeDeferred hK2, ?_⟩⟩
    refine ⟨.tuple #[.agg #[.int .i64 S0, .int .i64 S1, .int .i64 s.c0, .int .i64 s.c1, .int .i64 s.x0, .int .i64 s.x1], .agg #[.int .i64 s.l0, .int .i64 s.l1], .int .i64 0], ?_, by rw [hs.out], hP3⟩
    simp [results, Tryz.f70, go_sem, x0, x1, x2, x3, x4, x5, y0, y1]
  case stop =>
    rintro D c pre W _ _ h _
    exact h.elim
end Go.Proofs.YtgmljgcmfooniaaGreatDoor
