/- The closure that collects the edges of steady.Graph. Conditions: none. -/
import Derived.Test.YtgmljgcmfooniaaGreatDoorSq
import Derived.Test.YtgmljgcmfooniaaGreatDoorStStates
set_option linter.unusedVariables false
set_option linter.unusedSimpArgs false
namespace Go.Proofs.YtgmljgcmfooniaaGreatDoor
open Go.RowKit Go.Shelf Go.Tide
set_option linter.unusedVariables false
set_option linter.unusedSimpArgs false
/-- What an edge weighs. -/
def eWt (who : Nat) (ratio : Int) (q : Nat → Int) : Int := q (2 + who) - ratio * q (2 + (1 - who))
/-- The edges' cells. -/
def egF (who : Nat) (ratio : Int) (E : List Edge) (k j : Nat) : Int := match E[k]? with
  | some e => if j = 0 then e.1 else if j = 1 then e.2.1 else eWt who ratio e.2.2
  | none => 0
theorem eg_snoc (who : Nat) (ratio : Int) (E : List Edge) (k n : Nat) (q : Nat → Int) : cellsC 3 (E.length + 1) (egF who ratio (E ++ [(k, n, q)])) = cellsC 3 E.length (egF who ratio E) ++ [.int .i64 (k : Nat), .int .i64 (n : Nat), .int .i64 (eWt who ratio q)] := by
  rw [cellsC_succ]
  congr 1
  · refine cellsC_congr fun a j ha hj => ?_
    unfold egF
    rw [snoc_lt ha]
  · have e : ∀ j, egF who ratio (E ++ [(k, n, q)]) E.length j = if j = 0 then (k : Int) else if j = 1 then (n : Int) else eWt who ratio q := fun j => by
      unfold egF
      rw [snoc_at]
    show (List.range 3).map (fun j => Value.int .i64 (egF who ratio (E ++ [(k, n, q)]) E.length j)) = _
    simp only [e]
    rfl
/-- What stands behind so many edges told: the graph's box G, and the boxes of who and ratio. -/
def TG (G bw br who : Nat) (ratio : Int) (E : List Edge) (X : Nat → Prop) (W : World) : Prop :=
  ∃ v : Value, Blk W G 80 #[.int .i64 0, v] ∧ W.ownsRow (G + 1) 88 3 v E.length (cellsC 3 E.length (egF who ratio E)) ∧ Blk W bw 3 #[.int .i64 (who : Nat)] ∧ Blk W br 3 #[.int .i64 ratio] ∧ ∀ g, X g ↔ (g = G ∨ g = bw ∨ g = br ∨ v.ownBlock = some g)
theorem edgeInfo : (Tryz.prog.info? 88).map (fun i => (i.zero, i.size, i.bytes)) = some (some (.agg #[.int .i64 0, .int .i64 0, .int .i64 0]), 3, 24) := by kernel_rfl
set_option maxRecDepth 20000 in
set_option maxHeartbeats 2000000 in
theorem graph1_0 (G bw br : Nat) (ratio k n : Int) (q : Nat → Int) (X : Nat → Prop) (v : Value) (n0 : Nat) (xs : List Value) (W : World) (hG : Blk W G 80 #[.int .i64 0, v]) (ho : W.ownsRow (G + 1) 88 3 v n0 xs) (hw : Blk W bw 3 #[.int .i64 0]) (hr : Blk W br 3 #[.int .i64 ratio])
    (hX : Hid (X G ∧ ∀ g, v.ownBlock = some g → X g)) (hv : v.ownBlock ≠ some bw ∧ v.ownBlock ≠ some br) (hbG : bw ≠ G ∧ br ≠ G) (hq : ∀ j, 0 ≤ q j ∧ q j ≤ 100) (hra : 0 ≤ ratio ∧ ratio ≤ 100) (hn : n0 ≤ 4800) :
    Calls Tryz.prog 62 #[.int .i64 k, .int .i64 n, .agg #[.int .i64 (q 0), .int .i64 (q 1), .int .i64 (q 2), .int .i64 (q 3), .int .i64 (q 4), .int .i64 (q 5)], .pointer (some ⟨G, 0, none⟩), .pointer (some ⟨bw, 0, none⟩), .pointer (some ⟨br, 0, none⟩)] W fun e w' => e = .returned (.tuple #[]) ∧
      ∃ gg cap, Blk w' G 80 #[.int .i64 0, .slice (some ⟨gg, 0, none⟩) (n0 + 1) cap] ∧ w'.ownsRow (G + 1) 88 3 (.slice (some ⟨gg, 0, none⟩) (n0 + 1) cap) (n0 + 1) (xs ++ [.int .i64 k, .int .i64 n, .int .i64 (q 2 - ratio * q 3)]) ∧
        Blk w' bw 3 #[.int .i64 0] ∧ Blk w' br 3 #[.int .i64 ratio] ∧ Off X W w' ∧ (v.ownBlock = some gg ∨ W.heap.size ≤ gg) := by
  obtain ⟨a0_, ai, az0, az1, az2⟩ := info_parts edgeInfo
  have b2 := hq 2
  have b3 := hq 3
  have HQ := Lib.hid hq
  have m1 : 0 ≤ ratio * q 3 ∧ ratio * q 3 ≤ 10000 := by
    constructor
    · exact Int.mul_nonneg hra.1 b3.1
    · have h1 := Int.mul_le_mul hra.2 b3.2 b3.1 (by omega : (0 : Int) ≤ 100)
      omega
  have w1_ : IntKind.i64.wrap 1 = 1 := by decide
  have w0_ : IntKind.i64.wrap 0 = 0 := by decide
  have v1 : IntKind.i64.wrap (ratio * q 3) = ratio * q 3 := IntWalk.i64_in _ (by omega)
  have v2 : IntKind.i64.wrap (q 2 - ratio * q 3) = q 2 - ratio * q 3 := IntWalk.i64_in _ (by omega)
  have vG : v.ownBlock ≠ some G := fun e => by have := (own_lt ho e).1; omega
  have vx : v.ownBlock ≠ some W.heap.size := fun e => by have := (own_lt ho e).2; omega
  have vw := hv.1
  have vr := hv.2
  have hlG := hG.lt
  have hlw := hw.lt
  have hlr := hr.lt
  clear hq m1 hv
  go_enter Tryz.func62, Tryz.ntmps62
  go_wp2_with fail
  have hx : Blk (W.alloc (.cells #[.int .i64 (q 0), .int .i64 (q 1), .int .i64 (q 2), .int .i64 (q 3), .int .i64 (q 4), .int .i64 (q 5)] 93)) W.heap.size 93 #[.int .i64 (q 0), .int .i64 (q 1), .int .i64 (q 2), .int .i64 (q 3), .int .i64 (q 4), .int .i64 (q 5)] := Blk.new _ _ _
  have hbe : Off X W (W.alloc (.cells #[.int .i64 (q 0), .int .i64 (q 1), .int .i64 (q 2), .int .i64 (q 3), .int .i64 (q 4), .int .i64 (q 5)] 93)) := (Off.refl _ _).alloc _
  have hsW : W.heap.size < (W.alloc (.cells #[.int .i64 (q 0), .int .i64 (q 1), .int .i64 (q 2), .int .i64 (q 3), .int .i64 (q 4), .int .i64 (q 5)] 93)).heap.size := by simp
  replace hG := hG.alloc (.cells #[.int .i64 (q 0), .int .i64 (q 1), .int .i64 (q 2), .int .i64 (q 3), .int .i64 (q 4), .int .i64 (q 5)] 93)
  replace hw := hw.alloc (.cells #[.int .i64 (q 0), .int .i64 (q 1), .int .i64 (q 2), .int .i64 (q 3), .int .i64 (q 4), .int .i64 (q 5)] 93)
  replace hr := hr.alloc (.cells #[.int .i64 (q 0), .int .i64 (q 1), .int .i64 (q 2), .int .i64 (q 3), .int .i64 (q 4), .int .i64 (q 5)] 93)
  replace ho := ho.alloc (.cells #[.int .i64 (q 0), .int .i64 (q 1), .int .i64 (q 2), .int .i64 (q 3), .int .i64 (q 4), .int .i64 (q 5)] 93)
  have hlx := hx.lt
  generalize W.alloc (.cells #[.int .i64 (q 0), .int .i64 (q 1), .int .i64 (q 2), .int .i64 (q 3), .int .i64 (q 4), .int .i64 (q 5)] 93) = W2 at *
  obtain ⟨xb, hxb⟩ : ∃ xb, Hid (W.heap.size = xb) := ⟨_, rfl⟩
  rw [hxb.out] at hx hlx vx hsW ⊢
  refine wp_region_two (S := (fun w' => Blk w' G 80 #[.int .i64 0, v] ∧ Blk w' bw 3 #[.int .i64 0] ∧ Blk w' br 3 #[.int .i64 ratio] ∧ Blk w' xb 93 #[.int .i64 (q 0), .int .i64 (q 1), .int .i64 (q 2), .int .i64 (q 3), .int .i64 (q 4), .int .i64 (q 5)])) 20 (by kernel_rfl) ?_ (fun hHeld => ?_)
  · exact ⟨hG, hw, hr, hx⟩
  have hG' := hG.drew
  have hw' := hw.drew
  have hr' := hr.drew
  have hx' := hx.drew
  have ho' : W2.drew.ownsRow (G + 1) 88 3 v n0 xs := ho
  have hbe' : Off X W W2.drew := hbe.drew
  have hlx' : xb < W2.drew.heap.size := hlx
  have hsz' : W2.heap.size = W2.drew.heap.size := rfl
  have hlG4 := hG'.lt
  clear hG hw hr hx ho hbe hlx
  generalize W2.drew = w4 at *
  refine t2 0 ?_ rfl ⟨by rfl, ?_⟩ ?_
  rotate_left 1
  · intro w' hSw
    obtain ⟨hs1, hs2, hs3, hs4⟩ := hSw
    have f1 := hs1.cell 1
    have f2 := hs2.cell 0
    have f3 := hs3.cell 0
    have f4 := hs4.cell 2
    have f5 := hs4.cell 3
    simp at f1 f2 f3 f4 f5
    clear hs1 hs2 hs3 hs4
    go_simp
    try (with_reducible rfl)
  try simp only [lay]
  refine t2 1 ?_ rfl ⟨by rfl, ?_⟩ ?_
  rotate_left 1
  · intro w' hSw
    obtain ⟨hs1, hs2, hs3, hs4⟩ := hSw
    have f1 := hs1.cell 1
    have f2 := hs2.cell 0
    have f3 := hs3.cell 0
    have f4 := hs4.cell 2
    have f5 := hs4.cell 3
    simp at f1 f2 f3 f4 f5
    clear hs1 hs2 hs3 hs4
    go_simp
    try (with_reducible rfl)
  try simp only [lay]
  refine t2 2 ?_ rfl ⟨by rfl, ?_⟩ ?_
  rotate_left 1
  · intro w' hSw
    obtain ⟨hs1, hs2, hs3, hs4⟩ := hSw
    have f1 := hs1.cell 1
    have f2 := hs2.cell 0
    have f3 := hs3.cell 0
    have f4 := hs4.cell 2
    have f5 := hs4.cell 3
    simp at f1 f2 f3 f4 f5
    clear hs1 hs2 hs3 hs4
    go_simp
    try (with_reducible rfl)
  try simp only [lay]
  refine t2 3 ?_ rfl ⟨by rfl, ?_⟩ ?_
  rotate_left 1
  · intro w' hSw
    obtain ⟨hs1, hs2, hs3, hs4⟩ := hSw
    have f1 := hs1.cell 1
    have f2 := hs2.cell 0
    have f3 := hs3.cell 0
    have f4 := hs4.cell 2
    have f5 := hs4.cell 3
    simp at f1 f2 f3 f4 f5
    clear hs1 hs2 hs3 hs4
    go_simp
    try (with_reducible rfl)
  try simp only [lay]
  refine t2 4 ?_ rfl ⟨by rfl, ?_⟩ ?_
  rotate_left 1
  · intro w' hSw
    obtain ⟨hs1, hs2, hs3, hs4⟩ := hSw
    have f1 := hs1.cell 1
    have f2 := hs2.cell 0
    have f3 := hs3.cell 0
    have f4 := hs4.cell 2
    have f5 := hs4.cell 3
    simp at f1 f2 f3 f4 f5
    clear hs1 hs2 hs3 hs4
    go_simp
    try (with_reducible rfl)
  try simp only [lay]
  refine t2 5 ?_ rfl ⟨by rfl, ?_⟩ ?_
  rotate_left 1
  · intro w' hSw
    obtain ⟨hs1, hs2, hs3, hs4⟩ := hSw
    have f1 := hs1.cell 1
    have f2 := hs2.cell 0
    have f3 := hs3.cell 0
    have f4 := hs4.cell 2
    have f5 := hs4.cell 3
    simp at f1 f2 f3 f4 f5
    clear hs1 hs2 hs3 hs4
    go_simp
    try (with_reducible rfl)
  try simp only [lay]
  refine t2 6 ?_ rfl ⟨by rfl, ?_⟩ ?_
  rotate_left 1
  · intro w' hSw
    obtain ⟨hs1, hs2, hs3, hs4⟩ := hSw
    have f1 := hs1.cell 1
    have f2 := hs2.cell 0
    have f3 := hs3.cell 0
    have f4 := hs4.cell 2
    have f5 := hs4.cell 3
    simp at f1 f2 f3 f4 f5
    clear hs1 hs2 hs3 hs4
    go_simp
    try (with_reducible rfl)
  try simp only [lay]
  refine t2 7 ?_ rfl ⟨by rfl, ?_⟩ ?_
  rotate_left 1
  · intro w' hSw
    obtain ⟨hs1, hs2, hs3, hs4⟩ := hSw
    have f1 := hs1.cell 1
    have f2 := hs2.cell 0
    have f3 := hs3.cell 0
    have f4 := hs4.cell 2
    have f5 := hs4.cell 3
    simp at f1 f2 f3 f4 f5
    clear hs1 hs2 hs3 hs4
    go_simp
    try (with_reducible rfl)
  try simp only [lay]
  refine t2 8 ?_ rfl ⟨by rfl, ?_⟩ ?_
  rotate_left 1
  · intro w' hSw
    obtain ⟨hs1, hs2, hs3, hs4⟩ := hSw
    have f1 := hs1.cell 1
    have f2 := hs2.cell 0
    have f3 := hs3.cell 0
    have f4 := hs4.cell 2
    have f5 := hs4.cell 3
    simp at f1 f2 f3 f4 f5
    clear hs1 hs2 hs3 hs4
    go_simp
    try (with_reducible rfl)
  try simp only [lay]
  refine t2 9 ?_ rfl ⟨by rfl, ?_⟩ ?_
  rotate_left 1
  · intro w' hSw
    obtain ⟨hs1, hs2, hs3, hs4⟩ := hSw
    have f1 := hs1.cell 1
    have f2 := hs2.cell 0
    have f3 := hs3.cell 0
    have f4 := hs4.cell 2
    have f5 := hs4.cell 3
    simp at f1 f2 f3 f4 f5
    clear hs1 hs2 hs3 hs4
    go_simp
    try (with_reducible rfl)
  try simp only [lay]
  refine t2 10 ?_ rfl ⟨by rfl, ?_⟩ ?_
  rotate_left 1
  · intro w' hSw
    obtain ⟨hs1, hs2, hs3, hs4⟩ := hSw
    have f1 := hs1.cell 1
    have f2 := hs2.cell 0
    have f3 := hs3.cell 0
    have f4 := hs4.cell 2
    have f5 := hs4.cell 3
    simp at f1 f2 f3 f4 f5
    clear hs1 hs2 hs3 hs4
    go_simp
    try (with_reducible rfl)
  try simp only [lay]
  refine t2 11 ?_ rfl ⟨by rfl, ?_⟩ ?_
  rotate_left 1
  · intro w' hSw
    obtain ⟨hs1, hs2, hs3, hs4⟩ := hSw
    have f1 := hs1.cell 1
    have f2 := hs2.cell 0
    have f3 := hs3.cell 0
    have f4 := hs4.cell 2
    have f5 := hs4.cell 3
    simp at f1 f2 f3 f4 f5
    clear hs1 hs2 hs3 hs4
    go_simp
    try (with_reducible rfl)
  try simp only [lay]
  refine t2 12 ?_ rfl ⟨by rfl, ?_⟩ ?_
  rotate_left 1
  · intro w' hSw
    obtain ⟨hs1, hs2, hs3, hs4⟩ := hSw
    have f1 := hs1.cell 1
    have f2 := hs2.cell 0
    have f3 := hs3.cell 0
    have f4 := hs4.cell 2
    have f5 := hs4.cell 3
    simp at f1 f2 f3 f4 f5
    clear hs1 hs2 hs3 hs4
    go_simp
    try (with_reducible rfl)
  try simp only [lay]
  refine t2 13 ?_ rfl ⟨by rfl, ?_⟩ ?_
  rotate_left 1
  · intro w' hSw
    obtain ⟨hs1, hs2, hs3, hs4⟩ := hSw
    have f1 := hs1.cell 1
    have f2 := hs2.cell 0
    have f3 := hs3.cell 0
    have f4 := hs4.cell 2
    have f5 := hs4.cell 3
    simp at f1 f2 f3 f4 f5
    clear hs1 hs2 hs3 hs4
    go_simp
    try (with_reducible rfl)
  try simp only [lay]
  refine t2 14 ?_ rfl ⟨by rfl, ?_⟩ ?_
  rotate_left 1
  · intro w' hSw
    obtain ⟨hs1, hs2, hs3, hs4⟩ := hSw
    have f1 := hs1.cell 1
    have f2 := hs2.cell 0
    have f3 := hs3.cell 0
    have f4 := hs4.cell 2
    have f5 := hs4.cell 3
    simp at f1 f2 f3 f4 f5
    clear hs1 hs2 hs3 hs4
    go_simp
    try (with_reducible rfl)
  try simp only [lay]
  refine t2 15 ?_ rfl ⟨by rfl, ?_⟩ ?_
  rotate_left 1
  · intro w' hSw
    obtain ⟨hs1, hs2, hs3, hs4⟩ := hSw
    have f1 := hs1.cell 1
    have f2 := hs2.cell 0
    have f3 := hs3.cell 0
    have f4 := hs4.cell 2
    have f5 := hs4.cell 3
    simp at f1 f2 f3 f4 f5
    clear hs1 hs2 hs3 hs4
    go_simp
    try (with_reducible rfl)
  try simp only [lay]
  refine t2 16 ?_ rfl ⟨by rfl, ?_⟩ ?_
  rotate_left 1
  · intro w' hSw
    obtain ⟨hs1, hs2, hs3, hs4⟩ := hSw
    have f1 := hs1.cell 1
    have f2 := hs2.cell 0
    have f3 := hs3.cell 0
    have f4 := hs4.cell 2
    have f5 := hs4.cell 3
    simp at f1 f2 f3 f4 f5
    clear hs1 hs2 hs3 hs4
    go_simp
    try (with_reducible rfl)
  try simp only [lay]
  refine two_ready (rs := [17]) (by kernel_rfl) (by kernel_rfl) (by simp) ?_
  refine AllReadyB.cons rfl (fun K hK => ?_) AllReadyB.nil
  go_simp
  have hT := Blk.new w4 88 #[.int .i64 k, .int .i64 n, .int .i64 (q 2 - ratio * q 3)]
  refine hK.out _ _ ?_ (fun hHeld => ?_)
  · exact ⟨hG'.alloc _, hw'.alloc _, hr'.alloc _, hx'.alloc _⟩
  clear hK K
  try simp only [lay]
  refine two_ready (rs := [18]) (by kernel_rfl) (by kernel_rfl) (by simp) ?_
  refine AllReadyB.cons rfl (fun K hK => ?_) AllReadyB.nil
  refine step_append_lies _ (by rfl) _ _ _ (by rfl) (G + 1) 88 a0_ _ 3 24 Tryz.underlying78 ai az0 az1 az2 rfl (by omega) v n0 xs (by rfl) (ho'.alloc _) _ 1 1 [.int .i64 k, .int .i64 n, .int .i64 (q 2 - ratio * q 3)] (by rfl) (by rfl) (hT.news) (by simp [Value.oneCell']) (by omega) (by simp only [maxLen]; omega) (by omega) (by simp; omega) _ rfl ?_
  intro gg cap w6 hown hgrow hat hlt6
  have hG6 := (hG'.alloc _).grown hgrow (fun e => vG e.symm)
  have hw6 := (hw'.alloc _).grown hgrow (fun e => vw e.symm)
  have hr6 := (hr'.alloc _).grown hgrow (fun e => vr e.symm)
  have hx6 := (hx'.alloc _).grown hgrow (fun e => vx e.symm)
  refine hK.out _ _ ?_ (fun hHeld => ?_)
  · exact ⟨hG6, hw6, hr6, hx6⟩
  clear hK K
  try simp only [lay]
  refine p20 19 rfl ?_; try simp only [lay]
  refine two_ready (rs := [20]) (by kernel_rfl) (by kernel_rfl) (by simp) ?_
  refine AllReadyB.last rfl (fun K hK => ?_)
  have q1 := hG6.cell 1
  have p1 := hG6.frozen 1
  simp at q1
  go_simp
  refine hK.out _ _ ?_
  clear hK K
  try simp only [lay]
  refine two_late (by kernel_rfl) ?_
  refine wpAny_done (by kernel_rfl) ?_ _
  go_end0
  have hown2 := own_far (p := ⟨G, 1, none⟩) hown (fun e => by have := (own_lt hown e).1; dsimp only at this; omega) (.slice (some ⟨gg, 0, none⟩) (n0 + 1) cap)
  have hG7 := hG6.put 1 (.slice (some ⟨gg, 0, none⟩) (n0 + 1) cap)
  simp only [List.setIfInBounds_toArray, List.set_cons_zero, List.set_cons_succ] at hG7
  refine ⟨rfl, gg, cap, hG7, hown2, hw6.far (p := ⟨G, 1, none⟩) hbG.1 _, hr6.far (p := ⟨G, 1, none⟩) hbG.2 _, ((hbe'.alloc _).trans (Off.of_grown hgrow (fun g e _ => hX.out.2 g e)) |>.setCell (p := ⟨G, 1, none⟩) (fun _ => hX.out.1) _), ?_⟩
  rcases hat with hat | hat
  · exact .inl hat
  · simp at hat
    exact .inr (by have := hxb.out; omega)
set_option maxRecDepth 20000 in
set_option maxHeartbeats 2000000 in
theorem graph1_1 (G bw br : Nat) (ratio k n : Int) (q : Nat → Int) (X : Nat → Prop) (v : Value) (n0 : Nat) (xs : List Value) (W : World) (hG : Blk W G 80 #[.int .i64 0, v]) (ho : W.ownsRow (G + 1) 88 3 v n0 xs) (hw : Blk W bw 3 #[.int .i64 1]) (hr : Blk W br 3 #[.int .i64 ratio])
    (hX : Hid (X G ∧ ∀ g, v.ownBlock = some g → X g)) (hv : v.ownBlock ≠ some bw ∧ v.ownBlock ≠ some br) (hbG : bw ≠ G ∧ br ≠ G) (hq : ∀ j, 0 ≤ q j ∧ q j ≤ 100) (hra : 0 ≤ ratio ∧ ratio ≤ 100) (hn : n0 ≤ 4800) :
    Calls Tryz.prog 62 #[.int .i64 k, .int .i64 n, .agg #[.int .i64 (q 0), .int .i64 (q 1), .int .i64 (q 2), .int .i64 (q 3), .int .i64 (q 4), .int .i64 (q 5)], .pointer (some ⟨G, 0, none⟩), .pointer (some ⟨bw, 0, none⟩), .pointer (some ⟨br, 0, none⟩)] W fun e w' => e = .returned (.tuple #[]) ∧
      ∃ gg cap, Blk w' G 80 #[.int .i64 0, .slice (some ⟨gg, 0, none⟩) (n0 + 1) cap] ∧ w'.ownsRow (G + 1) 88 3 (.slice (some ⟨gg, 0, none⟩) (n0 + 1) cap) (n0 + 1) (xs ++ [.int .i64 k, .int .i64 n, .int .i64 (q 3 - ratio * q 2)]) ∧
        Blk w' bw 3 #[.int .i64 1] ∧ Blk w' br 3 #[.int .i64 ratio] ∧ Off X W w' ∧ (v.ownBlock = some gg ∨ W.heap.size ≤ gg) := by
  obtain ⟨a0_, ai, az0, az1, az2⟩ := info_parts edgeInfo
  have b2 := hq 2
  have b3 := hq 3
  have HQ := Lib.hid hq
  have m1 : 0 ≤ ratio * q 2 ∧ ratio * q 2 ≤ 10000 := by
    constructor
    · exact Int.mul_nonneg hra.1 b2.1
    · have h1 := Int.mul_le_mul hra.2 b2.2 b2.1 (by omega : (0 : Int) ≤ 100)
      omega
  have w1_ : IntKind.i64.wrap 1 = 1 := by decide
  have w0_ : IntKind.i64.wrap 0 = 0 := by decide
  have v1 : IntKind.i64.wrap (ratio * q 2) = ratio * q 2 := IntWalk.i64_in _ (by omega)
  have v2 : IntKind.i64.wrap (q 3 - ratio * q 2) = q 3 - ratio * q 2 := IntWalk.i64_in _ (by omega)
  have vG : v.ownBlock ≠ some G := fun e => by have := (own_lt ho e).1; omega
  have vx : v.ownBlock ≠ some W.heap.size := fun e => by have := (own_lt ho e).2; omega
  have vw := hv.1
  have vr := hv.2
  have hlG := hG.lt
  have hlw := hw.lt
  have hlr := hr.lt
  clear hq m1 hv
  go_enter Tryz.func62, Tryz.ntmps62
  go_wp2_with fail
  have hx : Blk (W.alloc (.cells #[.int .i64 (q 0), .int .i64 (q 1), .int .i64 (q 2), .int .i64 (q 3), .int .i64 (q 4), .int .i64 (q 5)] 93)) W.heap.size 93 #[.int .i64 (q 0), .int .i64 (q 1), .int .i64 (q 2), .int .i64 (q 3), .int .i64 (q 4), .int .i64 (q 5)] := Blk.new _ _ _
  have hbe : Off X W (W.alloc (.cells #[.int .i64 (q 0), .int .i64 (q 1), .int .i64 (q 2), .int .i64 (q 3), .int .i64 (q 4), .int .i64 (q 5)] 93)) := (Off.refl _ _).alloc _
  have hsW : W.heap.size < (W.alloc (.cells #[.int .i64 (q 0), .int .i64 (q 1), .int .i64 (q 2), .int .i64 (q 3), .int .i64 (q 4), .int .i64 (q 5)] 93)).heap.size := by simp
  replace hG := hG.alloc (.cells #[.int .i64 (q 0), .int .i64 (q 1), .int .i64 (q 2), .int .i64 (q 3), .int .i64 (q 4), .int .i64 (q 5)] 93)
  replace hw := hw.alloc (.cells #[.int .i64 (q 0), .int .i64 (q 1), .int .i64 (q 2), .int .i64 (q 3), .int .i64 (q 4), .int .i64 (q 5)] 93)
  replace hr := hr.alloc (.cells #[.int .i64 (q 0), .int .i64 (q 1), .int .i64 (q 2), .int .i64 (q 3), .int .i64 (q 4), .int .i64 (q 5)] 93)
  replace ho := ho.alloc (.cells #[.int .i64 (q 0), .int .i64 (q 1), .int .i64 (q 2), .int .i64 (q 3), .int .i64 (q 4), .int .i64 (q 5)] 93)
  have hlx := hx.lt
  generalize W.alloc (.cells #[.int .i64 (q 0), .int .i64 (q 1), .int .i64 (q 2), .int .i64 (q 3), .int .i64 (q 4), .int .i64 (q 5)] 93) = W2 at *
  obtain ⟨xb, hxb⟩ : ∃ xb, Hid (W.heap.size = xb) := ⟨_, rfl⟩
  rw [hxb.out] at hx hlx vx hsW ⊢
  refine wp_region_two (S := (fun w' => Blk w' G 80 #[.int .i64 0, v] ∧ Blk w' bw 3 #[.int .i64 1] ∧ Blk w' br 3 #[.int .i64 ratio] ∧ Blk w' xb 93 #[.int .i64 (q 0), .int .i64 (q 1), .int .i64 (q 2), .int .i64 (q 3), .int .i64 (q 4), .int .i64 (q 5)])) 20 (by kernel_rfl) ?_ (fun hHeld => ?_)
  · exact ⟨hG, hw, hr, hx⟩
  have hG' := hG.drew
  have hw' := hw.drew
  have hr' := hr.drew
  have hx' := hx.drew
  have ho' : W2.drew.ownsRow (G + 1) 88 3 v n0 xs := ho
  have hbe' : Off X W W2.drew := hbe.drew
  have hlx' : xb < W2.drew.heap.size := hlx
  have hsz' : W2.heap.size = W2.drew.heap.size := rfl
  have hlG4 := hG'.lt
  clear hG hw hr hx ho hbe hlx
  generalize W2.drew = w4 at *
  refine t2 0 ?_ rfl ⟨by rfl, ?_⟩ ?_
  rotate_left 1
  · intro w' hSw
    obtain ⟨hs1, hs2, hs3, hs4⟩ := hSw
    have f1 := hs1.cell 1
    have f2 := hs2.cell 0
    have f3 := hs3.cell 0
    have f4 := hs4.cell 2
    have f5 := hs4.cell 3
    simp at f1 f2 f3 f4 f5
    clear hs1 hs2 hs3 hs4
    go_simp
    try (with_reducible rfl)
  try simp only [lay]
  refine t2 1 ?_ rfl ⟨by rfl, ?_⟩ ?_
  rotate_left 1
  · intro w' hSw
    obtain ⟨hs1, hs2, hs3, hs4⟩ := hSw
    have f1 := hs1.cell 1
    have f2 := hs2.cell 0
    have f3 := hs3.cell 0
    have f4 := hs4.cell 2
    have f5 := hs4.cell 3
    simp at f1 f2 f3 f4 f5
    clear hs1 hs2 hs3 hs4
    go_simp
    try (with_reducible rfl)
  try simp only [lay]
  refine t2 2 ?_ rfl ⟨by rfl, ?_⟩ ?_
  rotate_left 1
  · intro w' hSw
    obtain ⟨hs1, hs2, hs3, hs4⟩ := hSw
    have f1 := hs1.cell 1
    have f2 := hs2.cell 0
    have f3 := hs3.cell 0
    have f4 := hs4.cell 2
    have f5 := hs4.cell 3
    simp at f1 f2 f3 f4 f5
    clear hs1 hs2 hs3 hs4
    go_simp
    try (with_reducible rfl)
  try simp only [lay]
  refine t2 3 ?_ rfl ⟨by rfl, ?_⟩ ?_
  rotate_left 1
  · intro w' hSw
    obtain ⟨hs1, hs2, hs3, hs4⟩ := hSw
    have f1 := hs1.cell 1
    have f2 := hs2.cell 0
    have f3 := hs3.cell 0
    have f4 := hs4.cell 2
    have f5 := hs4.cell 3
    simp at f1 f2 f3 f4 f5
    clear hs1 hs2 hs3 hs4
    go_simp
    try (with_reducible rfl)
  try simp only [lay]
  refine t2 4 ?_ rfl ⟨by rfl, ?_⟩ ?_
  rotate_left 1
  · intro w' hSw
    obtain ⟨hs1, hs2, hs3, hs4⟩ := hSw
    have f1 := hs1.cell 1
    have f2 := hs2.cell 0
    have f3 := hs3.cell 0
    have f4 := hs4.cell 2
    have f5 := hs4.cell 3
    simp at f1 f2 f3 f4 f5
    clear hs1 hs2 hs3 hs4
    go_simp
    try (with_reducible rfl)
  try simp only [lay]
  refine t2 5 ?_ rfl ⟨by rfl, ?_⟩ ?_
  rotate_left 1
  · intro w' hSw
    obtain ⟨hs1, hs2, hs3, hs4⟩ := hSw
    have f1 := hs1.cell 1
    have f2 := hs2.cell 0
    have f3 := hs3.cell 0
    have f4 := hs4.cell 2
    have f5 := hs4.cell 3
    simp at f1 f2 f3 f4 f5
    clear hs1 hs2 hs3 hs4
    go_simp
    try (with_reducible rfl)
  try simp only [lay]
  refine t2 6 ?_ rfl ⟨by rfl, ?_⟩ ?_
  rotate_left 1
  · intro w' hSw
    obtain ⟨hs1, hs2, hs3, hs4⟩ := hSw
    have f1 := hs1.cell 1
    have f2 := hs2.cell 0
    have f3 := hs3.cell 0
    have f4 := hs4.cell 2
    have f5 := hs4.cell 3
    simp at f1 f2 f3 f4 f5
    clear hs1 hs2 hs3 hs4
    go_simp
    try (with_reducible rfl)
  try simp only [lay]
  refine t2 7 ?_ rfl ⟨by rfl, ?_⟩ ?_
  rotate_left 1
  · intro w' hSw
    obtain ⟨hs1, hs2, hs3, hs4⟩ := hSw
    have f1 := hs1.cell 1
    have f2 := hs2.cell 0
    have f3 := hs3.cell 0
    have f4 := hs4.cell 2
    have f5 := hs4.cell 3
    simp at f1 f2 f3 f4 f5
    clear hs1 hs2 hs3 hs4
    go_simp
    try (with_reducible rfl)
  try simp only [lay]
  refine t2 8 ?_ rfl ⟨by rfl, ?_⟩ ?_
  rotate_left 1
  · intro w' hSw
    obtain ⟨hs1, hs2, hs3, hs4⟩ := hSw
    have f1 := hs1.cell 1
    have f2 := hs2.cell 0
    have f3 := hs3.cell 0
    have f4 := hs4.cell 2
    have f5 := hs4.cell 3
    simp at f1 f2 f3 f4 f5
    clear hs1 hs2 hs3 hs4
    go_simp
    try (with_reducible rfl)
  try simp only [lay]
  refine t2 9 ?_ rfl ⟨by rfl, ?_⟩ ?_
  rotate_left 1
  · intro w' hSw
    obtain ⟨hs1, hs2, hs3, hs4⟩ := hSw
    have f1 := hs1.cell 1
    have f2 := hs2.cell 0
    have f3 := hs3.cell 0
    have f4 := hs4.cell 2
    have f5 := hs4.cell 3
    simp at f1 f2 f3 f4 f5
    clear hs1 hs2 hs3 hs4
    go_simp
    try (with_reducible rfl)
  try simp only [lay]
  refine t2 10 ?_ rfl ⟨by rfl, ?_⟩ ?_
  rotate_left 1
  · intro w' hSw
    obtain ⟨hs1, hs2, hs3, hs4⟩ := hSw
    have f1 := hs1.cell 1
    have f2 := hs2.cell 0
    have f3 := hs3.cell 0
    have f4 := hs4.cell 2
    have f5 := hs4.cell 3
    simp at f1 f2 f3 f4 f5
    clear hs1 hs2 hs3 hs4
    go_simp
    try (with_reducible rfl)
  try simp only [lay]
  refine t2 11 ?_ rfl ⟨by rfl, ?_⟩ ?_
  rotate_left 1
  · intro w' hSw
    obtain ⟨hs1, hs2, hs3, hs4⟩ := hSw
    have f1 := hs1.cell 1
    have f2 := hs2.cell 0
    have f3 := hs3.cell 0
    have f4 := hs4.cell 2
    have f5 := hs4.cell 3
    simp at f1 f2 f3 f4 f5
    clear hs1 hs2 hs3 hs4
    go_simp
    try (with_reducible rfl)
  try simp only [lay]
  refine t2 12 ?_ rfl ⟨by rfl, ?_⟩ ?_
  rotate_left 1
  · intro w' hSw
    obtain ⟨hs1, hs2, hs3, hs4⟩ := hSw
    have f1 := hs1.cell 1
    have f2 := hs2.cell 0
    have f3 := hs3.cell 0
    have f4 := hs4.cell 2
    have f5 := hs4.cell 3
    simp at f1 f2 f3 f4 f5
    clear hs1 hs2 hs3 hs4
    go_simp
    try (with_reducible rfl)
  try simp only [lay]
  refine t2 13 ?_ rfl ⟨by rfl, ?_⟩ ?_
  rotate_left 1
  · intro w' hSw
    obtain ⟨hs1, hs2, hs3, hs4⟩ := hSw
    have f1 := hs1.cell 1
    have f2 := hs2.cell 0
    have f3 := hs3.cell 0
    have f4 := hs4.cell 2
    have f5 := hs4.cell 3
    simp at f1 f2 f3 f4 f5
    clear hs1 hs2 hs3 hs4
    go_simp
    try (with_reducible rfl)
  try simp only [lay]
  refine t2 14 ?_ rfl ⟨by rfl, ?_⟩ ?_
  rotate_left 1
  · intro w' hSw
    obtain ⟨hs1, hs2, hs3, hs4⟩ := hSw
    have f1 := hs1.cell 1
    have f2 := hs2.cell 0
    have f3 := hs3.cell 0
    have f4 := hs4.cell 2
    have f5 := hs4.cell 3
    simp at f1 f2 f3 f4 f5
    clear hs1 hs2 hs3 hs4
    go_simp
    try (with_reducible rfl)
  try simp only [lay]
  refine t2 15 ?_ rfl ⟨by rfl, ?_⟩ ?_
  rotate_left 1
  · intro w' hSw
    obtain ⟨hs1, hs2, hs3, hs4⟩ := hSw
    have f1 := hs1.cell 1
    have f2 := hs2.cell 0
    have f3 := hs3.cell 0
    have f4 := hs4.cell 2
    have f5 := hs4.cell 3
    simp at f1 f2 f3 f4 f5
    clear hs1 hs2 hs3 hs4
    go_simp
    try (with_reducible rfl)
  try simp only [lay]
  refine t2 16 ?_ rfl ⟨by rfl, ?_⟩ ?_
  rotate_left 1
  · intro w' hSw
    obtain ⟨hs1, hs2, hs3, hs4⟩ := hSw
    have f1 := hs1.cell 1
    have f2 := hs2.cell 0
    have f3 := hs3.cell 0
    have f4 := hs4.cell 2
    have f5 := hs4.cell 3
    simp at f1 f2 f3 f4 f5
    clear hs1 hs2 hs3 hs4
    go_simp
    try (with_reducible rfl)
  try simp only [lay]
  refine two_ready (rs := [17]) (by kernel_rfl) (by kernel_rfl) (by simp) ?_
  refine AllReadyB.cons rfl (fun K hK => ?_) AllReadyB.nil
  go_simp
  have hT := Blk.new w4 88 #[.int .i64 k, .int .i64 n, .int .i64 (q 3 - ratio * q 2)]
  refine hK.out _ _ ?_ (fun hHeld => ?_)
  · exact ⟨hG'.alloc _, hw'.alloc _, hr'.alloc _, hx'.alloc _⟩
  clear hK K
  try simp only [lay]
  refine two_ready (rs := [18]) (by kernel_rfl) (by kernel_rfl) (by simp) ?_
  refine AllReadyB.cons rfl (fun K hK => ?_) AllReadyB.nil
  refine step_append_lies _ (by rfl) _ _ _ (by rfl) (G + 1) 88 a0_ _ 3 24 Tryz.underlying78 ai az0 az1 az2 rfl (by omega) v n0 xs (by rfl) (ho'.alloc _) _ 1 1 [.int .i64 k, .int .i64 n, .int .i64 (q 3 - ratio * q 2)] (by rfl) (by rfl) (hT.news) (by simp [Value.oneCell']) (by omega) (by simp only [maxLen]; omega) (by omega) (by simp; omega) _ rfl ?_
  intro gg cap w6 hown hgrow hat hlt6
  have hG6 := (hG'.alloc _).grown hgrow (fun e => vG e.symm)
  have hw6 := (hw'.alloc _).grown hgrow (fun e => vw e.symm)
  have hr6 := (hr'.alloc _).grown hgrow (fun e => vr e.symm)
  have hx6 := (hx'.alloc _).grown hgrow (fun e => vx e.symm)
  refine hK.out _ _ ?_ (fun hHeld => ?_)
  · exact ⟨hG6, hw6, hr6, hx6⟩
  clear hK K
  try simp only [lay]
  refine p20 19 rfl ?_; try simp only [lay]
  refine two_ready (rs := [20]) (by kernel_rfl) (by kernel_rfl) (by simp) ?_
  refine AllReadyB.last rfl (fun K hK => ?_)
  have q1 := hG6.cell 1
  have p1 := hG6.frozen 1
  simp at q1
  go_simp
  refine hK.out _ _ ?_
  clear hK K
  try simp only [lay]
  refine two_late (by kernel_rfl) ?_
  refine wpAny_done (by kernel_rfl) ?_ _
  go_end0
  have hown2 := own_far (p := ⟨G, 1, none⟩) hown (fun e => by have := (own_lt hown e).1; dsimp only at this; omega) (.slice (some ⟨gg, 0, none⟩) (n0 + 1) cap)
  have hG7 := hG6.put 1 (.slice (some ⟨gg, 0, none⟩) (n0 + 1) cap)
  simp only [List.setIfInBounds_toArray, List.set_cons_zero, List.set_cons_succ] at hG7
  refine ⟨rfl, gg, cap, hG7, hown2, hw6.far (p := ⟨G, 1, none⟩) hbG.1 _, hr6.far (p := ⟨G, 1, none⟩) hbG.2 _, ((hbe'.alloc _).trans (Off.of_grown hgrow (fun g e _ => hX.out.2 g e)) |>.setCell (p := ⟨G, 1, none⟩) (fun _ => hX.out.1) _), ?_⟩
  rcases hat with hat | hat
  · exact .inl hat
  · simp at hat
    exact .inr (by have := hxb.out; omega)
/-- Who collects the edges is told of them. -/
theorem tell_graph (G bw br who : Nat) (ratio : Int) (hw : who = 0 ∨ who = 1) (hr : 0 ≤ ratio ∧ ratio ≤ 100) (hne : bw < G ∧ br < G) : Tell 62 #[.pointer (some ⟨G, 0, none⟩), .pointer (some ⟨bw, 0, none⟩), .pointer (some ⟨br, 0, none⟩)] (TG G bw br who ratio) where
  enters := enters_of Tryz.func62 (by kernel_rfl) rfl
  keep := fun E X W W' h k => by
    obtain ⟨v, h1, h2, h3, h4, h5⟩ := h
    have hx : ∀ g, (g = G ∨ g = bw ∨ g = br ∨ v.ownBlock = some g) → ¬ ¬ X g := fun g hg hn => hn ((h5 g).2 hg)
    exact ⟨v, h1.off k (hx _ (.inl rfl)), own_off h2 k (fun g e => hx g (.inr (.inr (.inr e)))), h3.off k (hx _ (.inr (.inl rfl))), h4.off k (hx _ (.inr (.inr (.inl rfl)))), h5⟩
  cells := fun E X W g h hg => by
    obtain ⟨v, h1, h2, h3, h4, h5⟩ := h
    rcases (h5 g).1 hg with rfl | rfl | rfl | e
    · exact ⟨_, h1, rfl⟩
    · exact ⟨_, h3, rfl⟩
    · exact ⟨_, h4, rfl⟩
    · exact own_cells h2 e
  call := fun E X W k n q h hk hn hq hE => by
    obtain ⟨v, h1, h2, h3, h4, h5⟩ := h
    have hX : Hid (X G ∧ ∀ g, v.ownBlock = some g → X g) := ⟨(h5 G).2 (.inl rfl), fun g e => (h5 g).2 (.inr (.inr (.inr e)))⟩
    have hv : v.ownBlock ≠ some bw ∧ v.ownBlock ≠ some br := ⟨fun e => by have := (own_lt h2 e).1; omega, fun e => by have := (own_lt h2 e).1; omega⟩
    have fin : ∀ (w' : World) (gg cap : Nat), Blk w' G 80 #[.int .i64 0, .slice (some ⟨gg, 0, none⟩) (E.length + 1) cap] → w'.ownsRow (G + 1) 88 3 (.slice (some ⟨gg, 0, none⟩) (E.length + 1) cap) (E.length + 1) (cellsC 3 E.length (egF who ratio E) ++ [.int .i64 (k : Nat), .int .i64 (n : Nat), .int .i64 (eWt who ratio q)]) →
        Blk w' bw 3 #[.int .i64 (who : Nat)] → Blk w' br 3 #[.int .i64 ratio] → Off X W w' → (v.ownBlock = some gg ∨ W.heap.size ≤ gg) →
        ∃ X', TG G bw br who ratio (E ++ [(k, n, q)]) X' w' ∧ Off X W w' ∧ ∀ g, X' g → X g ∨ W.heap.size ≤ g := fun w' gg cap a1 a2 a3 a4 a5 a6 => by
      refine ⟨fun g => g = G ∨ g = bw ∨ g = br ∨ g = gg, ⟨.slice (some ⟨gg, 0, none⟩) (E.length + 1) cap, a1, ?_, a3, a4, fun g => ?_⟩, a5, fun g hg => ?_⟩
      · rw [List.length_append, List.length_singleton, eg_snoc]
        exact a2
      · simp [Value.ownBlock, eq_comm]
      · rcases hg with e | e | e | e
        · exact .inl ((h5 g).2 (.inl e))
        · exact .inl ((h5 g).2 (.inr (.inl e)))
        · exact .inl ((h5 g).2 (.inr (.inr (.inl e))))
        · subst e
          exact a6.imp (fun e => (h5 g).2 (.inr (.inr (.inr e)))) id
    rcases hw with rfl | rfl
    · refine (graph1_0 G bw br ratio k n q X v E.length _ W h1 h2 h3 h4 hX hv ⟨by omega, by omega⟩ hq hr (by omega)).mono fun e w' hh => ?_
      obtain ⟨he, gg, cap, a1, a2, a3, a4, a5, a6⟩ := hh
      exact ⟨he, fin w' gg cap a1 a2 a3 a4 a5 a6⟩
    · refine (graph1_1 G bw br ratio k n q X v E.length _ W h1 h2 h3 h4 hX hv ⟨by omega, by omega⟩ hq hr (by omega)).mono fun e w' hh => ?_
      obtain ⟨he, gg, cap, a1, a2, a3, a4, a5, a6⟩ := hh
      exact ⟨he, fin w' gg cap a1 a2 a3 a4 a5 a6⟩
end Go.Proofs.YtgmljgcmfooniaaGreatDoor
