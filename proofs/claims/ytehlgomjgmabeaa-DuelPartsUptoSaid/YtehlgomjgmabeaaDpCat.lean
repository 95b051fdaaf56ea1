/- slices.Grow from nothing, slices.Concat of two, at [][2]int. Conditions: lengths that fit. -/
import Derived.Test.YtehlgomjgmabeaaDpBase
import Derived.Lib.AppendZerosOnto
import Derived.Lib.SliceRun
import Derived.Deep.AppendSrc
set_option linter.unusedVariables false
set_option linter.unusedSimpArgs false
namespace Go.Proofs.Ytehlgomjgmabeaa
open Go.RowKit Go.Shelf Go.Tide
set_option linter.unusedVariables false
set_option linter.unusedSimpArgs false
theorem rowC_zero {w : World} {C n : Nat} {f : Nat → Nat → Int} (h : RowC w C none n f) : n = 0 := by
  rcases Nat.eq_zero_or_pos n with h0 | h0
  · exact h0
  · obtain ⟨b, off, e, _⟩ := h h0
    cases e
theorem run_append_nil (v : Value) (n c : Nat) (xs : List Value) (base : Nat) (w : World) (hown : w.ownsRow base 22 2 v n xs) (ty : TypeId) :
    (Builtin.append_ #[25, 25] ty #[v, .slice none 0 c]).run Try.prog w = .ok v w := by
  obtain ⟨i0_, hi, hz0, hz1, hz2⟩ := info_parts twoInfo
  rcases hown.2 with ⟨rfl, rfl⟩ | ⟨g, cap, cur, rfl, _, hg, hcap, _⟩
  · have h := run_append_room_src (P := Try.prog) w 25 25 ty 22 i0_ Try.underlying25 hi
    simp [Builtin.append_, run_underlying Try.underlying25, Go.sizeOf, typeInfo, hi, Builtin.lenOf, Builtin.firstCells]
  · have h := run_append_room_src (P := Try.prog) w 25 25 ty 22 i0_ Try.underlying25 hi g 0 n cap (.slice none 0 c) 0 [] (Src.ofNil w Try.underlying25 c) (by omega) (fun j hj => by simp at hj) (fun j hj => by simp at hj)
    rw [h]
    rfl
set_option maxRecDepth 100000 in
theorem wpList_append_row {ops : Array Oper} {rest : List Oper} {o : Oper} {a : Act} {w : World} {Q : Exit → Act → World → Prop} (hgd : o.guard = none) (s x : Operand)
    (ho : o.op = .call { callee := .builtin .append, args := #[s, x], argTypes := #[25, 25] })
    (base : Nat) (v : Value) (n : Nat) (xs : List Value) (hs : a.eval s = v) (hown : w.ownsRow base 22 2 v n xs)
    (ad : Option Addr) (m c : Nat) (f : Nat → Nat → Int) (hx : a.eval x = .slice ad m c) (hf : RowC w 2 ad m f) (h63 : n + m ≤ 4194304) (hbase : base ≤ w.heap.size)
    (h : ∀ v' w', w'.ownsRow base 22 2 v' (n + m) (xs ++ cellsC 2 m f) → w.grownBy w' v.ownBlock → wpList Try.prog ops Q rest (a.put o.dst v') w') : wpList Try.prog ops Q (o :: rest) a w := by
  obtain ⟨i0_, hi, hz0, hz1, hz2⟩ := info_parts twoInfo
  cases ad with
  | none =>
    obtain rfl := rowC_zero hf
    refine Lib.wpList_append_run w hgd s x 25 25 ho v (.slice none 0 c) hs hx v w (run_append_nil v n c xs base w hown _) ?_
    have h1 := h v w (by simpa [cellsC] using hown) ⟨rfl, rfl, rfl, Nat.le_refl _, fun _ _ _ => rfl⟩
    exact h1
  | some p =>
    refine wpList_append_own w hgd s x 25 ho base 22 i0_ (.agg #[.int .i64 0, .int .i64 0]) 2 16 Try.underlying25 hi hz0 hz1 hz2 rfl (by decide) v n xs hs hown p m c (cellsC 2 m f) hx (cellsC_length 2 m f) (fun j u hj => ?_) (cellsC_one 2 m f) (by simp only [maxLen]; omega) (by omega) hbase (fun v' w' h1 h2 _ => h v' w' h1 h2)
    have h0 : 0 < m := by
      rcases Nat.eq_zero_or_pos m with h | h
      · subst h; simp [cellsC] at hj
      · exact h
    obtain ⟨b, off, e, _⟩ := hf h0
    injection e with e
    subst e
    rw [Addr.add_lit]
    exact newsC (by omega) hf j u hj
set_option maxHeartbeats 2000000 in
theorem grow2_zero (w : World) : Calls Try.prog 29 #[.slice none 0 0, .int .i64 0] w fun e w' => e = .returned (.slice none 0 0) ∧ w = w' := by
  have w0_ : IntKind.i64.wrap 0 = 0 := by decide
  go_enter Try.func29, Try.ntmps29
  go_wp2
  go_ret
  exact ⟨rfl, rfl⟩
set_option maxRecDepth 100000 in
set_option maxHeartbeats 4000000 in
theorem grow2_some (n : Nat) (w : World) (h0 : 0 < n) (hn : n ≤ 2097152) : Calls Try.prog 29 #[.slice none 0 0, .int .i64 n] w fun e w' => ∃ v, e = .returned v ∧ w'.ownsRow w.heap.size 22 2 v 0 [] ∧ Below w.heap.size w w' := by
  obtain ⟨i0_, hi, hz0, hz1, hz2⟩ := info_parts twoInfo
  have hold : (Builtin.firstCells i0_.size 0 (.slice none 0 0)).run Try.prog w.drew = .ok (([] : List Value).toArray) w.drew := run_firstCells_none w.drew i0_.size 0 0 0
  have hrz : ∀ ty, (Builtin.append_ #[25, 3] ty #[.slice none 0 0, .int .i64 (n : Nat)]).run Try.prog w =
      .ok (.slice (some ⟨w.heap.size, 0, none⟩) n (grownCap w n 0 22)) (w.drew.alloc (.cells (([] : List Value).toArray ++ Builtin.zeroCells (Value.cells (.agg #[.int .i64 0, .int .i64 0])) n ++ Builtin.zeroCells (Value.cells (.agg #[.int .i64 0, .int .i64 0])) (grownCap w n 0 22 - n)) 22)) := fun ty => by
    have h := Lib.run_append_grow_zeros w 25 3 ty 22 i0_ (.agg #[.int .i64 0, .int .i64 0]) .i64 .i64 Try.underlying25 Try.underlying3 hi hz0 none 0 0 [] hold n h0 (by rw [hz1]; omega) (by omega) (by omega) (by rw [hz2]; omega)
      (by rw [Nat.zero_add]; exact growslice_fits (by omega) (by rw [hz2]; omega))
    rw [Nat.zero_add] at h
    exact h
  have hGn : n ≤ grownCap w n 0 22 := grownCap_ge w _ _ _
  have hGm : grownCap w n 0 22 ≤ maxLen := grownCap_le_maxLen w n 0 22 (by unfold maxLen; omega)
  obtain ⟨G, hG⟩ : ∃ G, G = grownCap w n 0 22 := ⟨_, rfl⟩
  rw [← hG] at hrz hGn hGm
  have hG63 : G ≤ 9223372036854775807 := by unfold maxLen at hGm; omega
  have wn : IntKind.i64.wrap (n : Int) = (n : Int) := IntWalk.i64_in _ (by omega)
  have w0_ : IntKind.i64.wrap 0 = 0 := by decide
  have t1 : (0 : Int) < (n : Int) := by omega
  have HGm := Lib.hid hGm
  clear hold hG hGm
  go_enter Try.func29, Try.ntmps29
  go_wp2_with (at_builtin; refine Lib.wpList_append_run _ rfl _ _ _ _ rfl _ _ rfl rfl _ _ (hrz _) ?_)
  go_ret
  refine ⟨_, rfl, ⟨rfl, .inr ⟨w.heap.size, G, _, rfl, Nat.le_refl _, heap_alloc_new w.drew _, Nat.zero_le _, HGm.out, ?_, ?_⟩⟩, ((Below.refl _ _).drew).alloc (Nat.le_refl _) _⟩
  · simp [Builtin.zeroCells, Value.cells]
    omega
  · simp
theorem grow2_any (n : Nat) (w : World) (hn : n ≤ 2097152) : Calls Try.prog 29 #[.slice none 0 0, .int .i64 n] w fun e w' => ∃ v, e = .returned v ∧ w'.ownsRow w.heap.size 22 2 v 0 [] ∧ Below w.heap.size w w' := by
  rcases Nat.eq_zero_or_pos n with rfl | h0
  · refine (grow2_zero w).mono ?_
    rintro e w' ⟨rfl, rfl⟩
    exact ⟨_, rfl, World.ownsRow_nil _ _ _ _, Below.refl _ _⟩
  · exact grow2_some n w h0 hn
set_option maxRecDepth 100000 in
set_option maxHeartbeats 4000000 in
theorem concat2 (sb : Nat) (a1 : Option Addr) (n1 c1 : Nat) (f1 : Nat → Nat → Int) (a2 : Option Addr) (n2 c2 : Nat) (f2 : Nat → Nat → Int) (w : World) (hS : w.cell? ⟨sb, 0, none⟩ = some (.slice a1 n1 c1)) (hS1 : w.cell? ⟨sb, 1, none⟩ = some (.slice a2 n2 c2)) (hlt : sb < w.heap.size)
    (h1 : RowC w 2 a1 n1 f1) (h2 : RowC w 2 a2 n2 f2) (hn1 : n1 ≤ 1048576) (hn2 : n2 ≤ 1048576) :
    Calls Try.prog 13 #[.slice (some ⟨sb, 0, none⟩) 2 2] w fun e w' => ∃ v, e = .returned v ∧ w'.ownsRow w.heap.size 22 2 v (n1 + n2) (cellsC 2 n1 f1 ++ cellsC 2 n2 f2) ∧ Below w.heap.size w w' := by
  have wa : IntKind.i64.wrap (n1 : Int) = (n1 : Int) := IntWalk.i64_in _ (by omega)
  have wb : IntKind.i64.wrap ((n1 : Int) + (n2 : Int)) = ((n1 + n2 : Nat) : Int) := by rw [IntWalk.i64_in _ (by omega)]; omega
  have w1_ : IntKind.i64.wrap 1 = 1 := by decide
  have w2_ : IntKind.i64.wrap 2 = 2 := by decide
  go_enter Try.func13, Try.ntmps13
  go_wp2_with fail
  go_loopw [3, 11] (fun q c wr => ∃ k : Nat, k ≤ 2 ∧ c = .int .i64 k ∧ q = .int .i64 ((if k = 0 then 0 else if k = 1 then n1 else n1 + n2 : Nat) : Int) ∧ wr = w) (fun _ c _ => 2 - (intOf c).toNat)
  case atStart => exact ⟨0, by omega, rfl, rfl, rfl⟩
  case round =>
    obtain ⟨k, hk, hc, hq, hwr⟩ := hrel
    have hwr := hwr.symm
    subst hwr
    rcases (show k = 0 ∨ k = 1 ∨ k = 2 by omega) with rfl | rfl | rfl
    · have hc : _ = Value.int .i64 0 := hc
      have hq : _ = Value.int .i64 0 := hq
      subst hc hq
      go_wp2
      go_roundw
      case rel => exact ⟨1, by omega, by go_num, by simp, by first | rfl | trivial⟩
      case measure => simp [intOf]
    · have hc : _ = Value.int .i64 1 := hc
      have hq : _ = Value.int .i64 (n1 : Nat) := hq
      subst hc hq
      go_wp2
      go_roundw
      case rel => exact ⟨2, by omega, by go_num, by simp, by first | rfl | trivial⟩
      case measure => simp [intOf]
    · have hc : _ = Value.int .i64 2 := hc
      have hq : _ = Value.int .i64 ((n1 + n2 : Nat) : Int) := hq
      subst hc hq
      go_wp2_with fail
      refine (grow2_any (n1 + n2) w (by omega)).mono ?_
      rintro e w2 ⟨v0, rfl, hown, hb⟩
      obtain ⟨B, hB⟩ : ∃ B, Hid (w.heap.size = B) := ⟨_, rfl⟩
      rw [hB.out] at hown
      have hBs : B ≤ w2.heap.size := by rw [← hB.out]; exact hb.size
      have HB : Hid (Below B w w2) := by show Below B w w2; rw [← hB.out]; exact hb
      have hsB : sb < B := by rw [← hB.out]; exact hlt
      clear hb wa wb
      go_wp2_with fail
      go_loopw [6, 27] (fun v c wx => ∃ k : Nat, k ≤ 2 ∧ c = .int .i64 k ∧ wx.ownsRow B 22 2 v (if k = 0 then 0 else if k = 1 then n1 else n1 + n2) (if k = 0 then [] else if k = 1 then cellsC 2 n1 f1 else cellsC 2 n1 f1 ++ cellsC 2 n2 f2) ∧ Below B w wx) (fun _ c _ => 2 - (intOf c).toNat)
      case atStart => exact ⟨0, by omega, rfl, by simpa using hown, HB.out⟩
      case round =>
        obtain ⟨k, hk, hc, hown, hbw⟩ := hrel
        have hbs := hbw.size
        have y0 : wr.cell? ⟨sb, 0, none⟩ = some (.slice a1 n1 c1) := (hbw.cell (p := ⟨sb, 0, none⟩) hsB).trans hS
        have y1 : wr.cell? ⟨sb, 1, none⟩ = some (.slice a2 n2 c2) := (hbw.cell (p := ⟨sb, 1, none⟩) hsB).trans hS1
        have r1 : RowC wr 2 a1 n1 f1 := h1.below (by rw [hB.out]; exact hbw) (Nat.le_refl _)
        have r2 : RowC wr 2 a2 n2 f2 := h2.below (by rw [hB.out]; exact hbw) (Nat.le_refl _)
        have hBx : B ≤ wr.heap.size := by have := hB.out; omega
        rcases (show k = 0 ∨ k = 1 ∨ k = 2 by omega) with rfl | rfl | rfl
        · have hc : _ = Value.int .i64 0 := hc
          have hown : wr.ownsRow B 22 2 u6 0 [] := hown
          subst hc
          go_wp2_with (at_builtin; refine wpList_append_row rfl (.tmp 31) (.tmp 32) rfl B u6 0 [] rfl hown a1 n1 c1 f1 rfl r1 (by omega) hBx ?_; intro v' w5 hown5 hgrow5)
          rw [Nat.zero_add, List.nil_append] at hown5
          have hb5 : Below B w w5 := hbw.grown hgrow5 hBx fun g e => (own_lt hown e).1
          clear hown hgrow5 y0 y1 r1 r2 hbw
          go_roundw
          case rel => exact ⟨1, by omega, by go_num, by simpa using hown5, hb5⟩
          case measure => simp [intOf]
        · have hc : _ = Value.int .i64 1 := hc
          have hown : wr.ownsRow B 22 2 u6 n1 (cellsC 2 n1 f1) := hown
          subst hc
          go_wp2_with (at_builtin; refine wpList_append_row rfl (.tmp 31) (.tmp 32) rfl B u6 n1 (cellsC 2 n1 f1) rfl hown a2 n2 c2 f2 rfl r2 (by omega) hBx ?_; intro v' w5 hown5 hgrow5)
          have hb5 : Below B w w5 := hbw.grown hgrow5 hBx fun g e => (own_lt hown e).1
          clear hown hgrow5 y0 y1 r1 r2 hbw
          go_roundw
          case rel => exact ⟨2, by omega, by go_num, by simpa using hown5, hb5⟩
          case measure => simp [intOf]
        · have hc : _ = Value.int .i64 2 := hc
          have hown : wr.ownsRow B 22 2 u6 (n1 + n2) (cellsC 2 n1 f1 ++ cellsC 2 n2 f2) := hown
          subst hc
          have HO := Lib.hid hown
          have HBW := Lib.hid hbw
          clear hown hbw y0 y1 r1 r2
          go_wp2
          go_ret
          exact ⟨_, rfl, by rw [hB.out]; exact HO.out, by rw [hB.out]; exact HBW.out⟩
end Go.Proofs.Ytehlgomjgmabeaa
