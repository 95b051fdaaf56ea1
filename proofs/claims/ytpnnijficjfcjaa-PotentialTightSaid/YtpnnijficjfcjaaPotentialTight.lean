/- PotentialTight: for every input the law returns true. Conditions: none. -/
import Derived.Test.YtpnnijficjfcjaaPotentialEither
set_option linter.unusedVariables false
set_option linter.unusedSimpArgs false
namespace Go.Tide
/-- By how many of the first k edges each node is just so much. -/
def justs (f : Nat → Nat → Int) (M : Nat → Int) : Nat → Nat → Int
  | 0 => fun _ => 0
  | k + 1 => if M (f k 1).toNat = M (f k 0).toNat + f k 2 then putAt (justs f M k) (f k 1).toNat (justs f M k (f k 1).toNat + 1) else justs f M k
theorem justs_bound (f : Nat → Nat → Int) (M : Nat → Int) : ∀ k v, 0 ≤ justs f M k v ∧ justs f M k v ≤ k := by
  intro k
  induction k with
  | zero => intro v; exact ⟨Int.le_refl _, Int.le_refl _⟩
  | succ k ih =>
    intro v
    have h1 := ih v
    have h2 := ih (f k 1).toNat
    unfold justs
    split
    · unfold putAt
      split <;> omega
    · omega
theorem justs_some (f : Nat → Nat → Int) (M : Nat → Int) : ∀ k j, j < k → M (f j 1).toNat = M (f j 0).toNat + f j 2 → 1 ≤ justs f M k (f j 1).toNat := by
  intro k
  induction k with
  | zero => intro j hj; omega
  | succ k ih =>
    intro j hj he
    have hb := (justs_bound f M k (f j 1).toNat).1
    unfold justs
    rcases Nat.lt_succ_iff_lt_or_eq.1 hj with h | rfl
    · have h1 := ih j h he
      split
      · unfold putAt
        split
        · rename_i e; rw [← e]; omega
        · exact h1
      · exact h1
    · rw [if_pos he, putAt_same]
      omega
end Go.Tide
namespace Go.Proofs.Ytpnnijficjfcjaa
open Go.RowKit Go.Tide
set_option linter.unusedVariables false
set_option linter.unusedSimpArgs false
set_option maxRecDepth 20000 in
set_option maxHeartbeats 4000000 in
theorem potentialTight_walk (a0_0 : Int) (a0_1 : Option Addr) (len0 cap0 : Nat) (z0 : List Int) (w : World) (b0_0 : InI64 a0_0) (f0 : IsFlat w a0_1 len0 cap0 3 z0) (r0 : cap0 * 24 ≤ 140737488351232) :
    Calls Try.prog 7 #[.agg #[.int .i64 a0_0, .slice a0_1 len0 cap0]] w fun e w' => e = .returned (.bool true) ∧ Below w.heap.size w w' := by
  have hle : len0 ≤ cap0 := by rcases f0 with ⟨_, h1, h2, _⟩ | ⟨_, _, h, _⟩ <;> omega
  have hs := f0.rowC (by omega)
  generalize (fun k j => z0.getD (k * 3 + j) 0) = f at hs
  clear f0
  by_cases hG : GRight a0_0 len0 f
  · obtain ⟨N, rfl⟩ : ∃ N : Nat, a0_0 = N := ⟨a0_0.toNat, by have := hG.1; omega⟩
    have HG := Lib.hid hG
    have hn := hG.2.2.1
    have hN := hG.2.1
    clear hG
    by_cases hL : (solved f len0 N).L < 0
    · have HST := Lib.hid (solved_still HG.out hL)
      have HJU := Lib.hid (solved_just HG.out hL)
      have HMB := Lib.hid (solved_mb HG.out)
      have HL := Lib.hid hL
      clear hL
      have hmk := fun W => run_make_row' (P := Try.prog) 32 3 (.int .i64 0) 8 Try.underlying32 intInfo rfl .i64 .i64 N (by omega) (by omega) W
      have hbg := Blk.new w 37 #[.int .i64 N, .slice a0_1 len0 cap0]
      go_enter Try.func7, Try.ntmps7
      go_wp2_with (refine (pot_alive_more _).mono ?_; rintro e w' ⟨rfl, os0, d0, rfl⟩)
      refine (most_any N _ len0 _ f _ (by repeat (first | (with_reducible assumption) | (with_reducible exact RowC.nil) | (with_reducible apply RowC.drewN) | (with_reducible apply RowC.drew) | (with_reducible apply RowC.more) | (with_reducible apply RowC.alloc))) HG.out).mono ?_
      rintro e w1 ⟨h1, hb1⟩
      have h1' : ∃ g, e = .returned (.tuple #[.slice (some ⟨g, 0, none⟩) N N, .int .i64 0]) ∧ Row w1 (some ⟨g, 0, none⟩) N (solved f len0 N).M := by
        rcases h1 with ⟨h, _⟩ | ⟨_, g, h, _, hr⟩
        · have := HL.out; omega
        · exact ⟨g, h, hr⟩
      obtain ⟨gm, rfl, hm⟩ := h1'
      have hbz := (hbg.more os0 d0).below hb1 (hbg.more os0 d0).lt
      have hfz : RowC w1 3 a0_1 len0 f := ((hs.alloc (.cells #[.int .i64 N, .slice a0_1 len0 cap0] 37)).more os0 d0).below hb1 (Nat.le_refl _)
      have HB : Hid (Below w.heap.size w w1) := below_then (More.below (by repeat (first | (with_reducible assumption) | (with_reducible exact More.refl _) | (with_reducible refine More.alloc ?_ _) | (with_reducible refine More.more ?_ _ _) | (with_reducible refine More.drewN ?_ _) | (with_reducible refine More.drew ?_)))) (by simp; omega) (More.of_below hb1)
      clear h1 hb1 hbg hs
      generalize hGe : w.heap.size = G at hbz ⊢
      have hgl := hbz.lt
      have hg0 := hbz.cell 0
      have hg1 := hbz.cell 1
      simp at hg0 hg1
      have HMr : Hid (∀ j, j < N → w1.cell? ⟨gm, 0 + j, none⟩ = some (.int .i64 ((solved f len0 N).M j)) ∧ gm < w1.heap.size) := fun j hj => by
        obtain ⟨b2, o2, x2, hx, hlt2, hc2, hx2⟩ := hm.at_ hj
        injection hx with hx
        injection hx with e1 e2
        subst e1 e2
        exact ⟨by rw [hc2, hx2.out], hlt2⟩
      obtain ⟨M, hM⟩ : ∃ M, Hid ((solved f len0 N).M = M) := ⟨_, rfl⟩
      rw [hM.out] at HST HMB HMr HJU
      have hS0 : w.heap.size ≤ w1.heap.size := HB.out.size
      clear hbz hGe hm
      have hJ : Blk (w1.alloc (.cells (madeCells #[.int .i64 0] N) 3)) w1.heap.size 3 (cellsOf N (justs f M 0)).toArray := by
        have := Blk.new w1 3 (madeCells #[.int .i64 0] N)
        rw [made_cells] at this
        rw [made_cells]
        exact this
      have hJb : Below w1.heap.size w1 (w1.alloc (.cells (madeCells #[.int .i64 0] N) 3)) := (Below.refl _ _).alloc (Nat.le_refl _) _
      go_wp2_with fail
      obtain ⟨J, hJe⟩ : ∃ J, Hid (J = w1.heap.size) := ⟨_, rfl⟩
      generalize w1.alloc (.cells (madeCells #[.int .i64 0] N) 3) = wj at *
      clear hmk
      go_loopw [33] (fun i wr => ∃ k : Nat, i = .int .i64 k ∧ k ≤ len0 ∧ Hid (Blk wr w1.heap.size 3 (cellsOf N (justs f M k)).toArray) ∧ Below w1.heap.size w1 wr) (fun i _ => len0 - (intOf i).toNat)
      case atStart => exact ⟨0, rfl, Nat.zero_le _, hJ, hJb⟩
      case round =>
        obtain ⟨k, rfl, hk, hJk, hbe⟩ := hrel
        by_cases hlt : k < len0
        · obtain ⟨b, off, x0, x1, x2, rfl, hb, hc0, hc1, hc2, e0, e1, e2⟩ := hfz.at3 hlt
          have hf := HG.out.2.2.2 k hlt
          rw [← e0.out, ← e1.out, ← e2.out] at hf
          obtain ⟨q1, q2, q3, q4, q5, q6⟩ := hf
          obtain ⟨X, rfl⟩ : ∃ X : Nat, x0 = X := ⟨x0.toNat, by omega⟩
          obtain ⟨Y, rfl⟩ : ∃ Y : Nat, x1 = Y := ⟨x1.toNat, by omega⟩
          have hX : X < N := by omega
          have hY : Y < N := by omega
          have hst := HST.out k hlt
          have HJn : Hid (justs f M (k + 1) = if M (f k 1).toNat = M (f k 0).toNat + f k 2 then putAt (justs f M k) (f k 1).toNat (justs f M k (f k 1).toNat + 1) else justs f M k) := rfl
          rw [← e0.out, ← e1.out, ← e2.out, Int.toNat_natCast, Int.toNat_natCast] at HJn hst
          have m1 := HMr.out X hX
          have m2 := HMr.out Y hY
          have v1 := HMB.out X hX
          have v2 := HMB.out Y hY
          have hjb := justs_bound f M k Y
          obtain ⟨U, hU⟩ : ∃ U, Hid (M X = U) := ⟨_, rfl⟩
          obtain ⟨V, hV⟩ : ∃ V, Hid (M Y = V) := ⟨_, rfl⟩
          obtain ⟨Q, hQ⟩ : ∃ Q, Hid (justs f M k Y = Q) := ⟨_, rfl⟩
          rw [hU.out] at m1 v1 hst HJn
          rw [hV.out] at m2 v2 hst HJn
          rw [hQ.out] at hjb HJn
          have c1 : wr.cell? ⟨gm, 0 + X, none⟩ = some (.int .i64 U) := (hbe.cell (p := ⟨gm, 0 + X, none⟩) m1.2).trans m1.1
          have c2 : wr.cell? ⟨gm, 0 + Y, none⟩ = some (.int .i64 V) := (hbe.cell (p := ⟨gm, 0 + Y, none⟩) m1.2).trans m2.1
          have c3 : wr.cell? ⟨b, off + k * 3, none⟩ = some (.int .i64 X) := (hbe.cell (p := ⟨b, off + k * 3, none⟩) hb).trans hc0
          have c4 : wr.cell? ⟨b, off + (k * 3 + 1), none⟩ = some (.int .i64 Y) := (hbe.cell (p := ⟨b, off + (k * 3 + 1), none⟩) hb).trans hc1
          have c5 : wr.cell? ⟨b, off + (k * 3 + 2), none⟩ = some (.int .i64 x2) := (hbe.cell (p := ⟨b, off + (k * 3 + 2), none⟩) hb).trans hc2
          have l1 : gm < wr.heap.size := by have := hbe.size; omega
          have l2 : b < wr.heap.size := by have := hbe.size; omega
          have l3 := hJk.out.lt
          simp only [Nat.zero_add] at c1 c2
          clear hc0 hc1 hc2 m1 m2
          have i1 : IntKind.i64.wrap (U + x2) = U + x2 := IntWalk.i64_in _ (by omega)
          have t1 : (k : Int) < (len0 : Int) := by omega
          have g1 : decide (V < U + x2) = false := by simp; omega
          have hJ0 : wr.cell? ⟨w1.heap.size, Y, none⟩ = some (.int .i64 Q) := by rw [hJk.out.cell Y, List.getElem?_toArray, cellsOf_get _ hY, hQ.out]
          have hJf := hJk.out.frozen Y
          have i2 : IntKind.i64.wrap (Q + 1) = Q + 1 := IntWalk.i64_in _ (by omega)
          have hbeA := hbe.alloc hbe.size (.cells #[.int .i64 X, .int .i64 Y, .int .i64 x2] 41)
          by_cases heq : V = U + x2
          · have g2 : (V == U + x2) = true := by simpa using heq
            rw [if_pos heq] at HJn
            clear heq
            go_wp2_with fail
            go_quiet (fail)
            go_wp2_with fail
            go_quiet (fail)
            go_wp2
            go_roundw
            case rel =>
              refine ⟨k + 1, by go_num, by omega, ?_, ?_⟩
              · rw [HJn.out, ← cells_puts]
                exact ((hJk.out.put Y (.int .i64 (Q + 1))).alloc _).drewN _
              · exact ((hbe.setCell (p := ⟨w1.heap.size, Y, none⟩) (Nat.le_refl _) (.int .i64 (Q + 1))).alloc (by have := hbe.size; simpa [World.setCell] using this) _).drewN _
            case measure => simp [intOf]; omega
          · have g2 : (V == U + x2) = false := by simpa using heq
            rw [if_neg heq] at HJn
            clear heq
            go_wp2_with fail
            go_quiet (fail)
            go_wp2_with fail
            go_quiet (fail)
            go_wp2
            go_roundw
            case rel => exact ⟨k + 1, by go_num, by omega, by rw [HJn.out]; exact (hJk.out.alloc _).drewN _, hbeA.drewN _⟩
            case measure => simp [intOf]; omega
        · obtain rfl : k = len0 := by omega
          clear hlt hk
          go_wp2_with fail
          go_loopw [75] (fun i w2 => ∃ k2 : Nat, i = .int .i64 k2 ∧ k2 ≤ N ∧ w2 = wr) (fun i _ => N - (intOf i).toNat)
          case atStart => exact ⟨0, rfl, Nat.zero_le _, rfl⟩
          case round =>
            obtain ⟨k2, rfl, hk2, rfl⟩ := hrel
            by_cases hlt : k2 < N
            · have m1 := HMr.out k2 hlt
              have v1 := (HMB.out k2 hlt).1
              have hju := HJU.out k2
              have hjs : Hid (M k2 = 0 ∨ 1 ≤ justs f M k k2) := by
                rcases hju with h | ⟨j, hj, e1, e2⟩
                · exact .inl h
                · have := justs_some f M k j hj (by rw [e1, Int.toNat_natCast]; exact e2)
                  rw [e1, Int.toNat_natCast] at this
                  exact .inr this
              obtain ⟨U, hU⟩ : ∃ U, Hid (M k2 = U) := ⟨_, rfl⟩
              obtain ⟨Q, hQ⟩ : ∃ Q, Hid (justs f M k k2 = Q) := ⟨_, rfl⟩
              rw [hU.out] at m1 v1 hjs
              rw [hQ.out] at hjs
              have hJ0 : wr.cell? ⟨w1.heap.size, k2, none⟩ = some (.int .i64 Q) := by rw [hJk.out.cell k2, List.getElem?_toArray, cellsOf_get _ hlt, hQ.out]
              have c1 : wr.cell? ⟨gm, 0 + k2, none⟩ = some (.int .i64 U) := (hbe.cell (p := ⟨gm, 0 + k2, none⟩) m1.2).trans m1.1
              simp only [Nat.zero_add] at c1
              clear hju m1
              have t1 : (k2 : Int) < (N : Int) := by omega
              have g1 : decide (U < 0) = false := by simp; omega
              by_cases hz : 0 < U
              · have g2 : decide (0 < U) = true := by simpa using hz
                have g3 : (Q == 0) = false := by have := hjs.out; simp; omega
                go_wp2
                go_roundw
                case rel => exact ⟨k2 + 1, by go_num, by omega, by first | rfl | trivial⟩
                case measure => simp [intOf]; omega
              · have g2 : decide (0 < U) = false := by simpa using hz
                go_wp2
                go_roundw
                case rel => exact ⟨k2 + 1, by go_num, by omega, by first | rfl | trivial⟩
                case measure => simp [intOf]; omega
            · obtain rfl : k2 = N := by omega
              go_wp2
              go_ret
              exact ⟨rfl, HB.out.trans (hbe.mono hS0)⟩
    · have HL : Hid (0 ≤ (solved f len0 N).L) := by show _ ≤ _; omega
      clear hL
      go_enter Try.func7, Try.ntmps7
      go_wp2_with (refine (pot_alive_more _).mono ?_; rintro e w' ⟨rfl, os0, d0, rfl⟩)
      refine (most_any N _ len0 _ f _ (by repeat (first | (with_reducible assumption) | (with_reducible exact RowC.nil) | (with_reducible apply RowC.drewN) | (with_reducible apply RowC.drew) | (with_reducible apply RowC.more) | (with_reducible apply RowC.alloc))) HG.out).mono ?_
      rintro e w1 ⟨h1, hb1⟩
      have h1' : e = .returned (.tuple #[.slice none 0 0, .int .i64 3]) := by
        rcases h1 with ⟨_, h⟩ | ⟨h, _⟩
        · exact h
        · have := HL.out; omega
      subst h1'
      obtain ⟨os1, d1, rfl⟩ := More.of_below hb1
      go_wp2
      go_ret
      exact ⟨rfl, (More.below (by repeat (first | (with_reducible assumption) | (with_reducible exact More.refl _) | (with_reducible refine More.alloc ?_ _) | (with_reducible refine More.more ?_ _ _) | (with_reducible refine More.drewN ?_ _) | (with_reducible refine More.drew ?_))))⟩
  · have HG := Lib.hid hG
    clear hG
    go_enter Try.func7, Try.ntmps7
    go_wp2_with (refine (pot_alive_more _).mono ?_; rintro e w' ⟨rfl, os0, d0, rfl⟩)
    refine (most_bad _ _ len0 _ f _ (by repeat (first | (with_reducible assumption) | (with_reducible exact RowC.nil) | (with_reducible apply RowC.drewN) | (with_reducible apply RowC.drew) | (with_reducible apply RowC.more) | (with_reducible apply RowC.alloc))) (by omega) HG.out).mono ?_
    rintro e w1 ⟨rfl, hb1⟩
    obtain ⟨os1, d1, rfl⟩ := More.of_below hb1
    go_wp2
    go_ret
    exact ⟨rfl, (More.below (by repeat (first | (with_reducible assumption) | (with_reducible exact More.refl _) | (with_reducible refine More.alloc ?_ _) | (with_reducible refine More.more ?_ _ _) | (with_reducible refine More.drewN ?_ _) | (with_reducible refine More.drew ?_))))⟩
end Go.Proofs.Ytpnnijficjfcjaa
