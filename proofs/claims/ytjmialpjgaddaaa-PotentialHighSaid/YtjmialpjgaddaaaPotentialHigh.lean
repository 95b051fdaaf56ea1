/- PotentialHigh: for every input the law returns true. Conditions: none. -/
import Derived.Test.YtjmialpjgaddaaaPotB
import Derived.Test.YtjmialpjgaddaaaPotH
import Derived.Test.YtjmialpjgaddaaaOpenG
import Derived.Test.YtjmialpjgaddaaaIsFlat
set_option linter.unusedVariables false
set_option linter.unusedSimpArgs false
namespace Go.Tide
open Go.RowKit
theorem grown_set (w : World) (b i : Nat) (u : Value) : w.grownBy (w.setCell ⟨b, i, none⟩ u) (some b) :=
  ⟨rfl, rfl, rfl, by simp [World.setCell], fun k hk hne => Below.heap_setCell w ⟨b, i, none⟩ u k (fun h => hne (by rw [h]))⟩
end Go.Tide
namespace Go.Proofs.Ytjmialpjgaddaaa
open Go.RowKit Go.Tide
set_option linter.unusedVariables false
set_option linter.unusedSimpArgs false
theorem pot_alive_more (w : World) : Calls Try.prog 12 #[] w fun e w' => e = .returned (.bool true) ∧ More w w' :=
  (pot_alive w).mono fun e w' ⟨h1, h2⟩ => ⟨h1, More.of_below h2⟩
theorem cycle_errno (N : Nat) (a : Option Addr) (n c : Nat) (f : Nat → Nat → Int) (w : World) (hf : RowC w 3 a n f) (hG : GRight N n f) :
    Calls Try.prog 14 #[.agg #[.int .i64 N, .slice a n c]] w fun e w' => ∃ v E, e = .returned (.tuple #[v, .int .i64 E]) ∧ Hid (E = if (solved f n N).L < 0 then 3 else 0) ∧ More w w' := by
  by_cases hL : (solved f n N).L < 0
  · refine (cycle_none N a n c f w hf hG hL).mono ?_
    rintro e w1 ⟨rfl, hb⟩
    exact ⟨_, 3, rfl, by rw [Hid, if_pos hL], More.of_below hb⟩
  · obtain ⟨v, m, V, hv, hR⟩ := cycle_round hG (by omega)
    refine (cycle_any N a n c f w hf hG v m _ V hv rfl hR.at_ hR.right hR.many hR.round hR.once).mono ?_
    rintro e w1 ⟨g, c', rfl, _, _, hb⟩
    exact ⟨_, 0, rfl, by rw [Hid, if_neg hL], More.of_below hb⟩
theorem edgeInfo : (Try.prog.info? 38).map (fun i => (i.zero, i.size, i.bytes)) = some (some (.agg #[.int .i64 0, .int .i64 0, .int .i64 0]), 3, 24) := by kernel_rfl
set_option maxRecDepth 20000 in
set_option maxHeartbeats 4000000 in
theorem potentialHigh_walk (a0_0 : Int) (a0_1 : Option Addr) (len0 cap0 : Nat) (z0 : List Int) (a1 : Option Addr) (len1 cap1 : Nat) (z1 : List Int) (w : World) (b0_0 : InI64 a0_0) (f0 : IsFlat w a0_1 len0 cap0 3 z0) (r0 : cap0 * 24 ≤ 140737488351232) (f1 : IsFlat w a1 len1 cap1 1 z1) (r1 : cap1 * 8 ≤ 140737488351232) :
    Calls Try.prog 6 #[.agg #[.int .i64 a0_0, .slice a0_1 len0 cap0], .slice a1 len1 cap1] w fun e w' => e = .returned (.bool true) ∧ Below w.heap.size w w' := by
  obtain ⟨i0_, hi, hz0, hz1, hz2⟩ := info_parts edgeInfo
  have hle : len0 ≤ cap0 := by rcases f0 with ⟨_, h1, h2, _⟩ | ⟨_, _, h, _⟩ <;> omega
  have hle1 : len1 ≤ cap1 := f1.le'
  have hs := f0.rowC (by omega)
  have hh := (f1.row)
  generalize (fun k j => z0.getD (k * 3 + j) 0) = f at hs
  generalize (fun k => z1.getD k 0) = hi_ at hh
  clear f0 f1
  by_cases hG : GRight a0_0 len0 f
  · obtain ⟨N, rfl⟩ : ∃ N : Nat, a0_0 = N := ⟨a0_0.toNat, by have := hG.1; omega⟩
    have HG := Lib.hid hG
    have hn := hG.2.2.1
    have hN := hG.2.1
    clear hG
    by_cases hNl : len1 = N
    · subst hNl
      go_enter Try.func6, Try.ntmps6
      go_wp2_with (refine (pot_alive_more _).mono ?_; rintro e w' ⟨rfl, os0, d0, rfl⟩)
      refine (pwrong_any _ _ len0 _ f _ (by repeat (first | (with_reducible assumption) | (with_reducible exact RowC.nil) | (with_reducible apply RowC.drewN) | (with_reducible apply RowC.drew) | (with_reducible apply RowC.more) | (with_reducible apply RowC.alloc))) (by omega)).mono ?_
      rintro e w1 ⟨rfl, os1, d1, rfl⟩
      rw [gWrong_ok HG.out]
      go_wp2_with fail
      have hmz : More w (((w.alloc (.cells #[.int .i64 len1, .slice a0_1 len0 cap0] 34)).more os0 d0).more os1 d1) := (by repeat (first | (with_reducible assumption) | (with_reducible exact More.refl _) | (with_reducible refine More.alloc ?_ _) | (with_reducible refine More.more ?_ _ _) | (with_reducible refine More.drewN ?_ _) | (with_reducible refine More.drew ?_)))
      have hfz : RowC (((w.alloc (.cells #[.int .i64 len1, .slice a0_1 len0 cap0] 34)).more os0 d0).more os1 d1) 3 a0_1 len0 f := (by repeat (first | (with_reducible assumption) | (with_reducible exact RowC.nil) | (with_reducible apply RowC.drewN) | (with_reducible apply RowC.drew) | (with_reducible apply RowC.more) | (with_reducible apply RowC.alloc)))
      have hhz : Row (((w.alloc (.cells #[.int .i64 len1, .slice a0_1 len0 cap0] 34)).more os0 d0).more os1 d1) a1 len1 hi_ := (by repeat (first | (with_reducible assumption) | (with_reducible exact Row.nil) | (with_reducible apply Row.drewN) | (with_reducible apply Row.drew) | (with_reducible apply Row.more) | (with_reducible apply Row.alloc)))
      have hgz : Blk (((w.alloc (.cells #[.int .i64 len1, .slice a0_1 len0 cap0] 34)).more os0 d0).more os1 d1) w.heap.size 34 #[.int .i64 len1, .slice a0_1 len0 cap0] := ((Blk.new w _ _).more os0 d0).more os1 d1
      have hZ : w.heap.size + (1 + (os0.size + os1.size)) = (((w.alloc (.cells #[.int .i64 len1, .slice a0_1 len0 cap0] 34)).more os0 d0).more os1 d1).heap.size := by simp; omega
      generalize ((w.alloc (.cells #[.int .i64 len1, .slice a0_1 len0 cap0] 34)).more os0 d0).more os1 d1 = wz at *
      have hbz := hmz.below
      have hsz0 := hbz.size
      rw [hZ]
      clear hZ
      have hbw0 : Below wz.heap.size wz (wz.alloc (.cells #[.int .i64 len1, .slice none 0 0] 34)) := (Below.refl _ _).alloc (Nat.le_refl _) _
      have hG0 := Lib.hid (Blk.new wz 34 #[.int .i64 len1, .slice none 0 0])
      go_loopw [30] (fun i wr => ∃ k : Nat, i = .int .i64 k ∧ k ≤ len0 ∧ ∃ v, wr.ownsRow (wz.heap.size + 1) 38 3 v k (cellsC 3 k (lifted f hi_)) ∧ Hid (Blk wr wz.heap.size 34 #[.int .i64 len1, v]) ∧ Below wz.heap.size wz wr) (fun i _ => len0 - (intOf i).toNat)
      case atStart => exact ⟨0, rfl, Nat.zero_le _, _, World.ownsRow_nil _ _ _ _, hG0, hbw0⟩
      case round =>
        obtain ⟨k, rfl, hk, v, hown, hGw, hbw⟩ := hrel
        obtain ⟨ao, co, hv, hco⟩ := own_sliceC hown
        subst hv
        have hsz := hbw.size
        have hGl := hGw.out.lt
        by_cases hlt : k < len0
        · obtain ⟨b, off, x0, x1, x2, rfl, hb, hc0, hc1, hc2, e0, e1, e2⟩ := hfz.at3 hlt
          have hf := HG.out.2.2.2 k hlt
          have HC : Hid ((List.range 3).map (fun j => Value.int .i64 (lifted f hi_ k j)) = [.int .i64 (f k 0), .int .i64 (f k 1), .int .i64 (f k 2 + hi_ (f k 0).toNat - hi_ (f k 1).toNat)]) := rfl
          rw [← e0.out, ← e1.out, ← e2.out] at hf HC
          obtain ⟨q1, q2, q3, q4, q5, q6⟩ := hf
          obtain ⟨X, rfl⟩ : ∃ X : Nat, x0 = X := ⟨x0.toNat, by omega⟩
          obtain ⟨Y, rfl⟩ : ∃ Y : Nat, x1 = Y := ⟨x1.toNat, by omega⟩
          have hX : X < len1 := by omega
          have hY : Y < len1 := by omega
          obtain ⟨bh, oh, U, rfl, hbh, hcU, hU⟩ := hhz.at_ hX
          obtain ⟨bh2, oh2, V, hh2, _, hcV, hV⟩ := hhz.at_ hY
          injection hh2 with hh2
          injection hh2 with hh2 hh3
          subst hh2 hh3
          rw [Int.toNat_natCast, Int.toNat_natCast, ← hU.out, ← hV.out] at HC
          have c1 : wr.cell? ⟨bh, oh + X, none⟩ = some (.int .i64 U) := (hbw.cell (p := ⟨bh, oh + X, none⟩) hbh).trans hcU
          have c2 : wr.cell? ⟨bh, oh + Y, none⟩ = some (.int .i64 V) := (hbw.cell (p := ⟨bh, oh + Y, none⟩) hbh).trans hcV
          have c3 : wr.cell? ⟨b, off + k * 3, none⟩ = some (.int .i64 X) := (hbw.cell (p := ⟨b, off + k * 3, none⟩) hb).trans hc0
          have c4 : wr.cell? ⟨b, off + (k * 3 + 1), none⟩ = some (.int .i64 Y) := (hbw.cell (p := ⟨b, off + (k * 3 + 1), none⟩) hb).trans hc1
          have c5 : wr.cell? ⟨b, off + (k * 3 + 2), none⟩ = some (.int .i64 x2) := (hbw.cell (p := ⟨b, off + (k * 3 + 2), none⟩) hb).trans hc2
          have l1 : bh < wr.heap.size := by omega
          have l2 : b < wr.heap.size := by omega
          clear hc0 hc1 hc2 hcU hcV e0 e1 e2 hU hV
          have hbeA : Below w.heap.size w (wr.alloc (.cells #[.int .i64 X, .int .i64 Y, .int .i64 x2] 38)) := hbz.trans ((hbw.alloc hsz _).mono hsz0)
          have t1 : (k : Int) < (len0 : Int) := by omega
          by_cases hb1 : 262144 < U
          · have g1 : decide (262144 < U) = true := by simpa using hb1
            go_wp2
            go_ret
            exact ⟨rfl, hbeA⟩
          by_cases hb2 : U < -262144
          · have g1 : decide (262144 < U) = false := by simpa using hb1
            have g2 : decide (U < -262144) = true := by simpa using hb2
            go_wp2
            go_ret
            exact ⟨rfl, hbeA⟩
          by_cases hb3 : 262144 < V
          · have g1 : decide (262144 < U) = false := by simpa using hb1
            have g2 : decide (U < -262144) = false := by simpa using hb2
            have g3 : decide (262144 < V) = true := by simpa using hb3
            go_wp2
            go_ret
            exact ⟨rfl, hbeA⟩
          by_cases hb4 : V < -262144
          · have g1 : decide (262144 < U) = false := by simpa using hb1
            have g2 : decide (U < -262144) = false := by simpa using hb2
            have g3 : decide (262144 < V) = false := by simpa using hb3
            have g4 : decide (V < -262144) = true := by simpa using hb4
            go_wp2
            go_ret
            exact ⟨rfl, hbeA⟩
          have g1 : decide (262144 < U) = false := by simpa using hb1
          have g2 : decide (U < -262144) = false := by simpa using hb2
          have g3 : decide (262144 < V) = false := by simpa using hb3
          have g4 : decide (V < -262144) = false := by simpa using hb4
          have i1 : IntKind.i64.wrap (x2 + U) = x2 + U := IntWalk.i64_in _ (by omega)
          have i2 : IntKind.i64.wrap (x2 + U - V) = x2 + U - V := IntWalk.i64_in _ (by omega)
          have hG1 : wr.cell? ⟨wz.heap.size, 1, none⟩ = some (.slice ao k co) := by rw [hGw.out.cell 1]; rfl
          have hG2 := hGw.out.frozen 1
          go_wp2_with fail
          have hE := Blk.new wr 38 #[.int .i64 X, .int .i64 Y, .int .i64 x2]
          have c1 : (wr.alloc (.cells #[.int .i64 X, .int .i64 Y, .int .i64 x2] 38)).cell? ⟨bh, oh + X, none⟩ = some (.int .i64 U) := (World.cell?_alloc_past _ _ _ l1).trans c1
          have c2 : (wr.alloc (.cells #[.int .i64 X, .int .i64 Y, .int .i64 x2] 38)).cell? ⟨bh, oh + Y, none⟩ = some (.int .i64 V) := (World.cell?_alloc_past _ _ _ l1).trans c2
          have c3 : (wr.alloc (.cells #[.int .i64 X, .int .i64 Y, .int .i64 x2] 38)).cell? ⟨wz.heap.size, 1, none⟩ = some (.slice ao k co) := (World.cell?_alloc_past _ _ _ hGl).trans hG1
          have hownq := hown.alloc (.cells #[.int .i64 X, .int .i64 Y, .int .i64 x2] 38)
          have hGq := hGw.out.alloc (.cells #[.int .i64 X, .int .i64 Y, .int .i64 x2] 38)
          have hbq := hbw.alloc hsz (.cells #[.int .i64 X, .int .i64 Y, .int .i64 x2] 38)
          have hsq : wz.heap.size + 1 ≤ (wr.alloc (.cells #[.int .i64 X, .int .i64 Y, .int .i64 x2] 38)).heap.size := by simp; omega
          clear hown hGw hbw hG1 hG2 hbeA
          have e0 : (wr.alloc (.cells #[.int .i64 X, .int .i64 Y, .int .i64 x2] 38)).cell? ⟨wr.heap.size, 0, none⟩ = some (.int .i64 X) := hE.cell 0
          have e1 : (wr.alloc (.cells #[.int .i64 X, .int .i64 Y, .int .i64 x2] 38)).cell? ⟨wr.heap.size, 1, none⟩ = some (.int .i64 Y) := hE.cell 1
          have e2 : (wr.alloc (.cells #[.int .i64 X, .int .i64 Y, .int .i64 x2] 38)).cell? ⟨wr.heap.size, 2, none⟩ = some (.int .i64 x2) := hE.cell 2
          generalize hEe : wr.heap.size = E at *
          generalize wr.alloc (.cells #[.int .i64 X, .int .i64 Y, .int .i64 x2] 38) = wq at *
          skip
          refine wp_region_two (S := (fun w' => w'.cell? ⟨wz.heap.size, 1, none⟩ = some (.slice ao k co) ∧ w'.cell? ⟨E, 0, none⟩ = some (.int .i64 X) ∧ w'.cell? ⟨E, 1, none⟩ = some (.int .i64 Y) ∧ w'.cell? ⟨E, 2, none⟩ = some (.int .i64 x2) ∧ w'.cell? ⟨bh, oh + X, none⟩ = some (.int .i64 U) ∧ w'.cell? ⟨bh, oh + Y, none⟩ = some (.int .i64 V))) 22 (by kernel_rfl) ?_ (fun hHeld => ?_)
          · exact ⟨c3, e0, e1, e2, c1, c2⟩
          refine two_take (i := 0) (v := ?_) rfl (by kernel_rfl) (by kernel_rfl) (fun _ _ _ h => h) (Or.inl ⟨by rfl, ?_⟩) (by assumption) ?_
          rotate_left 1
          · intro w' hSw
            have hl0 := hSw.1
            have hl1 := hSw.2.1
            have hl2 := hSw.2.2.1
            have hl3 := hSw.2.2.2.1
            have hl4 := hSw.2.2.2.2.1
            have hl5 := hSw.2.2.2.2.2
            go_simp
            try (with_reducible rfl)
          try simp only [List.getElem_toArray, List.getElem_cons_zero, List.getElem_cons_succ, Act.put, List.setIfInBounds_toArray, List.set_cons_zero, List.set_cons_succ]
          refine two_take (i := 1) (v := ?_) rfl (by kernel_rfl) (by kernel_rfl) (fun _ _ _ h => h) (Or.inl ⟨by rfl, ?_⟩) (by assumption) ?_
          rotate_left 1
          · intro w' hSw
            have hl0 := hSw.1
            have hl1 := hSw.2.1
            have hl2 := hSw.2.2.1
            have hl3 := hSw.2.2.2.1
            have hl4 := hSw.2.2.2.2.1
            have hl5 := hSw.2.2.2.2.2
            go_simp
            try (with_reducible rfl)
          try simp only [List.getElem_toArray, List.getElem_cons_zero, List.getElem_cons_succ, Act.put, List.setIfInBounds_toArray, List.set_cons_zero, List.set_cons_succ]
          refine two_take (i := 2) (v := ?_) rfl (by kernel_rfl) (by kernel_rfl) (fun _ _ _ h => h) (Or.inl ⟨by rfl, ?_⟩) (by assumption) ?_
          rotate_left 1
          · intro w' hSw
            have hl0 := hSw.1
            have hl1 := hSw.2.1
            have hl2 := hSw.2.2.1
            have hl3 := hSw.2.2.2.1
            have hl4 := hSw.2.2.2.2.1
            have hl5 := hSw.2.2.2.2.2
            go_simp
            try (with_reducible rfl)
          try simp only [List.getElem_toArray, List.getElem_cons_zero, List.getElem_cons_succ, Act.put, List.setIfInBounds_toArray, List.set_cons_zero, List.set_cons_succ]
          refine two_take (i := 3) (v := ?_) rfl (by kernel_rfl) (by kernel_rfl) (fun _ _ _ h => h) (Or.inl ⟨by rfl, ?_⟩) (by assumption) ?_
          rotate_left 1
          · intro w' hSw
            have hl0 := hSw.1
            have hl1 := hSw.2.1
            have hl2 := hSw.2.2.1
            have hl3 := hSw.2.2.2.1
            have hl4 := hSw.2.2.2.2.1
            have hl5 := hSw.2.2.2.2.2
            go_simp
            try (with_reducible rfl)
          try simp only [List.getElem_toArray, List.getElem_cons_zero, List.getElem_cons_succ, Act.put, List.setIfInBounds_toArray, List.set_cons_zero, List.set_cons_succ]
          refine two_take (i := 4) (v := ?_) rfl (by kernel_rfl) (by kernel_rfl) (fun _ _ _ h => h) (Or.inl ⟨by rfl, ?_⟩) (by assumption) ?_
          rotate_left 1
          · intro w' hSw
            have hl0 := hSw.1
            have hl1 := hSw.2.1
            have hl2 := hSw.2.2.1
            have hl3 := hSw.2.2.2.1
            have hl4 := hSw.2.2.2.2.1
            have hl5 := hSw.2.2.2.2.2
            go_simp
            try (with_reducible rfl)
          try simp only [List.getElem_toArray, List.getElem_cons_zero, List.getElem_cons_succ, Act.put, List.setIfInBounds_toArray, List.set_cons_zero, List.set_cons_succ]
          refine two_take (i := 5) (v := ?_) rfl (by kernel_rfl) (by kernel_rfl) (fun _ _ _ h => h) (Or.inl ⟨by rfl, ?_⟩) (by assumption) ?_
          rotate_left 1
          · intro w' hSw
            have hl0 := hSw.1
            have hl1 := hSw.2.1
            have hl2 := hSw.2.2.1
            have hl3 := hSw.2.2.2.1
            have hl4 := hSw.2.2.2.2.1
            have hl5 := hSw.2.2.2.2.2
            go_simp
            try (with_reducible rfl)
          try simp only [List.getElem_toArray, List.getElem_cons_zero, List.getElem_cons_succ, Act.put, List.setIfInBounds_toArray, List.set_cons_zero, List.set_cons_succ]
          refine two_take (i := 6) (v := ?_) rfl (by kernel_rfl) (by kernel_rfl) (fun _ _ _ h => h) (Or.inl ⟨by rfl, ?_⟩) (by assumption) ?_
          rotate_left 1
          · intro w' hSw
            have hl0 := hSw.1
            have hl1 := hSw.2.1
            have hl2 := hSw.2.2.1
            have hl3 := hSw.2.2.2.1
            have hl4 := hSw.2.2.2.2.1
            have hl5 := hSw.2.2.2.2.2
            go_simp
            try (with_reducible rfl)
          try simp only [List.getElem_toArray, List.getElem_cons_zero, List.getElem_cons_succ, Act.put, List.setIfInBounds_toArray, List.set_cons_zero, List.set_cons_succ]
          refine two_take (i := 7) (v := ?_) rfl (by kernel_rfl) (by kernel_rfl) (fun _ _ _ h => h) (Or.inl ⟨by rfl, ?_⟩) (by assumption) ?_
          rotate_left 1
          · intro w' hSw
            have hl0 := hSw.1
            have hl1 := hSw.2.1
            have hl2 := hSw.2.2.1
            have hl3 := hSw.2.2.2.1
            have hl4 := hSw.2.2.2.2.1
            have hl5 := hSw.2.2.2.2.2
            go_simp
            try (with_reducible rfl)
          try simp only [List.getElem_toArray, List.getElem_cons_zero, List.getElem_cons_succ, Act.put, List.setIfInBounds_toArray, List.set_cons_zero, List.set_cons_succ]
          refine two_take (i := 8) (v := ?_) rfl (by kernel_rfl) (by kernel_rfl) (fun _ _ _ h => h) (Or.inl ⟨by rfl, ?_⟩) (by assumption) ?_
          rotate_left 1
          · intro w' hSw
            have hl0 := hSw.1
            have hl1 := hSw.2.1
            have hl2 := hSw.2.2.1
            have hl3 := hSw.2.2.2.1
            have hl4 := hSw.2.2.2.2.1
            have hl5 := hSw.2.2.2.2.2
            go_simp
            try (with_reducible rfl)
          try simp only [List.getElem_toArray, List.getElem_cons_zero, List.getElem_cons_succ, Act.put, List.setIfInBounds_toArray, List.set_cons_zero, List.set_cons_succ]
          refine two_take (i := 9) (v := ?_) rfl (by kernel_rfl) (by kernel_rfl) (fun _ _ _ h => h) (Or.inl ⟨by rfl, ?_⟩) (by assumption) ?_
          rotate_left 1
          · intro w' hSw
            have hl0 := hSw.1
            have hl1 := hSw.2.1
            have hl2 := hSw.2.2.1
            have hl3 := hSw.2.2.2.1
            have hl4 := hSw.2.2.2.2.1
            have hl5 := hSw.2.2.2.2.2
            go_simp
            try (with_reducible rfl)
          try simp only [List.getElem_toArray, List.getElem_cons_zero, List.getElem_cons_succ, Act.put, List.setIfInBounds_toArray, List.set_cons_zero, List.set_cons_succ]
          refine two_take (i := 10) (v := ?_) rfl (by kernel_rfl) (by kernel_rfl) (fun _ _ _ h => h) (Or.inl ⟨by rfl, ?_⟩) (by assumption) ?_
          rotate_left 1
          · intro w' hSw
            have hl0 := hSw.1
            have hl1 := hSw.2.1
            have hl2 := hSw.2.2.1
            have hl3 := hSw.2.2.2.1
            have hl4 := hSw.2.2.2.2.1
            have hl5 := hSw.2.2.2.2.2
            go_simp
            try (with_reducible rfl)
          try simp only [List.getElem_toArray, List.getElem_cons_zero, List.getElem_cons_succ, Act.put, List.setIfInBounds_toArray, List.set_cons_zero, List.set_cons_succ]
          refine two_take (i := 11) (v := ?_) rfl (by kernel_rfl) (by kernel_rfl) (fun _ _ _ h => h) (Or.inl ⟨by rfl, ?_⟩) (by assumption) ?_
          rotate_left 1
          · intro w' hSw
            have hl0 := hSw.1
            have hl1 := hSw.2.1
            have hl2 := hSw.2.2.1
            have hl3 := hSw.2.2.2.1
            have hl4 := hSw.2.2.2.2.1
            have hl5 := hSw.2.2.2.2.2
            go_simp
            try (with_reducible rfl)
          try simp only [List.getElem_toArray, List.getElem_cons_zero, List.getElem_cons_succ, Act.put, List.setIfInBounds_toArray, List.set_cons_zero, List.set_cons_succ]
          refine two_take (i := 12) (v := ?_) rfl (by kernel_rfl) (by kernel_rfl) (fun _ _ _ h => h) (Or.inl ⟨by rfl, ?_⟩) (by assumption) ?_
          rotate_left 1
          · intro w' hSw
            have hl0 := hSw.1
            have hl1 := hSw.2.1
            have hl2 := hSw.2.2.1
            have hl3 := hSw.2.2.2.1
            have hl4 := hSw.2.2.2.2.1
            have hl5 := hSw.2.2.2.2.2
            go_simp
            try (with_reducible rfl)
          try simp only [List.getElem_toArray, List.getElem_cons_zero, List.getElem_cons_succ, Act.put, List.setIfInBounds_toArray, List.set_cons_zero, List.set_cons_succ]
          refine two_take (i := 13) (v := ?_) rfl (by kernel_rfl) (by kernel_rfl) (fun _ _ _ h => h) (Or.inl ⟨by rfl, ?_⟩) (by assumption) ?_
          rotate_left 1
          · intro w' hSw
            have hl0 := hSw.1
            have hl1 := hSw.2.1
            have hl2 := hSw.2.2.1
            have hl3 := hSw.2.2.2.1
            have hl4 := hSw.2.2.2.2.1
            have hl5 := hSw.2.2.2.2.2
            go_simp
            try (with_reducible rfl)
          try simp only [List.getElem_toArray, List.getElem_cons_zero, List.getElem_cons_succ, Act.put, List.setIfInBounds_toArray, List.set_cons_zero, List.set_cons_succ]
          refine two_take (i := 14) (v := ?_) rfl (by kernel_rfl) (by kernel_rfl) (fun _ _ _ h => h) (Or.inl ⟨by rfl, ?_⟩) (by assumption) ?_
          rotate_left 1
          · intro w' hSw
            have hl0 := hSw.1
            have hl1 := hSw.2.1
            have hl2 := hSw.2.2.1
            have hl3 := hSw.2.2.2.1
            have hl4 := hSw.2.2.2.2.1
            have hl5 := hSw.2.2.2.2.2
            go_simp
            try (with_reducible rfl)
          try simp only [List.getElem_toArray, List.getElem_cons_zero, List.getElem_cons_succ, Act.put, List.setIfInBounds_toArray, List.set_cons_zero, List.set_cons_succ]
          refine two_take (i := 15) (v := ?_) rfl (by kernel_rfl) (by kernel_rfl) (fun _ _ _ h => h) (Or.inl ⟨by rfl, ?_⟩) (by assumption) ?_
          rotate_left 1
          · intro w' hSw
            have hl0 := hSw.1
            have hl1 := hSw.2.1
            have hl2 := hSw.2.2.1
            have hl3 := hSw.2.2.2.1
            have hl4 := hSw.2.2.2.2.1
            have hl5 := hSw.2.2.2.2.2
            go_simp
            try (with_reducible rfl)
          try simp only [List.getElem_toArray, List.getElem_cons_zero, List.getElem_cons_succ, Act.put, List.setIfInBounds_toArray, List.set_cons_zero, List.set_cons_succ]
          refine two_take (i := 16) (v := ?_) rfl (by kernel_rfl) (by kernel_rfl) (fun _ _ _ h => h) (Or.inl ⟨by rfl, ?_⟩) (by assumption) ?_
          rotate_left 1
          · intro w' hSw
            have hl0 := hSw.1
            have hl1 := hSw.2.1
            have hl2 := hSw.2.2.1
            have hl3 := hSw.2.2.2.1
            have hl4 := hSw.2.2.2.2.1
            have hl5 := hSw.2.2.2.2.2
            go_simp
            try (with_reducible rfl)
          try simp only [List.getElem_toArray, List.getElem_cons_zero, List.getElem_cons_succ, Act.put, List.setIfInBounds_toArray, List.set_cons_zero, List.set_cons_succ]
          refine two_take (i := 17) (v := ?_) rfl (by kernel_rfl) (by kernel_rfl) (fun _ _ _ h => h) (Or.inl ⟨by rfl, ?_⟩) (by assumption) ?_
          rotate_left 1
          · intro w' hSw
            have hl0 := hSw.1
            have hl1 := hSw.2.1
            have hl2 := hSw.2.2.1
            have hl3 := hSw.2.2.2.1
            have hl4 := hSw.2.2.2.2.1
            have hl5 := hSw.2.2.2.2.2
            go_simp
            try (with_reducible rfl)
          try simp only [List.getElem_toArray, List.getElem_cons_zero, List.getElem_cons_succ, Act.put, List.setIfInBounds_toArray, List.set_cons_zero, List.set_cons_succ]
          refine two_take (i := 18) (v := ?_) rfl (by kernel_rfl) (by kernel_rfl) (fun _ _ _ h => h) (Or.inl ⟨by rfl, ?_⟩) (by assumption) ?_
          rotate_left 1
          · intro w' hSw
            have hl0 := hSw.1
            have hl1 := hSw.2.1
            have hl2 := hSw.2.2.1
            have hl3 := hSw.2.2.2.1
            have hl4 := hSw.2.2.2.2.1
            have hl5 := hSw.2.2.2.2.2
            go_simp
            try (with_reducible rfl)
          try simp only [List.getElem_toArray, List.getElem_cons_zero, List.getElem_cons_succ, Act.put, List.setIfInBounds_toArray, List.set_cons_zero, List.set_cons_succ]
          refine two_take (i := 19) (v := ?_) rfl (by kernel_rfl) (by kernel_rfl) (fun _ _ _ h => h) (Or.inl ⟨by rfl, ?_⟩) (by assumption) ?_
          rotate_left 1
          · intro w' hSw
            have hl0 := hSw.1
            have hl1 := hSw.2.1
            have hl2 := hSw.2.2.1
            have hl3 := hSw.2.2.2.1
            have hl4 := hSw.2.2.2.2.1
            have hl5 := hSw.2.2.2.2.2
            go_simp
            try (with_reducible rfl)
          try simp only [List.getElem_toArray, List.getElem_cons_zero, List.getElem_cons_succ, Act.put, List.setIfInBounds_toArray, List.set_cons_zero, List.set_cons_succ]
          refine two_take (i := 20) (v := ?_) rfl (by kernel_rfl) (by kernel_rfl) (fun _ _ _ h => h) (Or.inl ⟨by rfl, ?_⟩) (by assumption) ?_
          rotate_left 1
          · intro w' hSw
            have hl0 := hSw.1
            have hl1 := hSw.2.1
            have hl2 := hSw.2.2.1
            have hl3 := hSw.2.2.2.1
            have hl4 := hSw.2.2.2.2.1
            have hl5 := hSw.2.2.2.2.2
            go_simp
            try (with_reducible rfl)
          try simp only [List.getElem_toArray, List.getElem_cons_zero, List.getElem_cons_succ, Act.put, List.setIfInBounds_toArray, List.set_cons_zero, List.set_cons_succ]
          refine two_ready (rs := [21]) (by kernel_rfl) (by kernel_rfl) (by simp) ?_
          refine AllReadyB.cons rfl (fun K hK => ?_) AllReadyB.nil
          go_simp
          refine hK.out _ _ ?_ (fun hHeld => ?_)
          · exact by obtain ⟨h0, h1, h2, h3, h4, h5⟩ := hHeld; exact ⟨(World.cell?_alloc_some _ _ _ (Option.isSome_iff_exists.2 ⟨_, h0⟩)).trans h0, (World.cell?_alloc_some _ _ _ (Option.isSome_iff_exists.2 ⟨_, h1⟩)).trans h1, (World.cell?_alloc_some _ _ _ (Option.isSome_iff_exists.2 ⟨_, h2⟩)).trans h2, (World.cell?_alloc_some _ _ _ (Option.isSome_iff_exists.2 ⟨_, h3⟩)).trans h3, (World.cell?_alloc_some _ _ _ (Option.isSome_iff_exists.2 ⟨_, h4⟩)).trans h4, (World.cell?_alloc_some _ _ _ (Option.isSome_iff_exists.2 ⟨_, h5⟩)).trans h5⟩
          clear hK K
          try simp only [List.getElem_toArray, List.getElem_cons_zero, List.getElem_cons_succ, Act.put, List.setIfInBounds_toArray, List.set_cons_zero, List.set_cons_succ]
          refine two_ready (rs := [22]) (by kernel_rfl) (by kernel_rfl) (by simp) ?_
          refine AllReadyB.last rfl (fun K hK => ?_)
          refine step_append_lies _ (by rfl) _ _ _ (by rfl) (wz.heap.size + 1) 38 i0_ _ 3 24 Try.underlying32 hi hz0 hz1 hz2 rfl (by omega) _ k (cellsC 3 k (lifted f hi_)) (by rfl) ((hownq.drew).alloc _) _ 1 1 [.int .i64 X, .int .i64 Y, .int .i64 (x2 + U - V)] (by rfl) (by rfl) (Blk.news (cs := #[.int .i64 X, .int .i64 Y, .int .i64 (x2 + U - V)]) (t := 38) (by repeat (first | (with_reducible assumption) | ((with_reducible refine Blk.new' ?_); (simp [Nat.add_assoc]; done)) | (with_reducible refine Blk.alloc ?_ _) | (with_reducible refine Blk.more ?_ _ _) | (with_reducible refine Blk.drew ?_) | (with_reducible refine Blk.drewN ?_ _)))) (by simp [Value.oneCell']) (by omega) (by simp only [maxLen]; omega) (by omega) (by simp; omega) (wq.heap.size + 1) (by simp) ?_
          intro gg cap w5 hown5 hgrow5 hlie5 hlt5
          have hgg : wz.heap.size + 1 ≤ gg := own_base hown5 gg rfl
          have hGn : (Value.slice ao k co).ownBlock ≠ some wz.heap.size := own_ne hownq (by omega)
          have hG5 := Blk.grown (t := 34) (cs := #[.int .i64 len1, .slice ao k co]) (g := wz.heap.size) (by repeat (first | (with_reducible assumption) | ((with_reducible refine Blk.new' ?_); (simp [Nat.add_assoc]; done)) | (with_reducible refine Blk.alloc ?_ _) | (with_reducible refine Blk.more ?_ _ _) | (with_reducible refine Blk.drew ?_) | (with_reducible refine Blk.drewN ?_ _))) hgrow5 (fun e => hGn e.symm)
          have hz3 := hG5.cell 1
          have hz4 := hG5.frozen 1
          simp at hz3
          refine hK.out _ _ ?_
          clear hK K
          try simp only [List.getElem_toArray, List.getElem_cons_zero, List.getElem_cons_succ, Act.put, List.setIfInBounds_toArray, List.set_cons_zero, List.set_cons_succ]
          have hb5 := ((hbq.drewN 1).alloc (by first | (simp; omega) | omega) (.cells #[.int .i64 X, .int .i64 Y, .int .i64 (x2 + U - V)] 38)).grown hgrow5 (by first | (simp; omega) | omega) (fun g hg => by have := own_base hownq g hg; omega)
          have hown6 := hown5.kept (grown_set w5 wz.heap.size 1 (.slice (some ⟨gg, 0, none⟩) (k + 1) cap)) (.inr (by simp [Value.ownBlock]; omega))
          have hG6 := hG5.put 1 (.slice (some ⟨gg, 0, none⟩) (k + 1) cap)
          have hb6 := hb5.setCell (p := ⟨wz.heap.size, 1, none⟩) (Nat.le_refl _) (.slice (some ⟨gg, 0, none⟩) (k + 1) cap)
          clear hHeld hownq hGq hbq hlie5
          refine two_late (by kernel_rfl) ?_
          refine wpAny_take (i := 23) (v := ?_) rfl (by kernel_rfl) (by kernel_rfl) (by kernel_rfl) (fun _ _ _ h => h) (Or.inl ⟨by rfl, ?_⟩) ?_
          rotate_left 1
          · intro w'
            go_simp
            try (with_reducible rfl)
          try simp only [List.getElem_toArray, List.getElem_cons_zero, List.getElem_cons_succ, Act.put, List.setIfInBounds_toArray, List.set_cons_zero, List.set_cons_succ]
          refine wpAny_ready (rs := [24]) (by kernel_rfl) (by simp) ?_
          refine AllReady.cons' rfl (fun K hK => ?_) AllReady.nil
          go_simp
          refine hK.out _ _ ?_
          clear hK K
          try simp only [List.getElem_toArray, List.getElem_cons_zero, List.getElem_cons_succ, Act.put, List.setIfInBounds_toArray, List.set_cons_zero, List.set_cons_succ]
          refine wpAny_done (by kernel_rfl) ?_ _
          have hG7 : Hid (Blk (w5.setCell ⟨wz.heap.size, 1, none⟩ (.slice (some ⟨gg, 0, none⟩) (k + 1) cap)) wz.heap.size 34 #[.int .i64 len1, .slice (some ⟨gg, 0, none⟩) (k + 1) cap]) := hG6
          go_wp2
          go_roundw
          case rel => exact ⟨k + 1, by go_num, by omega, _, by rw [cellsC_succ, HC.out]; exact hown6, hG7, hb6⟩
          case measure => simp [intOf]; omega
        · obtain rfl : k = len0 := by omega
          have hoff : RowC wr 3 ao k (lifted f hi_) := RowC.of_own (by omega) hown
          have hl : RowC wr 3 a0_1 k f := hfz.below hbw (Nat.le_refl _)
          have hg2 : Blk wr w.heap.size 34 #[.int .i64 len1, .slice a0_1 k cap0] := hgz.below hbw hgz.lt
          have hbr : Below w.heap.size w wr := hbz.trans (hbw.mono hsz0)
          have hgl := hg2.lt
          have x1 : wr.cell? ⟨w.heap.size, 0, none⟩ = some (.int .i64 len1) := hg2.cell 0
          have x2 : wr.cell? ⟨w.heap.size, 1, none⟩ = some (.slice a0_1 k cap0) := hg2.cell 1
          have x3 : wr.cell? ⟨wz.heap.size, 0, none⟩ = some (.int .i64 len1) := hGw.out.cell 0
          have x4 : wr.cell? ⟨wz.heap.size, 1, none⟩ = some (.slice ao k co) := hGw.out.cell 1
          have hsr : w.heap.size ≤ wr.heap.size := by omega
          clear hown hbw hfz hs hgz hg2 hGw hh hhz hbw0 hG0
          by_cases hH : GRight len1 k (lifted f hi_)
          · have HH := Lib.hid hH
            have HE : Hid ((if (solved (lifted f hi_) k len1).L < 0 then (3 : Int) else 0) = if (solved f k len1).L < 0 then 3 else 0) := by
              have := high_law HG.out hH
              by_cases h : (solved f k len1).L < 0
              · rw [Hid, if_pos h, if_pos (this.1 h)]
              · rw [Hid, if_neg h, if_neg (fun h' => h (this.2 h'))]
            clear hH
            go_wp2_with fail
            refine (pwrong_any len1 ao k co _ _ (by repeat (first | (with_reducible assumption) | (with_reducible exact RowC.nil) | (with_reducible apply RowC.drewN) | (with_reducible apply RowC.drew) | (with_reducible apply RowC.more) | (with_reducible apply RowC.alloc))) (by omega)).mono ?_
            rintro e w1 ⟨rfl, os2, d2, rfl⟩
            rw [gWrong_ok HH.out]
            go_wp2_with fail
            refine (cycle_errno len1 a0_1 k cap0 f _ (by repeat (first | (with_reducible assumption) | (with_reducible exact RowC.nil) | (with_reducible apply RowC.drewN) | (with_reducible apply RowC.drew) | (with_reducible apply RowC.more) | (with_reducible apply RowC.alloc))) HG.out).mono ?_
            rintro e w1 ⟨va, E, rfl, hE1, os3, d3, rfl⟩
            go_wp2_with fail
            refine (cycle_errno len1 ao k co _ _ (by repeat (first | (with_reducible assumption) | (with_reducible exact RowC.nil) | (with_reducible apply RowC.drewN) | (with_reducible apply RowC.drew) | (with_reducible apply RowC.more) | (with_reducible apply RowC.alloc))) HH.out).mono ?_
            rintro e w1 ⟨vb, E2, rfl, hE2, os4, d4, rfl⟩
            obtain rfl : E2 = E := by rw [hE1.out, hE2.out, HE.out]
            go_wp2
            go_ret
            exact ⟨by simp, below_then hbr hsr (by repeat (first | (with_reducible assumption) | (with_reducible exact More.refl _) | (with_reducible refine More.alloc ?_ _) | (with_reducible refine More.more ?_ _ _) | (with_reducible refine More.drewN ?_ _) | (with_reducible refine More.drew ?_)))⟩
          · have HH := Lib.hid hH
            clear hH
            go_wp2_with fail
            refine (pwrong_any len1 ao k co _ _ (by repeat (first | (with_reducible assumption) | (with_reducible exact RowC.nil) | (with_reducible apply RowC.drewN) | (with_reducible apply RowC.drew) | (with_reducible apply RowC.more) | (with_reducible apply RowC.alloc))) (by omega)).mono ?_
            rintro e w1 ⟨rfl, os2, d2, rfl⟩
            rw [gWrong_bad HH.out]
            go_wp2
            go_ret
            exact ⟨rfl, below_then hbr hsr (by repeat (first | (with_reducible assumption) | (with_reducible exact More.refl _) | (with_reducible refine More.alloc ?_ _) | (with_reducible refine More.more ?_ _ _) | (with_reducible refine More.drewN ?_ _) | (with_reducible refine More.drew ?_)))⟩
    · have c1 : ((len1 : Int) != (N : Int)) = true := by simp; omega
      go_enter Try.func6, Try.ntmps6
      go_wp2_with (refine (pot_alive_more _).mono ?_; rintro e w' ⟨rfl, os0, d0, rfl⟩)
      refine (pwrong_any _ _ len0 _ f _ (by repeat (first | (with_reducible assumption) | (with_reducible exact RowC.nil) | (with_reducible apply RowC.drewN) | (with_reducible apply RowC.drew) | (with_reducible apply RowC.more) | (with_reducible apply RowC.alloc))) (by omega)).mono ?_
      rintro e w1 ⟨rfl, os1, d1, rfl⟩
      rw [gWrong_ok HG.out]
      go_wp2
      go_ret
      exact ⟨rfl, (More.below (by repeat (first | (with_reducible assumption) | (with_reducible exact More.refl _) | (with_reducible refine More.alloc ?_ _) | (with_reducible refine More.more ?_ _ _) | (with_reducible refine More.drewN ?_ _) | (with_reducible refine More.drew ?_))))⟩
  · have HG := Lib.hid hG
    clear hG
    go_enter Try.func6, Try.ntmps6
    go_wp2_with (refine (pot_alive_more _).mono ?_; rintro e w' ⟨rfl, os0, d0, rfl⟩)
    refine (pwrong_any _ _ len0 _ f _ (by repeat (first | (with_reducible assumption) | (with_reducible exact RowC.nil) | (with_reducible apply RowC.drewN) | (with_reducible apply RowC.drew) | (with_reducible apply RowC.more) | (with_reducible apply RowC.alloc))) (by omega)).mono ?_
    rintro e w1 ⟨rfl, os1, d1, rfl⟩
    rw [gWrong_bad HG.out]
    go_wp2
    go_ret
    exact ⟨rfl, (More.below (by repeat (first | (with_reducible assumption) | (with_reducible exact More.refl _) | (with_reducible refine More.alloc ?_ _) | (with_reducible refine More.more ?_ _ _) | (with_reducible refine More.drewN ?_ _) | (with_reducible refine More.drew ?_))))⟩
end Go.Proofs.Ytjmialpjgaddaaa
