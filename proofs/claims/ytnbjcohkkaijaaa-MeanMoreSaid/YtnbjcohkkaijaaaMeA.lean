/- alive18 answers true. Conditions: none. -/
import Derived.Test.YtnbjcohkkaijaaaMeAg
import Derived.Laws.StructEq
set_option linter.unusedVariables false
set_option linter.unusedSimpArgs false
namespace Go.Proofs.Ytnbjcohkkaijaaa
open Go.RowKit Go.Tide
set_option linter.unusedVariables false
set_option linter.unusedSimpArgs false
theorem run_eql {P : Program} {oi : Oper} {ρ : Operand → Value} {w : World} (ty ty2 : TypeId) (x y : Operand) (ho : oi.op = .binOp .eql ty x y ty2) (cs ds : Array Value) (hx : ρ x = .agg cs) (hy : ρ y = .agg ds) (hg : P.eqGuardType P.depth ty = false)
    (r : Bool) (hE : (Op.equal ty (.agg cs) (.agg ds)).run P w = .ok r w) : (execOp ρ oi).run P w = .ok (.value (.bool r)) w := by
  obtain ⟨d, op, t, p, af, g⟩ := oi
  have ho' : op = .binOp .eql ty x y ty2 := ho
  subst ho'
  have h1 : (eqGuard BinOp.eql ty x y (.agg cs) (.agg ds)).run P w = .ok () w := by simp [run_eqGuard_agg, hg]
  have h2 : (binOp BinOp.eql ty (.agg cs) (.agg ds)).run P w = .ok (.bool r) w := by
    unfold binOp
    simp only [Sem.run_bind, hE, Result.andThen_ok, Sem.run_pure]
  show (do let a ← (do eqGuard BinOp.eql ty x y (ρ x) (ρ y); binOp BinOp.eql ty (ρ x) (ρ y)); pure (Next.value a) : Sem Next).run P w = _
  rw [hx, hy]
  simp only [Sem.run_bind, h1, h2, Result.andThen_ok, Sem.run_pure]
theorem wp_eql {P : Program} {o : Oper} {a : Act} {w : World} {K : Act → World → Prop} {Q : Exit → Act → World → Prop} (ty ty2 : TypeId) (x y : Operand) (ho : o.op = .binOp .eql ty x y ty2) (cs ds : Array Value) (hx : a.eval x = .agg cs) (hy : a.eval y = .agg ds) (hg : P.eqGuardType P.depth ty = false)
    (r : Bool) (hE : (Op.equal ty (.agg cs) (.agg ds)).run P w = .ok r w) (h : K (a.put o.dst (.bool r)) w) : o.wp P a w K Q := by
  simp only [Oper.wp, run_eql ty ty2 x y ho cs ds hx hy hg r hE, Oper.upon]
  first | exact h | exact .inl h
theorem guard_fr : Try.prog.eqGuardType Try.prog.depth 27 = false := by kernel_rfl
theorem eq_fr (w : World) : (Op.equal 27 (.agg #[.int .i64 3, .int .i64 2]) (.agg #[.int .i64 3, .int .i64 2])).run Try.prog w = .ok true w := by kernel_rfl
theorem eq_fr0 (w : World) : (Op.equal 27 (.agg #[.int .i64 0, .int .i64 0]) (.agg #[.int .i64 0, .int .i64 0])).run Try.prog w = .ok true w := by kernel_rfl
theorem row_take {w : World} {C n m : Nat} {a : Option Addr} {f : Nat → Nat → Int} (h : RowC w C a n f) (hm : m ≤ n) (h0 : 0 < n) : RowC w C a m f := fun _ => by
  obtain ⟨b, off, e, hb, hc⟩ := h h0
  exact ⟨b, off, e, hb, fun k j hk hj => hc k j (by omega) hj⟩
set_option maxRecDepth 20000 in
set_option maxHeartbeats 4000000 in
theorem mean_alive (w : World) : Calls Try.prog 6 #[] w fun e w' => e = .returned (.bool true) ∧ Below w.heap.size w w' := by
  have hE0 := (Blk.new w 32 #[.int .i64 0, .int .i64 1, .int .i64 5, .int .i64 1, .int .i64 0, .int .i64 (-2), .int .i64 1, .int .i64 2, .int .i64 9, .int .i64 2, .int .i64 2, .int .i64 1]).alloc (.cells #[.int .i64 3, .slice (some ⟨w.heap.size, 0, none⟩) 4 4] 24)
  have hG0 : Blk ((w.alloc (.cells #[.int .i64 0, .int .i64 1, .int .i64 5, .int .i64 1, .int .i64 0, .int .i64 (-2), .int .i64 1, .int .i64 2, .int .i64 9, .int .i64 2, .int .i64 2, .int .i64 1] 32)).alloc (.cells #[.int .i64 3, .slice (some ⟨w.heap.size, 0, none⟩) 4 4] 24)) (w.heap.size + 1) 24 #[.int .i64 3, .slice (some ⟨w.heap.size, 0, none⟩) 4 4] := Blk.new' (by simp)
  have HB : Hid (Below w.heap.size w ((w.alloc (.cells #[.int .i64 0, .int .i64 1, .int .i64 5, .int .i64 1, .int .i64 0, .int .i64 (-2), .int .i64 1, .int .i64 2, .int .i64 9, .int .i64 2, .int .i64 2, .int .i64 1] 32)).alloc (.cells #[.int .i64 3, .slice (some ⟨w.heap.size, 0, none⟩) 4 4] 24))) := ((Below.refl _ _).alloc (Nat.le_refl _) _).alloc (by simp) _
  go_enter Try.func6, Try.ntmps6
  go_upto_region 2 with fail
  generalize ((w.alloc (.cells #[.int .i64 0, .int .i64 1, .int .i64 5, .int .i64 1, .int .i64 0, .int .i64 (-2), .int .i64 1, .int .i64 2, .int .i64 9, .int .i64 2, .int .i64 2, .int .i64 1] 32)).alloc (.cells #[.int .i64 3, .slice (some ⟨w.heap.size, 0, none⟩) 4 4] 24)) = w0 at *
  generalize hEe : w.heap.size = E at *
  have HEe := Lib.hid hEe
  clear hEe
  have lG := hG0.lt
  have cG0 : w0.cell? ⟨E + 1, 0, none⟩ = some (.int .i64 3) := hG0.cell 0
  have cG1 : w0.cell? ⟨E + 1, 1, none⟩ = some (.slice (some ⟨E, 0, none⟩) 4 4) := hG0.cell 1
  go_wp2_with fail
  refine (greatest_ok 3 _ 4 _ gM _ (RowC.of_blk [0, 1, 5, 1, 0, -2, 1, 2, 9, 2, 2, 1] hE0 rfl) gM_right).mono ?_
  rintro e w1 ⟨he, hb1⟩
  have he2 : e = .returned (.tuple #[.agg #[.int .i64 3, .int .i64 2], .int .i64 0]) := by
    rcases he with ⟨h, _⟩ | ⟨_, h⟩
    · rw [gM_best] at h; exact absurd h (by decide)
    · rw [h, gM_P, gM_Q]
  subst he2
  have hE1 := hE0.below hb1 hE0.lt
  have hG1 := hG0.below hb1 lG
  have HB1 : Hid (Below E w w1) := HB.out.trans (hb1.mono (by omega))
  clear hb1 hE0 hG0 cG0 cG1 he lG
  go_upto_region 3 with fail
  have hF1 : Blk (w1.alloc (.cells #[.int .i64 3, .int .i64 2] 27)) w1.heap.size 27 #[.int .i64 3, .int .i64 2] := Blk.new _ _ _
  have hE2 := hE1.alloc (.cells #[.int .i64 3, .int .i64 2] 27)
  have hG2 := hG1.alloc (.cells #[.int .i64 3, .int .i64 2] 27)
  have HB2 : Hid (Below E w (w1.alloc (.cells #[.int .i64 3, .int .i64 2] 27))) := HB1.out.alloc (by have := hE1.lt; omega) _
  clear hE1 hG1 HB1
  generalize w1.alloc (.cells #[.int .i64 3, .int .i64 2] 27) = w2 at *
  generalize w1.heap.size = FB at *
  have cG0 : w2.cell? ⟨E + 1, 0, none⟩ = some (.int .i64 3) := hG2.cell 0
  have cG1 : w2.cell? ⟨E + 1, 1, none⟩ = some (.slice (some ⟨E, 0, none⟩) 4 4) := hG2.cell 1
  have lG := hG2.lt
  go_wp2_with fail
  refine (best_ok 3 _ 4 _ gM _ (RowC.of_blk [0, 1, 5, 1, 0, -2, 1, 2, 9, 2, 2, 1] hE2 rfl) gM_right).mono ?_
  rintro e w3 ⟨he, hb3⟩
  have he2 : ∃ ao co, e = .returned (.tuple #[.slice ao 2 co, .int .i64 0]) := by
    rcases he with ⟨h, _⟩ | ⟨_, ao, co, h, _⟩
    · rw [gM_best] at h; exact absurd h (by decide)
    · exact ⟨ao, co, by rw [h, gM_L]⟩
  obtain ⟨ao, co, rfl⟩ := he2
  have hE3 := hE2.below hb3 hE2.lt
  have hG3 := hG2.below hb3 lG
  have hF3 := hF1.below hb3 hF1.lt
  have HB3 : Hid (Below E w w3) := HB2.out.trans (hb3.mono (by omega))
  clear hb3 hE2 hG2 hF1 cG0 cG1 he lG
  go_upto_region 4 with fail
  have cG1 : w3.cell? ⟨E + 1, 1, none⟩ = some (.slice (some ⟨E, 0, none⟩) 4 4) := hG3.cell 1
  have lG := hG3.lt
  go_wp2_with fail
  refine (greatest_ok 2 _ 1 _ gM _ (row_take (n := 4) (m := 1) (RowC.of_blk [0, 1, 5, 1, 0, -2, 1, 2, 9, 2, 2, 1] hE3 rfl) (by omega) (by omega)) gM_right1).mono ?_
  rintro e w4 ⟨he, hb4⟩
  have he2 : e = .returned (.tuple #[.agg #[.int .i64 0, .int .i64 0], .int .i64 3]) := by
    rcases he with ⟨_, h⟩ | ⟨h, _⟩
    · exact h
    · rw [gM_one] at h; exact absurd rfl h
  subst he2
  have hF4 := hF3.below hb4 hF3.lt
  have HB4 : Hid (Below E w w4) := HB3.out.trans (hb4.mono (by omega))
  have lF4 := hF4.lt
  have lE4 : E < w4.heap.size := by have := hb4.size; omega
  clear hb4 hE3 hG3 hF3 cG1 he lG
  go_upto_region 5 with fail
  have hF5 := hF4.alloc (.cells #[.int .i64 0, .int .i64 0] 27)
  have HB5 : Hid (Below E w (w4.alloc (.cells #[.int .i64 0, .int .i64 0] 27))) := HB4.out.alloc (by omega) _
  clear hF4 HB4
  generalize w4.alloc (.cells #[.int .i64 0, .int .i64 0] 27) = w5 at *
  have c0 : w5.cell? ⟨FB, 0, none⟩ = some (.int .i64 3) := hF5.cell 0
  have c1 : w5.cell? ⟨FB, 1, none⟩ = some (.int .i64 2) := hF5.cell 1
  have HEQ := Lib.hid (eq_fr w5)
  go_wp2_with ((refine BigFrame.wpList_want (by rfl) (fun K hK => wp_eql _ _ _ _ rfl #[.int .i64 3, .int .i64 2] #[.int .i64 3, .int .i64 2] rfl rfl guard_fr true HEQ.out (hK _ _ ?_))))
  go_ret
  rw [HEe.out]
  exact ⟨rfl, HB5.out⟩
end Go.Proofs.Ytnbjcohkkaijaaa
