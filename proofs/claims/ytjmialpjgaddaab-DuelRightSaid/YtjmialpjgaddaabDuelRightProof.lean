/- DuelRight: for every input the law returns true, and its arguments read behind the call as before. Conditions: none beyond the form's own. -/
import Derived.Test.YtjmialpjgaddaabRows
import Derived.Test.YtjmialpjgaddaabOpen
import Derived.Test.YtjmialpjgaddaabFit
import Derived.Test.YtjmialpjgaddaabDuelRight
namespace Go.Proofs.Ytjmialpjgaddaab.duelRightFrame
open Go.ChangeShapes Go.WideShapes Go.ChangeAt Go.RowKit Go.Tide
open Go.ChangeMaps (open_string shut_string)
set_option linter.unusedVariables false
set_option linter.unusedSimpArgs false

theorem own : ownKnob Try.prog.godebug = none := by kernel_rfl
theorem laidOut : laidOutB Try.prog = true := by kernel_rfl

set_option maxRecDepth 100000 in
set_option maxHeartbeats 1000000 in
theorem lifted (os : Os) (started : os.Started) (H : Type) (enc : TypeId × Value → H) :
    ReturnsInHanded {} Try.checked os 3 .any (Rows.duelRightSpec.pre6 enc Try.prog Try.f3 Rows.duelRightRow.domain false) (Rows.duelRightSpec.post enc Try.prog Try.f3 false true false false) := by
  refine returnsInHanded_of_change_sized (C := Try.checked) own started (by kernel_rfl) Try.func3
    (ChangeSpec.witness6 (enc := enc) (C := Try.checked) false ⟨#[], #[.agg #[.int .i64 0, .int .i64 0, .int .i64 0, .int .i64 0, .int .i64 0], .agg #[.int .i64 0, .int .i64 0, .int .i64 0, .int .i64 0, .int .i64 0, .int .i64 0, .int .i64 0, .int .i64 0, .int .i64 0, .int .i64 0, .int .i64 0, .int .i64 0, .int .i64 0, .int .i64 0], .agg #[.int .i64 0, .int .i64 0]], []⟩ 8 (by kernel_rfl) (by kernel_rfl) (by kernel_rfl) (by kernel_rfl)) ?_
  intro W base args ds gs before hval0 hW hcnd hsz0 _
  have hval : ∀ (j : Nat) t v, Try.f3.params[j]? = some t → args[j]? = some v → Value.okWide Try.prog W .any base t v := hval0
  have hsz : (DataW.weightsEach Try.prog (Try.f3.params.toList ++ Rows.duelRightSpec.plain.varTypes Try.prog) (ds ++ gs)).all (· ≤ reachBytes) = true := hsz0
  have hW' := hW
  obtain ⟨p, q, hA0, hV, rfl, hfz, hnd⟩ := hW
  have hA : DataW.TrodAll enc Try.prog W 0 (fun _ => true) true Try.f3.params.toList args.toList ds p := hA0
  rw [Try.params3] at hA hval hsz
  obtain ⟨v0, vs0, d0, ds0, p0, q0, hargs, rfl, rfl, h0, r0'⟩ := trodAll_cons hA
  obtain ⟨v1, vs1, d1, ds1, p1, q1, rfl, rfl, rfl, h1, r1'⟩ := trodAll_cons r0'
  obtain ⟨v2, vs2, d2, ds2, p2, q2, rfl, rfl, rfl, h2, r2'⟩ := trodAll_cons r1'
  obtain ⟨rfl, rfl, rfl⟩ := trodAll_nil r2'
  obtain rfl : args = #[v0, v1, v2] := by cases args; simp_all
  obtain ⟨rfl, rfl⟩ := trodVars_none hV
  have k0 := h0
  have lt0 : ∀ x ∈ p0, x.block < W.heap.size := by obtain ⟨m, hm⟩ := k0; exact DataW.trod_lt m _ _ _ hm
  have k1 := h1
  have lt1 : ∀ x ∈ p1, x.block < W.heap.size := by obtain ⟨m, hm⟩ := k1; exact DataW.trod_lt m _ _ _ hm
  have k2 := h2
  have lt2 : ∀ x ∈ p2, x.block < W.heap.size := by obtain ⟨m, hm⟩ := k2; exact DataW.trod_lt m _ _ _ hm
  obtain ⟨z0, rfl, l0, f0⟩ := open_flat (t := 24) 6 (by kernel_rfl) (flat_agg (by kernel_rfl) (hval 0 24 v0 rfl rfl)) h0
  obtain ⟨a0_0, a0_1, a0_2, a0_3, a0_4, rfl⟩ := len5 (l0.trans (by kernel_rfl : Try.prog.cellsOf 24 = 5))
  have b0_0 : InI64 a0_0 := f0 _ (by simp)
  have b0_1 : InI64 a0_1 := f0 _ (by simp)
  have b0_2 : InI64 a0_2 := f0 _ (by simp)
  have b0_3 : InI64 a0_3 := f0 _ (by simp)
  have b0_4 : InI64 a0_4 := f0 _ (by simp)
  obtain ⟨z1, rfl, l1, f1⟩ := open_flat (t := 29) 6 (by kernel_rfl) (flat_agg (by kernel_rfl) (hval 1 29 v1 rfl rfl)) h1
  obtain ⟨a1_0, a1_1, a1_2, a1_3, a1_4, a1_5, a1_6, a1_7, a1_8, a1_9, a1_10, a1_11, a1_12, a1_13, rfl⟩ := len14 (l1.trans (by kernel_rfl : Try.prog.cellsOf 29 = 14))
  have b1_0 : InI64 a1_0 := f1 _ (by simp)
  have b1_1 : InI64 a1_1 := f1 _ (by simp)
  have b1_2 : InI64 a1_2 := f1 _ (by simp)
  have b1_3 : InI64 a1_3 := f1 _ (by simp)
  have b1_4 : InI64 a1_4 := f1 _ (by simp)
  have b1_5 : InI64 a1_5 := f1 _ (by simp)
  have b1_6 : InI64 a1_6 := f1 _ (by simp)
  have b1_7 : InI64 a1_7 := f1 _ (by simp)
  have b1_8 : InI64 a1_8 := f1 _ (by simp)
  have b1_9 : InI64 a1_9 := f1 _ (by simp)
  have b1_10 : InI64 a1_10 := f1 _ (by simp)
  have b1_11 : InI64 a1_11 := f1 _ (by simp)
  have b1_12 : InI64 a1_12 := f1 _ (by simp)
  have b1_13 : InI64 a1_13 := f1 _ (by simp)
  obtain ⟨z2, rfl, l2, f2⟩ := open_flat (t := 22) 6 (by kernel_rfl) (flat_agg (by kernel_rfl) (hval 2 22 v2 rfl rfl)) h2
  obtain ⟨a2_0, a2_1, rfl⟩ := len2 (l2.trans (by kernel_rfl : Try.prog.cellsOf 22 = 2))
  have b2_0 : InI64 a2_0 := f2 _ (by simp)
  have b2_1 : InI64 a2_1 := f2 _ (by simp)
  clear hA0 hval0
  refine (duelRight_walk a0_0 a0_1 a0_2 a0_3 a0_4 a1_0 a1_1 a1_2 a1_3 a1_4 a1_5 a1_6 a1_7 a1_8 a1_9 a1_10 a1_11 a1_12 a1_13 a2_0 a2_1 W b0_0 b0_1 b0_2 b0_3 b0_4 b1_0 b1_1 b1_2 b1_3 b1_4 b1_5 b1_6 b1_7 b1_8 b1_9 b1_10 b1_11 b1_12 b1_13 b2_0 b2_1).mono fun e W' ⟨he, bel⟩ => ?_
  subst he
  exact ⟨_, rfl, _, _, _, [], _, [], hW', trodAll_mk1 (shut_bool Try.underlying4 _), (trodAll_cons_mk (Below.trod laidOut (by kernel_rfl) (of_decide_eq_true (by kernel_rfl)) k0 bel lt0) (trodAll_cons_mk (Below.trod laidOut (by kernel_rfl) (of_decide_eq_true (by kernel_rfl)) k1 bel lt1) (trodAll_cons_mk (Below.trod laidOut (by kernel_rfl) (of_decide_eq_true (by kernel_rfl)) k2 bel lt2) trodAll_mk0))), rfl, bel.frame _, fun h => by cases h⟩

set_option maxRecDepth 100000 in
theorem over : Rows.duelRightRow.holds Try.pinned (OpenSpec.ofChange Rows.duelRightSpec) :=
  OpenClaim.holds_of_wide 3 Try.f3 rfl rfl rfl rfl rfl rfl rfl ⟨rfl, rfl, rfl, rfl, rfl⟩ rfl rfl rfl rfl rfl (by kernel_rfl) Try.func3
    (by unfold joinedFacts; (repeat' with_reducible apply band) <;> first | with_reducible exact fitEnter | (rw [fitLifts]; show _ = _; kernel_rfl) | (rw [fitMake]; show _ = _; kernel_rfl) | kernel_rfl)
    (of_decide_eq_true (by kernel_rfl)) (by unfold Func.isWrapper; first | (rw [if_pos (by decide +kernel)]; kernel_rfl) | (rw [if_neg (by decide +kernel)]; exact ⟨rfl, rfl⟩))
    (fun os started H enc _ => lifted os started H enc)

theorem proved : Rows.DuelRightSaid := over
#print axioms proved
end Go.Proofs.Ytjmialpjgaddaab.duelRightFrame
