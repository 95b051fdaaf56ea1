/- MeanSign: for every input the law returns true, and its arguments read behind the call as before. Conditions: none beyond the form's own. -/
import Derived.Test.YtnbjcohkkaijaaaRows
import Derived.Test.YtnbjcohkkaijaaaOpen
import Derived.Test.YtnbjcohkkaijaaaOpenG
import Derived.Test.YtnbjcohkkaijaaaFit
import Derived.Test.YtnbjcohkkaijaaaMeanSign
namespace Go.Proofs.Ytnbjcohkkaijaaa.meanSignFrame
open Go.ChangeShapes Go.WideShapes Go.ChangeAt Go.RowKit Go.Tide
open Go.ChangeMaps (open_string shut_string)
set_option linter.unusedVariables false
set_option linter.unusedSimpArgs false

theorem own : ownKnob Try.prog.godebug = none := by kernel_rfl
theorem laidOut : laidOutB Try.prog = true := by kernel_rfl

set_option maxRecDepth 100000 in
set_option maxHeartbeats 1000000 in
theorem lifted (os : Os) (started : os.Started) (H : Type) (enc : TypeId × Value → H) :
    ReturnsInHanded {} Try.checked os 5 .any (Rows.meanSignSpec.pre6 enc Try.prog Try.f5 Rows.meanSignRow.domain false) (Rows.meanSignSpec.post enc Try.prog Try.f5 false true false false) := by
  refine returnsInHanded_of_change_sized (C := Try.checked) own started (by kernel_rfl) Try.func5
    (ChangeSpec.witness6 (enc := enc) (C := Try.checked) false ⟨#[], #[.agg #[.int .i64 0, .slice none 0 0]], []⟩ 8 (by kernel_rfl) (by kernel_rfl) (by kernel_rfl) (by kernel_rfl)) ?_
  intro W base args ds gs before hval0 hW hcnd hsz0 _
  have hval : ∀ (j : Nat) t v, Try.f5.params[j]? = some t → args[j]? = some v → Value.okWide Try.prog W .any base t v := hval0
  have hsz : (DataW.weightsEach Try.prog (Try.f5.params.toList ++ Rows.meanSignSpec.plain.varTypes Try.prog) (ds ++ gs)).all (· ≤ reachBytes) = true := hsz0
  have hW' := hW
  obtain ⟨p, q, hA0, hV, rfl, hfz, hnd⟩ := hW
  have hA : DataW.TrodAll enc Try.prog W 0 (fun _ => true) true Try.f5.params.toList args.toList ds p := hA0
  rw [Try.params5] at hA hval hsz
  obtain ⟨v0, vs0, d0, ds0, p0, q0, hargs, rfl, rfl, h0, r0'⟩ := trodAll_cons hA
  obtain ⟨rfl, rfl, rfl⟩ := trodAll_nil r0'
  obtain rfl : args = #[v0] := by cases args; simp_all
  obtain ⟨rfl, rfl⟩ := trodVars_none hV
  have k0 := h0
  have lt0 : ∀ x ∈ p0, x.block < W.heap.size := by obtain ⟨m, hm⟩ := k0; exact DataW.trod_lt m _ _ _ hm
  obtain ⟨a0_0, a0_1, len0, cap0, z0, rfl, b0_0, f0, hc0⟩ := open_graph (t := 24) (e := 32) (C := 3) 6 Try.underlying24 (by kernel_rfl) (by kernel_rfl) Try.underlying3 Try.underlying22 (by kernel_rfl) (by kernel_rfl) (by decide) (fun _ => rfl) (hval 0 24 v0 rfl rfl) h0
  have r0 : cap0 * 24 ≤ 140737488351232 := by
    rcases hc0 with hc | ⟨y, el, sp, hd, hl⟩
    · omega
    · have hs := sized_graph hsz (j := 0) (t := 24) (e := 32) rfl (by simpa using hd) Try.underlying24 Try.underlying22
      rw [show Try.prog.bytesOf 32 = 24 from by kernel_rfl, hl] at hs
      exact hs
  clear hA0 hval0
  refine (meanSign_walk a0_0 a0_1 len0 cap0 z0 W b0_0 f0 r0).mono fun e W' ⟨he, bel⟩ => ?_
  subst he
  exact ⟨_, rfl, _, _, _, [], _, [], hW', trodAll_mk1 (shut_bool Try.underlying4 _), (trodAll_cons_mk (Below.trod laidOut (by kernel_rfl) (of_decide_eq_true (by kernel_rfl)) k0 bel lt0) trodAll_mk0), rfl, bel.frame _, fun h => by cases h⟩

set_option maxRecDepth 100000 in
theorem over : Rows.meanSignRow.holds Try.pinned (OpenSpec.ofChange Rows.meanSignSpec) :=
  OpenClaim.holds_of_wide 5 Try.f5 rfl rfl rfl rfl rfl rfl rfl ⟨rfl, rfl, rfl, rfl, rfl⟩ rfl rfl rfl rfl rfl (by kernel_rfl) Try.func5
    (by unfold joinedFacts; (repeat' with_reducible apply band) <;> first | with_reducible exact fitEnter | (rw [fitLifts]; show _ = _; kernel_rfl) | (rw [fitMake]; show _ = _; kernel_rfl) | kernel_rfl)
    (of_decide_eq_true (by kernel_rfl)) (by unfold Func.isWrapper; first | (rw [if_pos (by decide +kernel)]; kernel_rfl) | (rw [if_neg (by decide +kernel)]; exact ⟨rfl, rfl⟩))
    (fun os started H enc _ => lifted os started H enc)

theorem proved : Rows.MeanSignSaid := over
#print axioms proved
end Go.Proofs.Ytnbjcohkkaijaaa.meanSignFrame
