/- MeanMost, where the input is of bulk at most 1048576: the law returns true, and its arguments read behind the call as before. Conditions: none beyond the form's own. -/
import Derived.Test.YtnbjcohkkaijaaaRows
import Derived.Test.YtnbjcohkkaijaaaBulk
import Derived.Deep.CondSized
import Derived.Test.YtnbjcohkkaijaaaOpen
import Derived.Test.YtnbjcohkkaijaaaOpenG
import Derived.Test.YtnbjcohkkaijaaaFit
import Derived.Test.YtnbjcohkkaijaaaMeanMost
namespace Go.Proofs.Ytnbjcohkkaijaaa.meanMostUptoFrame
open Go.ChangeShapes Go.WideShapes Go.ChangeAt Go.RowKit Go.Tide
open Go.ChangeMaps (open_string shut_string)
set_option linter.unusedVariables false
set_option linter.unusedSimpArgs false

theorem own : ownKnob Try.prog.godebug = none := by kernel_rfl
theorem laidOut : laidOutB Try.prog = true := by kernel_rfl

set_option maxRecDepth 100000 in
set_option maxHeartbeats 1000000 in
theorem lifted (os : Os) (started : os.Started) (H : Type) (enc : TypeId × Value → H) (F : Stop.Interp) :
    ReturnsInHanded {} Try.checked os 4 .any ((Rows.OpenSpec.upto Rows.meanMostSpec).pre6 enc Try.prog Try.f4 Rows.meanMostUptoRow.domain false) (((Rows.OpenSpec.upto Rows.meanMostSpec).at F).post enc Try.prog Try.f4 false true false false) := by
  refine returnsInHanded_of_cond_sized (C := Try.checked) (s := Rows.OpenSpec.upto Rows.meanMostSpec) (k := Rows.uptoSmall) rfl own started (by kernel_rfl) Try.func4
    (OpenSpec.witness (enc := enc) (C := Try.checked) (s := Rows.OpenSpec.upto Rows.meanMostSpec) (k := Rows.uptoSmall) rfl false ⟨#[], #[.agg #[.int .i64 0, .slice none 0 0], .slice none 0 0], []⟩ 8 (by kernel_rfl) (by kernel_rfl) (by kernel_rfl) (x := ([.agg [.lit (.int .i64 0), .nil], .nil], [], [])) (by kernel_rfl) rfl (by kernel_rfl)) ?_
  intro W base args ds gs before hval0 hW hcnd hk0 hsz0 _
  have hval : ∀ (j : Nat) t v, Try.f4.params[j]? = some t → args[j]? = some v → Value.okWide Try.prog W .any base t v := hval0
  have hsz : (DataW.weightsEach Try.prog (Try.f4.params.toList ++ Rows.meanMostSpec.plain.varTypes Try.prog) (ds ++ gs)).all (· ≤ reachBytes) = true := hsz0
  have hW' := hW
  obtain ⟨p, q, hA0, hV, rfl, hfz, hnd⟩ := hW
  have hA : DataW.TrodAll enc Try.prog W 0 (fun _ => true) true Try.f4.params.toList args.toList ds p := hA0
  rw [Try.params4] at hA hval hsz
  obtain ⟨v0, vs0, d0, ds0, p0, q0, hargs, rfl, rfl, h0, r0'⟩ := trodAll_cons hA
  obtain ⟨v1, vs1, d1, ds1, p1, q1, rfl, rfl, rfl, h1, r1'⟩ := trodAll_cons r0'
  obtain ⟨rfl, rfl, rfl⟩ := trodAll_nil r1'
  obtain rfl : args = #[v0, v1] := by cases args; simp_all
  obtain ⟨rfl, rfl⟩ := trodVars_none hV
  have k0 := h0
  have lt0 : ∀ x ∈ p0, x.block < W.heap.size := by obtain ⟨m, hm⟩ := k0; exact DataW.trod_lt m _ _ _ hm
  have k1 := h1
  have lt1 : ∀ x ∈ p1, x.block < W.heap.size := by obtain ⟨m, hm⟩ := k1; exact DataW.trod_lt m _ _ _ hm
  obtain ⟨a0_0, a0_1, len0, cap0, z0, rfl, b0_0, f0, hc0⟩ := open_graph (t := 24) (e := 32) (C := 3) 6 Try.underlying24 (by kernel_rfl) (by kernel_rfl) Try.underlying3 Try.underlying22 (by kernel_rfl) (by kernel_rfl) (by decide) (fun _ => rfl) (hval 0 24 v0 rfl rfl) h0
  have r0 : cap0 * 24 ≤ 140737488351232 := by
    rcases hc0 with hc | ⟨y, el, sp, hd, hl⟩
    · omega
    · have hs := sized_graph hsz (j := 0) (t := 24) (e := 32) rfl (by simpa using hd) Try.underlying24 Try.underlying22
      rw [show Try.prog.bytesOf 32 = 24 from by kernel_rfl, hl] at hs
      exact hs
  obtain ⟨a1, len1, cap1, rfl⟩ := okWide_slice Try.underlying35 (hval 1 35 v1 rfl rfl)
  obtain ⟨z1, f1, r1, s1⟩ : ∃ z, IsFlat W a1 len1 cap1 1 z ∧ cap1 * 8 ≤ 140737488351232 ∧ cap1 ≤ 1048576 := by
    obtain ⟨fuel, hf⟩ := h1
    obtain ⟨z, hz, hc⟩ := open_flats (e := 3) 6 (by kernel_rfl) Try.underlying35 (of_decide_eq_true (by kernel_rfl)) (fun _ => rfl) hf
    refine ⟨z, ?_, ?_, ?_⟩
    · rw [show Try.prog.cellsOf 3 = 1 from by kernel_rfl] at hz
      exact hz
    · rcases hc with hc | ⟨el, sp, hd, hl⟩
      · omega
      · have hs := sized_slice hsz (j := 1) (t := 35) (e := 3) rfl (by simpa using hd) Try.underlying35
        rw [show Try.prog.bytesOf 3 = 8 from by kernel_rfl, hl] at hs
        exact hs
    · rcases hc with hc | ⟨el, sp, hd, hl⟩
      · omega
      · have h8 := bulks.bound hk0
        have h9 := bulks.slice_le el sp
        have h7 : Rows.uptoBulk d1 ≤ 1048576 := Nat.le_trans (bulks.part_le (by simp)) h8
        have hd' : d1 = .slice el sp := hd
        rw [hd'] at h7
        omega
  clear hA0 hval0
  refine (meanMost_walk a0_0 a0_1 len0 cap0 z0 a1 len1 cap1 z1 W b0_0 f0 r0 f1 r1 (by have := f1.le; omega)).mono fun e W' ⟨he, bel⟩ => ?_
  subst he
  exact ⟨_, rfl, _, _, _, [], _, [], hW', trodAll_mk1 (shut_bool Try.underlying4 _), (trodAll_cons_mk (Below.trod laidOut (by kernel_rfl) (of_decide_eq_true (by kernel_rfl)) k0 bel lt0) (trodAll_cons_mk (Below.trod laidOut (by kernel_rfl) (of_decide_eq_true (by kernel_rfl)) k1 bel lt1) trodAll_mk0)), rfl, bel.frame _, fun h => by cases h⟩

set_option maxRecDepth 100000 in
theorem over : Rows.meanMostUptoRow.holds Try.pinned (Rows.OpenSpec.upto Rows.meanMostSpec) :=
  OpenClaim.holds_of_cond 4 Try.f4 rfl rfl rfl rfl rfl rfl rfl ⟨rfl, rfl, rfl, rfl, rfl⟩ rfl rfl rfl rfl rfl (by kernel_rfl) Try.func4
    (by unfold joinedFacts; (repeat' with_reducible apply band) <;> first | with_reducible exact fitEnter | (rw [fitLifts]; show _ = _; kernel_rfl) | (rw [fitMake]; show _ = _; kernel_rfl) | kernel_rfl)
    (of_decide_eq_true (by kernel_rfl)) (by unfold Func.isWrapper; first | (rw [if_pos (by decide +kernel)]; kernel_rfl) | (rw [if_neg (by decide +kernel)]; exact ⟨rfl, rfl⟩))
    (fun os started H enc _ F => lifted os started H enc F)

theorem proved : Rows.MeanMostUptoSaid := over
#print axioms proved
end Go.Proofs.Ytnbjcohkkaijaaa.meanMostUptoFrame
