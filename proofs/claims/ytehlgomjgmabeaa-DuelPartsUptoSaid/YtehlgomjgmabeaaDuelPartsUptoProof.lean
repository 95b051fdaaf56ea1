/- DuelParts, where the input is of bulk at most 1048576: the law returns true, and its arguments read behind the call as before. Conditions: none beyond the form's own. -/
import Derived.Test.YtehlgomjgmabeaaRows
import Derived.Test.YtehlgomjgmabeaaBulk
import Derived.Deep.CondSized
import Derived.Test.YtehlgomjgmabeaaOpen
import Derived.Test.YtehlgomjgmabeaaFit
import Derived.Test.YtehlgomjgmabeaaDuelParts
namespace Go.Proofs.Ytehlgomjgmabeaa.duelPartsUptoFrame
open Go.ChangeShapes Go.WideShapes Go.ChangeAt Go.RowKit Go.Tide
open Go.ChangeMaps (open_string shut_string)
set_option linter.unusedVariables false
set_option linter.unusedSimpArgs false

theorem own : ownKnob Try.prog.godebug = none := by kernel_rfl
theorem laidOut : laidOutB Try.prog = true := by kernel_rfl

set_option maxRecDepth 100000 in
set_option maxHeartbeats 1000000 in
theorem lifted (os : Os) (started : os.Started) (H : Type) (enc : TypeId × Value → H) (F : Stop.Interp) :
    ReturnsInHanded {} Try.checked os 3 .any ((Rows.OpenSpec.upto Rows.duelPartsSpec).pre6 enc Try.prog Try.f3 Rows.duelPartsUptoRow.domain false) (((Rows.OpenSpec.upto Rows.duelPartsSpec).at F).post enc Try.prog Try.f3 false true false false) := by
  refine returnsInHanded_of_cond_sized (C := Try.checked) (s := Rows.OpenSpec.upto Rows.duelPartsSpec) (k := Rows.uptoSmall) rfl own started (by kernel_rfl) Try.func3
    (OpenSpec.witness (enc := enc) (C := Try.checked) (s := Rows.OpenSpec.upto Rows.duelPartsSpec) (k := Rows.uptoSmall) rfl false ⟨#[], #[.agg #[.int .i64 0, .int .i64 0, .int .i64 0, .int .i64 0, .int .i64 0], .slice none 0 0, .slice none 0 0], []⟩ 8 (by kernel_rfl) (by kernel_rfl) (by kernel_rfl) (x := ([.agg [.agg [.lit (.int .i64 0), .lit (.int .i64 0)], .lit (.int .i64 0), .lit (.int .i64 0), .lit (.int .i64 0)], .nil, .nil], [], [])) (by kernel_rfl) rfl (by kernel_rfl)) ?_
  intro W base args ds gs before hval0 hW hcnd hk0 hsz0 _
  have hval : ∀ (j : Nat) t v, Try.f3.params[j]? = some t → args[j]? = some v → Value.okWide Try.prog W .any base t v := hval0
  have hsz : (DataW.weightsEach Try.prog (Try.f3.params.toList ++ Rows.duelPartsSpec.plain.varTypes Try.prog) (ds ++ gs)).all (· ≤ reachBytes) = true := hsz0
  have hW' := hW
  obtain ⟨p, q, hA0, hV, rfl, hfz, hnd⟩ := hW
  have hA : DataW.TrodAll enc Try.prog W 0 (fun _ => true) true Try.f3.params.toList args.toList ds p := hA0
  rw [Try.params3] at hA hval hsz
  obtain ⟨v0, vs0, d0, ds0, p0, q0, hargs, rfl, rfl, h0, r0'⟩ := trodAll_cons hA
  obtain ⟨v1, vs1, d1, ds1, p1, q1, rfl, rfl, rfl, h1, r1'⟩ := trodAll_cons r0'
  obtain ⟨v2, vs2, d2, ds2, p2, q2, rfl, rfl, rfl, h2, r2'⟩ := trodAll_cons r1'
  obtain ⟨rfl, rfl, rfl⟩ := trodAll_nil r2'
  obtain rfl : args = #[v0, v1, v2] := by cases args; simp_all
  obtain ⟨rfl, rfl⟩ := trodVars_none hV
  have k0 := h0
  have lt0 : ∀ x ∈ p0, x.block < W.heap.size := by obtain ⟨m, hm⟩ := k0; exact DataW.trod_lt m _ _ _ hm
  have k1 := h1
  have lt1 : ∀ x ∈ p1, x.block < W.heap.size := by obtain ⟨m, hm⟩ := k1; exact DataW.trod_lt m _ _ _ hm
  have k2 := h2
  have lt2 : ∀ x ∈ p2, x.block < W.heap.size := by obtain ⟨m, hm⟩ := k2; exact DataW.trod_lt m _ _ _ hm
  obtain ⟨z0, rfl, l0, f0⟩ := open_flat (t := 24) 6 (by kernel_rfl) (flat_agg (by kernel_rfl) (hval 0 24 v0 rfl rfl)) h0
  obtain ⟨a0_0, a0_1, a0_2, a0_3, a0_4, rfl⟩ := len5 (l0.trans (by kernel_rfl : Try.prog.cellsOf 24 = 5))
  have b0_0 : InI64 a0_0 := f0 _ (by simp)
  have b0_1 : InI64 a0_1 := f0 _ (by simp)
  have b0_2 : InI64 a0_2 := f0 _ (by simp)
  have b0_3 : InI64 a0_3 := f0 _ (by simp)
  have b0_4 : InI64 a0_4 := f0 _ (by simp)
  obtain ⟨a1, len1, cap1, rfl⟩ := okWide_slice Try.underlying25 (hval 1 25 v1 rfl rfl)
  obtain ⟨z1, f1, r1, s1⟩ : ∃ z, IsFlat W a1 len1 cap1 2 z ∧ cap1 * 16 ≤ 140737488351232 ∧ cap1 ≤ Rows.uptoBulk d1 := by
    obtain ⟨fuel, hf⟩ := h1
    obtain ⟨z, hz, hc⟩ := open_flats (e := 22) 6 (by kernel_rfl) Try.underlying25 (of_decide_eq_true (by kernel_rfl)) (fun _ => rfl) hf
    refine ⟨z, ?_, ?_, ?_⟩
    · rw [show Try.prog.cellsOf 22 = 2 from by kernel_rfl] at hz
      exact hz
    · rcases hc with hc | ⟨el, sp, hd, hl⟩
      · omega
      · have hs := sized_slice hsz (j := 1) (t := 25) (e := 22) rfl (by simpa using hd) Try.underlying25
        rw [show Try.prog.bytesOf 22 = 16 from by kernel_rfl, hl] at hs
        exact hs
    · rcases hc with hc | ⟨el, sp, hd, hl⟩
      · omega
      · have h9 := bulks.slice_le el sp
        have hd' : d1 = .slice el sp := hd
        rw [hd']
        omega
  obtain ⟨a2, len2, cap2, rfl⟩ := okWide_slice Try.underlying25 (hval 2 25 v2 rfl rfl)
  obtain ⟨z2, f2, r2, s2⟩ : ∃ z, IsFlat W a2 len2 cap2 2 z ∧ cap2 * 16 ≤ 140737488351232 ∧ cap2 ≤ Rows.uptoBulk d2 := by
    obtain ⟨fuel, hf⟩ := h2
    obtain ⟨z, hz, hc⟩ := open_flats (e := 22) 6 (by kernel_rfl) Try.underlying25 (of_decide_eq_true (by kernel_rfl)) (fun _ => rfl) hf
    refine ⟨z, ?_, ?_, ?_⟩
    · rw [show Try.prog.cellsOf 22 = 2 from by kernel_rfl] at hz
      exact hz
    · rcases hc with hc | ⟨el, sp, hd, hl⟩
      · omega
      · have hs := sized_slice hsz (j := 2) (t := 25) (e := 22) rfl (by simpa using hd) Try.underlying25
        rw [show Try.prog.bytesOf 22 = 16 from by kernel_rfl, hl] at hs
        exact hs
    · rcases hc with hc | ⟨el, sp, hd, hl⟩
      · omega
      · have h9 := bulks.slice_le el sp
        have hd' : d2 = .slice el sp := hd
        rw [hd']
        omega
  have s12 : len1 + len2 ≤ 1048576 := by
    have h8 := bulks.bound hk0
    simp only [Rows.uptoBulkAll, List.append_nil] at h8
    have h6 := f1.le
    have h7 := f2.le
    omega
  clear hA0 hval0
  refine (duelParts_walk a0_0 a0_1 a0_2 a0_3 a0_4 a1 len1 cap1 z1 a2 len2 cap2 z2 W b0_0 b0_1 b0_2 b0_3 b0_4 f1 r1 f2 r2 s12).mono fun e W' ⟨he, bel⟩ => ?_
  subst he
  exact ⟨_, rfl, _, _, _, [], _, [], hW', trodAll_mk1 (shut_bool Try.underlying4 _), (trodAll_cons_mk (Below.trod laidOut (by kernel_rfl) (of_decide_eq_true (by kernel_rfl)) k0 bel lt0) (trodAll_cons_mk (Below.trod laidOut (by kernel_rfl) (of_decide_eq_true (by kernel_rfl)) k1 bel lt1) (trodAll_cons_mk (Below.trod laidOut (by kernel_rfl) (of_decide_eq_true (by kernel_rfl)) k2 bel lt2) trodAll_mk0))), rfl, bel.frame _, fun h => by cases h⟩

set_option maxRecDepth 100000 in
theorem over : Rows.duelPartsUptoRow.holds Try.pinned (Rows.OpenSpec.upto Rows.duelPartsSpec) :=
  OpenClaim.holds_of_cond 3 Try.f3 rfl rfl rfl rfl rfl rfl rfl ⟨rfl, rfl, rfl, rfl, rfl⟩ rfl rfl rfl rfl rfl (by kernel_rfl) Try.func3
    (by unfold joinedFacts; (repeat' with_reducible apply band) <;> first | with_reducible exact fitEnter | (rw [fitLifts]; show _ = _; kernel_rfl) | (rw [fitMake]; show _ = _; kernel_rfl) | kernel_rfl)
    (of_decide_eq_true (by kernel_rfl)) (by unfold Func.isWrapper; first | (rw [if_pos (by decide +kernel)]; kernel_rfl) | (rw [if_neg (by decide +kernel)]; exact ⟨rfl, rfl⟩))
    (fun os started H enc _ F => lifted os started H enc F)

theorem proved : Rows.DuelPartsUptoSaid := over
#print axioms proved
end Go.Proofs.Ytehlgomjgmabeaa.duelPartsUptoFrame
