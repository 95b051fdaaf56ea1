/- BenchBack, where the input is of bulk at most 1048576: the law returns true, and its arguments read behind the call as before; the card. Conditions: none beyond the form's own. -/
import Derived.Test.YtgmljgcmfooniaaDoorCards
import Derived.Test.YtgmljgcmfooniaaDoorTie
import Derived.Test.YtgmljgcmfooniaaDoorOpen
import Derived.Test.YtgmljgcmfooniaaDoorFit
import Derived.Test.YtgmljgcmfooniaaDoorBnLaid
import Derived.Test.YtgmljgcmfooniaaDoorBenchBack
import Derived.Test.YtgmljgcmfooniaaDoorBulk
import Derived.Deep.DeepHandedRow
import Derived.Deep.DeepWitnessRowRef
import Derived.Lay
import Derived.SevenTiedAt
import Derived.MakeChecks
namespace Go.Proofs.YtgmljgcmfooniaaDoor.benchBackUptoFrame
open Go.ChangeShapes Go.WideShapes Go.ChangeAt Go.RowKit Go.Tide
open Go.ChangeMaps (open_string shut_string)
set_option linter.unusedVariables false
set_option linter.unusedSimpArgs false

theorem own : ownKnob Tryd.prog.godebug = none := by kernel_rfl
theorem laidOut : laidOutB Tryd.prog = true := by kernel_rfl
set_option maxRecDepth 100000 in
set_option maxHeartbeats 1000000 in
theorem contract (H : Type) (enc : TypeId × Value → H) (W : World) (base : Nat) (args : Array Value) (ds gs : List (DataW H)) (before : List MemPlace)
    (hval0 : ∀ (j : Nat) t v, Tryd.f3.params[j]? = some t → args[j]? = some v → Value.okWide Tryd.prog W .any base t v)
    (hW : DataW.Whole enc Tryd.prog Tryd.f3.params.toList Rows.benchBackSpec.vars false W args.toList ds gs before)
    (hk : Rows.uptoSmall H (ds ++ gs) = true)
    (hsz0 : (DataW.weightsEach Tryd.prog (Tryd.f3.params.toList ++ Rows.benchBackSpec.plain.varTypes Tryd.prog) (ds ++ gs)).all (· ≤ reachBytes) = true)
    (hL : laidMetH Tryd.prog Rows.benchBackUptoRow.laid W) (hsh : W.ShapedOpen Tryd.prog) :
    Calls Tryd.prog 3 args W fun e W' => ∃ v, e = .returned v ∧ Rows.benchBackSpec.post enc Tryd.prog Tryd.f3 false true false false W args v W' := by
  have hT : BTabs W := tabs_of_laid hL hsh
  have hval : ∀ (j : Nat) t v, Tryd.f3.params[j]? = some t → args[j]? = some v → Value.okWide Tryd.prog W .any base t v := hval0
  have hsz := hsz0
  have hW' := hW
  obtain ⟨p, q, hA0, hV, rfl, hfz, hnd⟩ := hW
  have hA : DataW.TrodAll enc Tryd.prog W 0 (fun _ => true) true Tryd.f3.params.toList args.toList ds p := hA0
  rw [Tryd.params3] at hA hval hsz
  obtain ⟨v0, vs0, d0, ds0, p0, q0, hargs, rfl, rfl, h0, r0'⟩ := trodAll_cons hA
  obtain ⟨v1, vs1, d1, ds1, p1, q1, rfl, rfl, rfl, h1, r1'⟩ := trodAll_cons r0'
  obtain ⟨rfl, rfl, rfl⟩ := trodAll_nil r1'
  obtain rfl : args = #[v0, v1] := by cases args; simp_all
  obtain ⟨rfl, rfl⟩ := trodVars_none hV
  have k0 := h0
  have lt0 : ∀ x ∈ p0, x.block < W.heap.size := by obtain ⟨m, hm⟩ := k0; exact DataW.trod_lt m _ _ _ hm
  have k1 := h1
  have lt1 : ∀ x ∈ p1, x.block < W.heap.size := by obtain ⟨m, hm⟩ := k1; exact DataW.trod_lt m _ _ _ hm
  obtain ⟨z0, rfl, l0, f0⟩ := open_flat (t := 24) 6 (by kernel_rfl) (flat_agg (by kernel_rfl) (hval 0 24 v0 rfl rfl)) h0
  obtain ⟨a0_0, a0_1, a0_2, a0_3, a0_4, rfl⟩ := len5 (l0.trans (by kernel_rfl : Tryd.prog.cellsOf 24 = 5))
  have b0_0 : InI64 a0_0 := f0 _ (by simp)
  have b0_1 : InI64 a0_1 := f0 _ (by simp)
  have b0_2 : InI64 a0_2 := f0 _ (by simp)
  have b0_3 : InI64 a0_3 := f0 _ (by simp)
  have b0_4 : InI64 a0_4 := f0 _ (by simp)
  obtain ⟨s1, rfl, e1, _, f1⟩ := open_string Tryd.underlying9 (hval 1 9 v1 rfl rfl) h1
  have r1 : s1.size ≤ 140737488351232 := by
    have hs := sized_string hsz (j := 1) (t := 9) rfl (by rw [e1]; rfl)
    simpa [reachBytes] using hs
  clear hA0 hval0
  have h8 : Rows.uptoBulkAll _ ≤ 1048576 := of_decide_eq_true hk
  have u1 : s1.size ≤ 1048576 := by
    have h7 : Rows.uptoBulk d1 ≤ 1048576 := Nat.le_trans (bulks.part_le (by simp)) h8
    rw [e1, bulks.string_eq] at h7
    simp at h7
    omega
  refine (benchBack_walk a0_0 a0_1 a0_2 a0_3 a0_4 s1 W hT u1 ).mono fun e W' ⟨he, bel⟩ => ?_
  subst he
  exact ⟨_, rfl, _, _, _, [], _, [], hW', trodAll_mk1 (shut_bool Tryd.underlying4 _), (trodAll_cons_mk (Below.trod laidOut (by kernel_rfl) (of_decide_eq_true (by kernel_rfl)) k0 bel lt0) (trodAll_cons_mk (Below.trod laidOut (by kernel_rfl) (of_decide_eq_true (by kernel_rfl)) k1 bel lt1) trodAll_mk0)), rfl, bel.frame _, fun h => by cases h⟩
theorem laid_met (os : Os) (args : Array Value) : laidMetH Tryd.prog Rows.benchBackUptoRow.laid ((World.laidAll Tryd.prog os Rows.benchBackUptoRow.laid).forCall (fun _ _ => 0) ⟨#[], args, []⟩).memory := by
  rw [MakeChecks.laidMetH_plain _ _ _ (by kernel_rfl)]
  exact laidMet_laidAll _ (by kernel_rfl) (by kernel_rfl)
theorem reads (os : Os) {H : Type} (enc : TypeId × Value → H) : ∃ places, DataW.whole enc Tryd.prog ((World.laidAll Tryd.prog os Rows.benchBackUptoRow.laid).forCall (fun _ _ => 0) ⟨#[], #[.agg #[.int .i64 0, .int .i64 0, .int .i64 0, .int .i64 0, .int .i64 0], .string ByteArray.empty], []⟩).memory Tryd.f3.params.toList Rows.benchBackSpec.vars false (#[.agg #[.int .i64 0, .int .i64 0, .int .i64 0, .int .i64 0, .int .i64 0], .string ByteArray.empty] : Array Value).toList 8 = some ([.agg [.agg [.lit (.int .i64 0), .lit (.int .i64 0)], .lit (.int .i64 0), .lit (.int .i64 0), .lit (.int .i64 0)], .lit (.string [])], [], places) := ⟨[], by kernel_rfl⟩
set_option maxRecDepth 100000 in
set_option maxHeartbeats 1000000 in
theorem lifted (os : Os) (started : os.Started) (H : Type) (enc : TypeId × Value → H) (F : Stop.Interp) :
    ReturnsInHanded {} Tryd.checked os 3 .any ((Rows.OpenSpec.upto Rows.benchBackSpec).preRow enc Tryd.prog Tryd.f3 Rows.benchBackUptoRow.domain false Rows.benchBackUptoRow.laid) (((Rows.OpenSpec.upto Rows.benchBackSpec).at F).post enc Tryd.prog Tryd.f3 false true false false) := by
  obtain ⟨places, hx⟩ := reads os enc
  refine returnsInHanded_of_row (C := Tryd.checked) (s := Rows.OpenSpec.upto Rows.benchBackSpec) own started (by kernel_rfl) Tryd.func3
    (witness_row_atRef (enc := enc) (C := Tryd.checked) false (World.laidAll Tryd.prog os Rows.benchBackUptoRow.laid) #[.agg #[.int .i64 0, .int .i64 0, .int .i64 0, .int .i64 0, .int .i64 0], .string ByteArray.empty] (World.laidAll_os _ _ _) (by kernel_rfl) (by kernel_rfl) (by kernel_rfl)
      (OpenSpec.preRow_of_cond 8 hx (by kernel_rfl) (fun k hk => by cases hk; kernel_rfl) (by kernel_rfl) (laid_met os _))) ?_
  intro W base args ds gs before hval hW _ hk hsz hL hsh _
  exact contract H enc W base args ds gs before hval hW (hk _ rfl) hsz hL hsh
set_option maxRecDepth 100000 in
theorem over : Rows.benchBackUptoRow.holds Tryd.pinned (Rows.OpenSpec.upto Rows.benchBackSpec) :=
  OpenClaim.holds_of_cond 3 Tryd.f3 rfl rfl rfl rfl rfl rfl rfl ⟨rfl, rfl, rfl, rfl, rfl⟩ rfl rfl rfl rfl rfl (by kernel_rfl) Tryd.func3
    (by unfold joinedFacts; (repeat' with_reducible apply band) <;> first | with_reducible exact fitEnter | (rw [fitLifts]; show _ = _; kernel_rfl) | (rw [fitMake]; show _ = _; kernel_rfl) | kernel_rfl)
    (of_decide_eq_true (by kernel_rfl)) (by unfold Func.isWrapper; first | (rw [if_pos (by decide +kernel)]; kernel_rfl) | (rw [if_neg (by decide +kernel)]; exact ⟨rfl, rfl⟩))
    (fun os started H enc _ F => by rw [OpenClaim.pre_eq_preRow]; exact lifted os started H enc F)
theorem plain (f : FuncId) (fn : Func) (hf : Tryd.pinned.checked.prog.funcNamed "tidewait/tidewaitkeep.BenchBack" = some f) (hfn : Tryd.pinned.checked.prog.funcs[f]? = some fn) :
    true = Tryd.pinned.checked.prog.looks [] ∧ ∀ (j : Nat) t, fn.params[j]? = some t → Tryd.pinned.checked.prog.wantsStandIn t = false := by
  obtain rfl : f = 3 := Option.some.inj ((show Tryd.prog.funcNamed "tidewait/tidewaitkeep.BenchBack" = some 3 by kernel_rfl).symm.trans hf) |>.symm
  obtain rfl : fn = Tryd.f3 := (Option.some.inj (Tryd.func3.symm.trans hfn)).symm
  refine ⟨by kernel_rfl, fun j t ht => ?_⟩
  rw [Tryd.params3] at ht
  have hm : t ∈ [24, 9] := by
    have := Array.mem_of_getElem? ht
    simp at this ⊢
    omega
  have hall : ([24, 9].all fun u => !Tryd.prog.wantsStandIn u) = true := by kernel_rfl
  exact (show Tryd.prog.wantsStandIn t = false by simpa using List.all_eq_true.1 hall t hm)
theorem proved : Rows.BenchBackUptoCardSaid :=
  Claim7.holds_tied_plain_at .later [] _ _ _ _ over (fun _ h => by cases h) (by kernel_rfl) (fun _ h => by cases h) benchBackUpto_row_tie rfl ⟨rfl, rfl⟩ (by kernel_rfl) rfl plain (by kernel_rfl)
#print axioms proved
end Go.Proofs.YtgmljgcmfooniaaDoor.benchBackUptoFrame
