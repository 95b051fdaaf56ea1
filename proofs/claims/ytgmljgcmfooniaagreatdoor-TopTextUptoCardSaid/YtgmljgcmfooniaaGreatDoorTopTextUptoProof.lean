/- TopText, where the input is of bulk at most 1048576: the law returns true, and its arguments read behind the call as before; the card. Conditions: none beyond the form's own. -/
import Derived.Test.YtgmljgcmfooniaaGreatDoorCards
import Derived.Test.YtgmljgcmfooniaaGreatDoorTie
import Derived.Test.YtgmljgcmfooniaaGreatDoorOpen
import Derived.Test.YtgmljgcmfooniaaGreatDoorFit
import Derived.Test.YtgmljgcmfooniaaGreatDoorBnLaid
import Derived.Test.YtgmljgcmfooniaaGreatDoorTopTextM
import Derived.Test.YtgmljgcmfooniaaGreatDoorBulk
import Derived.Deep.DeepHandedRow
import Derived.Deep.DeepWitnessRowRef
import Derived.Lay
import Derived.SevenTiedAt
import Derived.MakeChecks
namespace Go.Proofs.YtgmljgcmfooniaaGreatDoor.topTextUptoFrame
open Go.ChangeShapes Go.WideShapes Go.ChangeAt Go.RowKit Go.Tide
open Go.ChangeMaps (open_string shut_string)
set_option linter.unusedVariables false
set_option linter.unusedSimpArgs false

theorem own : ownKnob Tryz.prog.godebug = none := by kernel_rfl
theorem laidOut : laidOutB Tryz.prog = true := by kernel_rfl
set_option maxRecDepth 100000 in
set_option maxHeartbeats 1000000 in
theorem contract (H : Type) (enc : TypeId × Value → H) (W : World) (base : Nat) (args : Array Value) (ds gs : List (DataW H)) (before : List MemPlace)
    (hval0 : ∀ (j : Nat) t v, Tryz.f4.params[j]? = some t → args[j]? = some v → Value.okWide Tryz.prog W .any base t v)
    (hW : DataW.Whole enc Tryz.prog Tryz.f4.params.toList Rows.topTextSpec.vars false W args.toList ds gs before)
    (hk : Rows.uptoSmall H (ds ++ gs) = true)
    (hsz0 : (DataW.weightsEach Tryz.prog (Tryz.f4.params.toList ++ Rows.topTextSpec.plain.varTypes Tryz.prog) (ds ++ gs)).all (· ≤ reachBytes) = true)
    (hL : laidMetH Tryz.prog Rows.topTextUptoRow.laid W) (hsh : W.ShapedOpen Tryz.prog) :
    Calls Tryz.prog 4 args W fun e W' => ∃ v, e = .returned v ∧ Rows.topTextSpec.post enc Tryz.prog Tryz.f4 false true false false W args v W' := by
  have hT : BTabs W := tabs_of_laid hL hsh
  have hval : ∀ (j : Nat) t v, Tryz.f4.params[j]? = some t → args[j]? = some v → Value.okWide Tryz.prog W .any base t v := hval0
  have hsz := hsz0
  have hW' := hW
  obtain ⟨p, q, hA0, hV, rfl, hfz, hnd⟩ := hW
  have hA : DataW.TrodAll enc Tryz.prog W 0 (fun _ => true) true Tryz.f4.params.toList args.toList ds p := hA0
  rw [Tryz.params4] at hA hval hsz
  obtain ⟨v0, vs0, d0, ds0, p0, q0, hargs, rfl, rfl, h0, r0'⟩ := trodAll_cons hA
  obtain ⟨v1, vs1, d1, ds1, p1, q1, rfl, rfl, rfl, h1, r1'⟩ := trodAll_cons r0'
  obtain ⟨v2, vs2, d2, ds2, p2, q2, rfl, rfl, rfl, h2, r2'⟩ := trodAll_cons r1'
  obtain ⟨v3, vs3, d3, ds3, p3, q3, rfl, rfl, rfl, h3, r3'⟩ := trodAll_cons r2'
  obtain ⟨rfl, rfl, rfl⟩ := trodAll_nil r3'
  obtain rfl : args = #[v0, v1, v2, v3] := by cases args; simp_all
  obtain ⟨rfl, rfl⟩ := trodVars_none hV
  have k0 := h0
  have lt0 : ∀ x ∈ p0, x.block < W.heap.size := by obtain ⟨m, hm⟩ := k0; exact DataW.trod_lt m _ _ _ hm
  have k1 := h1
  have lt1 : ∀ x ∈ p1, x.block < W.heap.size := by obtain ⟨m, hm⟩ := k1; exact DataW.trod_lt m _ _ _ hm
  have k2 := h2
  have lt2 : ∀ x ∈ p2, x.block < W.heap.size := by obtain ⟨m, hm⟩ := k2; exact DataW.trod_lt m _ _ _ hm
  have k3 := h3
  have lt3 : ∀ x ∈ p3, x.block < W.heap.size := by obtain ⟨m, hm⟩ := k3; exact DataW.trod_lt m _ _ _ hm
  obtain ⟨s0, rfl, e0, _, f0⟩ := open_string Tryz.underlying9 (hval 0 9 v0 rfl rfl) h0
  have r0 : s0.size ≤ 140737488351232 := by
    have hs := sized_string hsz (j := 0) (t := 9) rfl (by rw [e0]; rfl)
    simpa [reachBytes] using hs
  obtain ⟨a1, rfl, _, _, w1⟩ := open_int Tryz.underlying3 (hval 1 3 v1 rfl rfl) h1
  have b1 : InI64 a1 := num_bounds w1
  obtain ⟨a2, rfl, _, _, w2⟩ := open_int Tryz.underlying3 (hval 2 3 v2 rfl rfl) h2
  have b2 : InI64 a2 := num_bounds w2
  obtain ⟨a3, len3, cap3, rfl⟩ := okWide_slice Tryz.underlying29 (hval 3 29 v3 rfl rfl)
  obtain ⟨z3, f3, r3, s3⟩ : ∃ z, IsFlat W a3 len3 cap3 2 z ∧ cap3 * 16 ≤ 140737488351232 ∧ cap3 ≤ Rows.uptoBulk d3 := by
    obtain ⟨fuel, hf⟩ := h3
    obtain ⟨z, hz, hc⟩ := open_flats (e := 30) 6 (by kernel_rfl) Tryz.underlying29 (of_decide_eq_true (by kernel_rfl)) (fun _ => rfl) hf
    refine ⟨z, ?_, ?_, ?_⟩
    · rw [show Tryz.prog.cellsOf 30 = 2 from by kernel_rfl] at hz
      exact hz
    · rcases hc with hc | ⟨el, sp, hd, hl⟩
      · omega
      · have hs := sized_slice hsz (j := 3) (t := 29) (e := 30) rfl (by simpa using hd) Tryz.underlying29
        rw [show Tryz.prog.bytesOf 30 = 16 from by kernel_rfl, hl] at hs
        exact hs
    · rcases hc with hc | ⟨el, sp, hd, hl⟩
      · omega
      · have h9 := bulks.slice_le el sp
        have hd' : d3 = .slice el sp := hd
        rw [hd']
        omega
  clear hA0 hval0
  have h8 : Rows.uptoBulkAll _ ≤ 1048576 := of_decide_eq_true hk
  have u0 : s0.size ≤ 1048576 := by
    have h7 : Rows.uptoBulk d0 ≤ 1048576 := Nat.le_trans (bulks.part_le (by simp)) h8
    rw [e0, bulks.string_eq] at h7
    simp at h7
    omega
  have u3 : len3 ≤ 1048576 := by
    have h7 : Rows.uptoBulk d3 ≤ 1048576 := Nat.le_trans (bulks.part_le (by simp)) h8
    have := f3.le
    omega
  refine (topText_walk s0 a1 a2 a3 len3 cap3 z3 W hT u0 u3 f0 r0 b1 b2 f3 r3).mono fun e W' ⟨he, bel⟩ => ?_
  subst he
  exact ⟨_, rfl, _, _, _, [], _, [], hW', trodAll_mk1 (shut_bool Tryz.underlying4 _), (trodAll_cons_mk (Below.trod laidOut (by kernel_rfl) (of_decide_eq_true (by kernel_rfl)) k0 bel lt0) (trodAll_cons_mk (Below.trod laidOut (by kernel_rfl) (of_decide_eq_true (by kernel_rfl)) k1 bel lt1) (trodAll_cons_mk (Below.trod laidOut (by kernel_rfl) (of_decide_eq_true (by kernel_rfl)) k2 bel lt2) (trodAll_cons_mk (Below.trod laidOut (by kernel_rfl) (of_decide_eq_true (by kernel_rfl)) k3 bel lt3) trodAll_mk0)))), rfl, bel.frame _, fun h => by cases h⟩
theorem laid_met (os : Os) (args : Array Value) : laidMetH Tryz.prog Rows.topTextUptoRow.laid ((World.laidAll Tryz.prog os Rows.topTextUptoRow.laid).forCall (fun _ _ => 0) ⟨#[], args, []⟩).memory := by
  rw [MakeChecks.laidMetH_plain _ _ _ (by kernel_rfl)]
  exact laidMet_laidAll _ (by kernel_rfl) (by kernel_rfl)
theorem reads (os : Os) {H : Type} (enc : TypeId × Value → H) : ∃ places, DataW.whole enc Tryz.prog ((World.laidAll Tryz.prog os Rows.topTextUptoRow.laid).forCall (fun _ _ => 0) ⟨#[], #[.string ByteArray.empty, .int .i64 0, .int .i64 0, .slice none 0 0], []⟩).memory Tryz.f4.params.toList Rows.topTextSpec.vars false (#[.string ByteArray.empty, .int .i64 0, .int .i64 0, .slice none 0 0] : Array Value).toList 8 = some ([.lit (.string []), .lit (.int .i64 0), .lit (.int .i64 0), .nil], [], places) := ⟨[], by kernel_rfl⟩
set_option maxRecDepth 100000 in
set_option maxHeartbeats 1000000 in
theorem lifted (os : Os) (started : os.Started) (H : Type) (enc : TypeId × Value → H) (F : Stop.Interp) :
    ReturnsInHanded {} Tryz.checked os 4 .any ((Rows.OpenSpec.upto Rows.topTextSpec).preRow enc Tryz.prog Tryz.f4 Rows.topTextUptoRow.domain false Rows.topTextUptoRow.laid) (((Rows.OpenSpec.upto Rows.topTextSpec).at F).post enc Tryz.prog Tryz.f4 false true false false) := by
  obtain ⟨places, hx⟩ := reads os enc
  refine returnsInHanded_of_row (C := Tryz.checked) (s := Rows.OpenSpec.upto Rows.topTextSpec) own started (by kernel_rfl) Tryz.func4
    (witness_row_atRef (enc := enc) (C := Tryz.checked) false (World.laidAll Tryz.prog os Rows.topTextUptoRow.laid) #[.string ByteArray.empty, .int .i64 0, .int .i64 0, .slice none 0 0] (World.laidAll_os _ _ _) (by kernel_rfl) (by kernel_rfl) (by kernel_rfl)
      (OpenSpec.preRow_of_cond 8 hx (by kernel_rfl) (fun k hk => by cases hk; kernel_rfl) (by kernel_rfl) (laid_met os _))) ?_
  intro W base args ds gs before hval hW _ hk hsz hL hsh _
  exact contract H enc W base args ds gs before hval hW (hk _ rfl) hsz hL hsh
set_option maxRecDepth 100000 in
theorem over : Rows.topTextUptoRow.holds Tryz.pinned (Rows.OpenSpec.upto Rows.topTextSpec) :=
  OpenClaim.holds_of_cond 4 Tryz.f4 rfl rfl rfl rfl rfl rfl rfl ⟨rfl, rfl, rfl, rfl, rfl⟩ rfl rfl rfl rfl rfl (by kernel_rfl) Tryz.func4
    (by unfold joinedFacts; (repeat' with_reducible apply band) <;> first | with_reducible exact fitEnter | (rw [fitLifts]; show _ = _; kernel_rfl) | (rw [fitMake]; show _ = _; kernel_rfl) | kernel_rfl)
    (of_decide_eq_true (by kernel_rfl)) (by unfold Func.isWrapper; first | (rw [if_pos (by decide +kernel)]; kernel_rfl) | (rw [if_neg (by decide +kernel)]; exact ⟨rfl, rfl⟩))
    (fun os started H enc _ F => by rw [OpenClaim.pre_eq_preRow]; exact lifted os started H enc F)
theorem plain (f : FuncId) (fn : Func) (hf : Tryz.pinned.checked.prog.funcNamed "tidewait/tidewaittop.TopText" = some f) (hfn : Tryz.pinned.checked.prog.funcs[f]? = some fn) :
    true = Tryz.pinned.checked.prog.looks [] ∧ ∀ (j : Nat) t, fn.params[j]? = some t → Tryz.pinned.checked.prog.wantsStandIn t = false := by
  obtain rfl : f = 4 := Option.some.inj ((show Tryz.prog.funcNamed "tidewait/tidewaittop.TopText" = some 4 by kernel_rfl).symm.trans hf) |>.symm
  obtain rfl : fn = Tryz.f4 := (Option.some.inj (Tryz.func4.symm.trans hfn)).symm
  refine ⟨by kernel_rfl, fun j t ht => ?_⟩
  rw [Tryz.params4] at ht
  have hm : t ∈ [29, 3, 9] := by
    have := Array.mem_of_getElem? ht
    simp at this ⊢
    first | omega | (rcases this with h | h | h | h | h <;> simp [h]) | (rcases this with h | h | h | h <;> simp [h]) | (rcases this with h | h | h <;> simp [h]) | (rcases this with h | h <;> simp [h])
  have hall : ([29, 3, 9].all fun u => !Tryz.prog.wantsStandIn u) = true := by kernel_rfl
  exact (show Tryz.prog.wantsStandIn t = false by simpa using List.all_eq_true.1 hall t hm)
theorem proved : Rows.TopTextUptoCardSaid :=
  Claim7.holds_tied_plain_at .later [] _ _ _ _ over (fun _ h => by cases h) (by kernel_rfl) (fun _ h => by cases h) topTextUpto_row_tie rfl ⟨rfl, rfl⟩ (by kernel_rfl) rfl plain (by kernel_rfl)
#print axioms proved
end Go.Proofs.YtgmljgcmfooniaaGreatDoor.topTextUptoFrame
