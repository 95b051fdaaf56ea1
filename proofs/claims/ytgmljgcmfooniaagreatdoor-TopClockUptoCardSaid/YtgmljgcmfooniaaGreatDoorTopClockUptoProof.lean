/- TopClock, where the input is of bulk at most 1048576: the law returns true, and its arguments read behind the call as before; the card. Conditions: none beyond the form's own. -/
import Derived.Test.YtgmljgcmfooniaaGreatDoorCards
import Derived.Test.YtgmljgcmfooniaaGreatDoorTie
import Derived.Test.YtgmljgcmfooniaaGreatDoorOpen
import Derived.Test.YtgmljgcmfooniaaGreatDoorFit
import Derived.Test.YtgmljgcmfooniaaGreatDoorBnLaid
import Derived.Test.YtgmljgcmfooniaaGreatDoorTopClockM
import Derived.Test.YtgmljgcmfooniaaGreatDoorBulk
import Derived.Deep.DeepHandedRow
import Derived.Deep.DeepWitnessRowRef
import Derived.Lay
import Derived.SevenTiedAt
import Derived.MakeChecks
namespace Go.Proofs.YtgmljgcmfooniaaGreatDoor.topClockUptoFrame
open Go.ChangeShapes Go.WideShapes Go.ChangeAt Go.RowKit Go.Tide
open Go.ChangeMaps (open_string shut_string)
set_option linter.unusedVariables false
set_option linter.unusedSimpArgs false

theorem own : ownKnob Tryz.prog.godebug = none := by kernel_rfl
theorem laidOut : laidOutB Tryz.prog = true := by kernel_rfl
set_option maxRecDepth 100000 in
set_option maxHeartbeats 1000000 in
theorem contract (H : Type) (enc : TypeId × Value → H) (W : World) (base : Nat) (args : Array Value) (ds gs : List (DataW H)) (before : List MemPlace)
    (hval0 : ∀ (j : Nat) t v, Tryz.f6.params[j]? = some t → args[j]? = some v → Value.okWide Tryz.prog W .any base t v)
    (hW : DataW.Whole enc Tryz.prog Tryz.f6.params.toList Rows.topClockSpec.vars false W args.toList ds gs before)
    (hk : Rows.uptoSmall H (ds ++ gs) = true)
    (hsz0 : (DataW.weightsEach Tryz.prog (Tryz.f6.params.toList ++ Rows.topClockSpec.plain.varTypes Tryz.prog) (ds ++ gs)).all (· ≤ reachBytes) = true)
    (hL : laidMetH Tryz.prog Rows.topClockUptoRow.laid W) (hsh : W.ShapedOpen Tryz.prog) :
    Calls Tryz.prog 6 args W fun e W' => ∃ v, e = .returned v ∧ Rows.topClockSpec.post enc Tryz.prog Tryz.f6 false true false false W args v W' := by
  have hT : BTabs W := tabs_of_laid hL hsh
  have hval : ∀ (j : Nat) t v, Tryz.f6.params[j]? = some t → args[j]? = some v → Value.okWide Tryz.prog W .any base t v := hval0
  have hsz := hsz0
  have hW' := hW
  obtain ⟨p, q, hA0, hV, rfl, hfz, hnd⟩ := hW
  have hA : DataW.TrodAll enc Tryz.prog W 0 (fun _ => true) true Tryz.f6.params.toList args.toList ds p := hA0
  rw [Tryz.params6] at hA hval hsz
  obtain ⟨v0, vs0, d0, ds0, p0, q0, hargs, rfl, rfl, h0, r0'⟩ := trodAll_cons hA
  obtain ⟨v1, vs1, d1, ds1, p1, q1, rfl, rfl, rfl, h1, r1'⟩ := trodAll_cons r0'
  obtain ⟨v2, vs2, d2, ds2, p2, q2, rfl, rfl, rfl, h2, r2'⟩ := trodAll_cons r1'
  obtain ⟨v3, vs3, d3, ds3, p3, q3, rfl, rfl, rfl, h3, r3'⟩ := trodAll_cons r2'
  obtain ⟨v4, vs4, d4, ds4, p4, q4, rfl, rfl, rfl, h4, r4'⟩ := trodAll_cons r3'
  obtain ⟨rfl, rfl, rfl⟩ := trodAll_nil r4'
  obtain rfl : args = #[v0, v1, v2, v3, v4] := by cases args; simp_all
  obtain ⟨rfl, rfl⟩ := trodVars_none hV
  have k0 := h0
  have lt0 : ∀ x ∈ p0, x.block < W.heap.size := by obtain ⟨m, hm⟩ := k0; exact DataW.trod_lt m _ _ _ hm
  have k1 := h1
  have lt1 : ∀ x ∈ p1, x.block < W.heap.size := by obtain ⟨m, hm⟩ := k1; exact DataW.trod_lt m _ _ _ hm
  have k2 := h2
  have lt2 : ∀ x ∈ p2, x.block < W.heap.size := by obtain ⟨m, hm⟩ := k2; exact DataW.trod_lt m _ _ _ hm
  have k3 := h3
  have lt3 : ∀ x ∈ p3, x.block < W.heap.size := by obtain ⟨m, hm⟩ := k3; exact DataW.trod_lt m _ _ _ hm
  have k4 := h4
  have lt4 : ∀ x ∈ p4, x.block < W.heap.size := by obtain ⟨m, hm⟩ := k4; exact DataW.trod_lt m _ _ _ hm
  obtain ⟨a0, len0, cap0, rfl⟩ := okWide_slice Tryz.underlying49 (hval 0 49 v0 rfl rfl)
  obtain ⟨z0, f0, r0, s0⟩ : ∃ z, IsFlat W a0 len0 cap0 1 z ∧ cap0 * 8 ≤ 140737488351232 ∧ cap0 ≤ Rows.uptoBulk d0 := by
    obtain ⟨fuel, hf⟩ := h0
    obtain ⟨z, hz, hc⟩ := open_flats (e := 3) 6 (by kernel_rfl) Tryz.underlying49 (of_decide_eq_true (by kernel_rfl)) (fun _ => rfl) hf
    refine ⟨z, ?_, ?_, ?_⟩
    · rw [show Tryz.prog.cellsOf 3 = 1 from by kernel_rfl] at hz
      exact hz
    · rcases hc with hc | ⟨el, sp, hd, hl⟩
      · omega
      · have hs := sized_slice hsz (j := 0) (t := 49) (e := 3) rfl (by simpa using hd) Tryz.underlying49
        rw [show Tryz.prog.bytesOf 3 = 8 from by kernel_rfl, hl] at hs
        exact hs
    · rcases hc with hc | ⟨el, sp, hd, hl⟩
      · omega
      · have h9 := bulks.slice_le el sp
        have hd' : d0 = .slice el sp := hd
        rw [hd']
        omega
  obtain ⟨a1, len1, cap1, rfl⟩ := okWide_slice Tryz.underlying49 (hval 1 49 v1 rfl rfl)
  obtain ⟨z1, f1, r1, s1⟩ : ∃ z, IsFlat W a1 len1 cap1 1 z ∧ cap1 * 8 ≤ 140737488351232 ∧ cap1 ≤ Rows.uptoBulk d1 := by
    obtain ⟨fuel, hf⟩ := h1
    obtain ⟨z, hz, hc⟩ := open_flats (e := 3) 6 (by kernel_rfl) Tryz.underlying49 (of_decide_eq_true (by kernel_rfl)) (fun _ => rfl) hf
    refine ⟨z, ?_, ?_, ?_⟩
    · rw [show Tryz.prog.cellsOf 3 = 1 from by kernel_rfl] at hz
      exact hz
    · rcases hc with hc | ⟨el, sp, hd, hl⟩
      · omega
      · have hs := sized_slice hsz (j := 1) (t := 49) (e := 3) rfl (by simpa using hd) Tryz.underlying49
        rw [show Tryz.prog.bytesOf 3 = 8 from by kernel_rfl, hl] at hs
        exact hs
    · rcases hc with hc | ⟨el, sp, hd, hl⟩
      · omega
      · have h9 := bulks.slice_le el sp
        have hd' : d1 = .slice el sp := hd
        rw [hd']
        omega
  obtain ⟨a2, rfl, _, _, w2⟩ := open_int Tryz.underlying3 (hval 2 3 v2 rfl rfl) h2
  have b2 : InI64 a2 := num_bounds w2
  obtain ⟨a3, rfl, _, _, w3⟩ := open_int Tryz.underlying3 (hval 3 3 v3 rfl rfl) h3
  have b3 : InI64 a3 := num_bounds w3
  obtain ⟨a4, rfl, _, _, w4⟩ := open_int Tryz.underlying3 (hval 4 3 v4 rfl rfl) h4
  have b4 : InI64 a4 := num_bounds w4
  clear hA0 hval0
  have h8 : Rows.uptoBulkAll _ ≤ 1048576 := of_decide_eq_true hk
  have u0 : len0 ≤ 1048576 := by
    have h7 : Rows.uptoBulk d0 ≤ 1048576 := Nat.le_trans (bulks.part_le (by simp)) h8
    have := f0.le
    omega
  have u1 : len1 ≤ 1048576 := by
    have h7 : Rows.uptoBulk d1 ≤ 1048576 := Nat.le_trans (bulks.part_le (by simp)) h8
    have := f1.le
    omega
  refine (topClock_walk a0 len0 cap0 z0 a1 len1 cap1 z1 a2 a3 a4 W hT u0 u1 f0 r0 f1 r1 b2 b3 b4).mono fun e W' ⟨he, bel⟩ => ?_
  subst he
  exact ⟨_, rfl, _, _, _, [], _, [], hW', trodAll_mk1 (shut_bool Tryz.underlying4 _), (trodAll_cons_mk (Below.trod laidOut (by kernel_rfl) (of_decide_eq_true (by kernel_rfl)) k0 bel lt0) (trodAll_cons_mk (Below.trod laidOut (by kernel_rfl) (of_decide_eq_true (by kernel_rfl)) k1 bel lt1) (trodAll_cons_mk (Below.trod laidOut (by kernel_rfl) (of_decide_eq_true (by kernel_rfl)) k2 bel lt2) (trodAll_cons_mk (Below.trod laidOut (by kernel_rfl) (of_decide_eq_true (by kernel_rfl)) k3 bel lt3) (trodAll_cons_mk (Below.trod laidOut (by kernel_rfl) (of_decide_eq_true (by kernel_rfl)) k4 bel lt4) trodAll_mk0))))), rfl, bel.frame _, fun h => by cases h⟩
theorem laid_met (os : Os) (args : Array Value) : laidMetH Tryz.prog Rows.topClockUptoRow.laid ((World.laidAll Tryz.prog os Rows.topClockUptoRow.laid).forCall (fun _ _ => 0) ⟨#[], args, []⟩).memory := by
  rw [MakeChecks.laidMetH_plain _ _ _ (by kernel_rfl)]
  exact laidMet_laidAll _ (by kernel_rfl) (by kernel_rfl)
theorem reads (os : Os) {H : Type} (enc : TypeId × Value → H) : ∃ places, DataW.whole enc Tryz.prog ((World.laidAll Tryz.prog os Rows.topClockUptoRow.laid).forCall (fun _ _ => 0) ⟨#[], #[.slice none 0 0, .slice none 0 0, .int .i64 0, .int .i64 0, .int .i64 0], []⟩).memory Tryz.f6.params.toList Rows.topClockSpec.vars false (#[.slice none 0 0, .slice none 0 0, .int .i64 0, .int .i64 0, .int .i64 0] : Array Value).toList 8 = some ([.nil, .nil, .lit (.int .i64 0), .lit (.int .i64 0), .lit (.int .i64 0)], [], places) := ⟨[], by kernel_rfl⟩
set_option maxRecDepth 100000 in
set_option maxHeartbeats 1000000 in
theorem lifted (os : Os) (started : os.Started) (H : Type) (enc : TypeId × Value → H) (F : Stop.Interp) :
    ReturnsInHanded {} Tryz.checked os 6 .any ((Rows.OpenSpec.upto Rows.topClockSpec).preRow enc Tryz.prog Tryz.f6 Rows.topClockUptoRow.domain false Rows.topClockUptoRow.laid) (((Rows.OpenSpec.upto Rows.topClockSpec).at F).post enc Tryz.prog Tryz.f6 false true false false) := by
  obtain ⟨places, hx⟩ := reads os enc
  refine returnsInHanded_of_row (C := Tryz.checked) (s := Rows.OpenSpec.upto Rows.topClockSpec) own started (by kernel_rfl) Tryz.func6
    (witness_row_atRef (enc := enc) (C := Tryz.checked) false (World.laidAll Tryz.prog os Rows.topClockUptoRow.laid) #[.slice none 0 0, .slice none 0 0, .int .i64 0, .int .i64 0, .int .i64 0] (World.laidAll_os _ _ _) (by kernel_rfl) (by kernel_rfl) (by kernel_rfl)
      (OpenSpec.preRow_of_cond 8 hx (by kernel_rfl) (fun k hk => by cases hk; kernel_rfl) (by kernel_rfl) (laid_met os _))) ?_
  intro W base args ds gs before hval hW _ hk hsz hL hsh _
  exact contract H enc W base args ds gs before hval hW (hk _ rfl) hsz hL hsh
set_option maxRecDepth 100000 in
theorem over : Rows.topClockUptoRow.holds Tryz.pinned (Rows.OpenSpec.upto Rows.topClockSpec) :=
  OpenClaim.holds_of_cond 6 Tryz.f6 rfl rfl rfl rfl rfl rfl rfl ⟨rfl, rfl, rfl, rfl, rfl⟩ rfl rfl rfl rfl rfl (by kernel_rfl) Tryz.func6
    (by unfold joinedFacts; (repeat' with_reducible apply band) <;> first | with_reducible exact fitEnter | (rw [fitLifts]; show _ = _; kernel_rfl) | (rw [fitMake]; show _ = _; kernel_rfl) | kernel_rfl)
    (of_decide_eq_true (by kernel_rfl)) (by unfold Func.isWrapper; first | (rw [if_pos (by decide +kernel)]; kernel_rfl) | (rw [if_neg (by decide +kernel)]; exact ⟨rfl, rfl⟩))
    (fun os started H enc _ F => by rw [OpenClaim.pre_eq_preRow]; exact lifted os started H enc F)
theorem plain (f : FuncId) (fn : Func) (hf : Tryz.pinned.checked.prog.funcNamed "tidewait/tidewaittop.TopClock" = some f) (hfn : Tryz.pinned.checked.prog.funcs[f]? = some fn) :
    true = Tryz.pinned.checked.prog.looks [] ∧ ∀ (j : Nat) t, fn.params[j]? = some t → Tryz.pinned.checked.prog.wantsStandIn t = false := by
  obtain rfl : f = 6 := Option.some.inj ((show Tryz.prog.funcNamed "tidewait/tidewaittop.TopClock" = some 6 by kernel_rfl).symm.trans hf) |>.symm
  obtain rfl : fn = Tryz.f6 := (Option.some.inj (Tryz.func6.symm.trans hfn)).symm
  refine ⟨by kernel_rfl, fun j t ht => ?_⟩
  rw [Tryz.params6] at ht
  have hm : t ∈ [3, 49] := by
    have := Array.mem_of_getElem? ht
    simp at this ⊢
    first | omega | (rcases this with h | h | h | h | h <;> simp [h]) | (rcases this with h | h | h | h <;> simp [h]) | (rcases this with h | h | h <;> simp [h]) | (rcases this with h | h <;> simp [h])
  have hall : ([3, 49].all fun u => !Tryz.prog.wantsStandIn u) = true := by kernel_rfl
  exact (show Tryz.prog.wantsStandIn t = false by simpa using List.all_eq_true.1 hall t hm)
theorem proved : Rows.TopClockUptoCardSaid :=
  Claim7.holds_tied_plain_at .later [] _ _ _ _ over (fun _ h => by cases h) (by kernel_rfl) (fun _ h => by cases h) topClockUpto_row_tie rfl ⟨rfl, rfl⟩ (by kernel_rfl) rfl plain (by kernel_rfl)
#print axioms proved
end Go.Proofs.YtgmljgcmfooniaaGreatDoor.topClockUptoFrame
