/- A region that draws its order, in a round of a range over a function; and a function's leaving where it had many such ranges. Conditions: none. -/
import Derived.Test.YtgmljgcmfooniaaGreatDoorStMid
import Derived.RangeFuncNested
import Derived.RangeFuncBound
import Derived.RangeFuncCalls
import Derived.RangeFuncLeaves
import Derived.RangeFuncRecord
import Derived.OrdersIn
import Derived.TacticsIn
import Derived.Deep.RegionHeld
set_option linter.unusedVariables false
set_option linter.unusedSimpArgs false
namespace Go
open Go.RowKit
section
variable {P : Program} {ops : Array Oper} {Q : Exit → Act → World → Prop} {md : Region.Mode} {l n : Nat}
theorem rowsIn_round {row : String} {args : Array Value} {w : World} {R : Value → World → Prop} (h : Rows P row args w R) : RowsIn (Fence.wide.inRound l) n P row args w R :=
  fun c cs _ => let ⟨v, w', r, s⟩ := h c cs; ⟨v, w', r, stepsIn_wide.2 s⟩
theorem operIn_round {o : Oper} {a : Act} {w : World} {K : Act → World → Prop} (ho : ∀ c, o.op ≠ .defer c) (h : Oper.wp P o a w K Q) : o.wpIn (Fence.wide.inRound l) n P a w K Q := by
  refine ⟨fun _ _ => trivial, ?_⟩
  rw [Fence.inRound_round, Oper.semAt_some l _ _ ho]
  unfold Oper.wp at h
  generalize (execOp a.eval o).run P w = r at *
  cases r with
  | ok x w' =>
    cases x with
    | value v => exact h
    | skip => exact h
    | defer d => exact h
    | enter f args => exact ⟨fun hh => by simp [Fence.wide] at hh, CallsIn.inRound l (callsIn_wide.2 h)⟩
    | row row args => exact ⟨fun hh => by simp [Fence.wide] at hh, rowsIn_round h⟩
    | _ => exact False.elim h
  | halt x w' =>
    cases x <;> exact h
theorem wpOpIn_round {i : Nat} {a : Act} {w : World} {K : Act → World → Prop} (ho : ∀ (j : Nat) (o : Oper), ops[j]? = some o → ∀ c, o.op ≠ .defer c) (hq : ¬ LetsOut Q) (h : wpOp P ops Q i K a w) : wpOpIn (Fence.wide.inRound l) n P ops Q i K a w := by
  unfold wpOp at h
  unfold wpOpIn
  cases hi : ops[i]? with
  | none => simpa [hi] using h
  | some o =>
    simp only [hi] at h ⊢
    split
    · rename_i hw
      simp only [hw, if_true] at h
      exact operIn_round (ho i o hi) (h.resolve_right fun k => hq k.2)
    · rename_i hw
      simp only [hw] at h
      exact ⟨fun _ _ => trivial, h⟩
theorem wpAnyIn_round (ho : ∀ (j : Nat) (o : Oper), ops[j]? = some o → ∀ c, o.op ≠ .defer c) (hq : ¬ LetsOut Q) : ∀ (fuel : Nat) (listed : Array Bool) (a : Act) (w : World), wpAny P md ops Q fuel listed a w → wpAnyIn (Fence.wide.inRound l) n P md ops Q fuel listed a w
  | 0, _, _, _, h => h
  | fuel + 1, listed, a, w, h => ⟨h.1, fun i hi => wpOpIn_round ho hq (wpOp_mono (fun a' w' h' => wpAnyIn_round ho hq fuel _ a' w' h') (h.2 i hi))⟩
def noDefer (ops : Array Oper) : Bool := ops.toList.all fun o => match o.op with
  | .defer _ => false
  | _ => true
theorem noDefer_spec (h : noDefer ops = true) : ∀ (j : Nat) (o : Oper), ops[j]? = some o → ∀ c, o.op ≠ .defer c := by
  intro j o hj c hc
  have hm : o ∈ ops.toList := by
    have := Array.mem_of_getElem? hj
    simpa using this
  have h1 := List.all_eq_true.1 h o hm
  rw [hc] at h1
  cases h1
/-- A region that draws its order, within a round, under a condition that every operation keeps. -/
theorem wpIn_region_held_round {S : World → Prop} {id : Nat} {a : Act} {w : World} (hd : noDefer ops = true) (hq : ¬ LetsOut Q) (hm : P.follows .mixedOrders = true) (hS : S w.drew)
    (h : S w.drew → wpAnyH P .any ops Q S ops.size (Array.replicate ops.size false) a w.drew) : (Code.region id ops true).wpIn (Fence.wide.inRound l) n P Q a w :=
  wpIn_region_any hm (wpAnyIn_round (noDefer_spec hd) hq _ _ _ _ (wpAny_of_held _ _ _ _ (h hS)))
end
/-- The marks that ranges over functions leave. -/
def marks (Ds : List Nat) : List Deferred := Ds.map fun D => { target := .collected D, args := #[] }
theorem leaves_marks {F : Fence} {n : Nat} {P : Program} {fn : Func} {tmps : Array Value} {R : Ending → World → Prop} : ∀ (Ds : List Nat) (W : World), Ds.Nodup → (∀ D ∈ Ds, W.heap[D]? = some (.deferred (some []))) →
    (∀ W', Off (fun g => g ∈ Ds) W W' → W'.heap.size = W.heap.size → ∃ v, (results fn tmps).run P W' = .ok v W' ∧ R (.returned v) W') → LeavesInM F n P fn tmps R (marks Ds) .returning W := by
  intro Ds
  induction Ds with
  | nil => intro W _ _ h; exact h W (Off.refl _ _) rfl
  | cons D Ds ih =>
    intro W hnd hD h
    have h0 := hD D (List.mem_cons_self ..)
    rw [List.nodup_cons] at hnd
    refine ⟨by simp, .inl ⟨D, _, rfl, run_takeDeferred h0, ih _ hnd.2 (fun E hE => ?_) (fun W' hW hs => ?_)⟩⟩
    · rw [World.putObj_heap_other (fun e => hnd.1 (by rw [← e]; exact hE))]
      exact hD E (List.mem_cons_of_mem _ hE)
    · refine h W' ?_ (by rw [hs]; simp [World.putObj])
      have h1 : Off (fun g => g ∈ D :: Ds) W (W.putObj D (.deferred none)) := Off.of_grown (grownBy_putObj' W D _) (fun g e _ => by cases e; exact List.mem_cons_self ..)
      exact h1.trans (hW.mono fun g _ hg => List.mem_cons_of_mem _ hg)
end Go
