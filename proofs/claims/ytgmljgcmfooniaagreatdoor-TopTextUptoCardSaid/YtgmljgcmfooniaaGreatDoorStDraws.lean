/- The draws of a round, as an iterator gives them. Conditions: none. -/
import Derived.RangeFuncNested
import Derived.RangeFuncFrom
import Derived.RangeFuncBound
import Derived.RangeFuncCalls
import Derived.RangeFuncLeaves
import Derived.Shelf.Abstract
import Derived.Shelf.RegionOpen
import Derived.WalkKit
import Derived.OwnWalkIn
import Derived.TacticsInMore
import Derived.LoopNIn
import Derived.LoopIn
import Derived.Test.YtgmljgcmfooniaaGreatDoorProg
import Derived.Test.YtgmljgcmfooniaaGreatDoorKit2
import Derived.RangeFuncNested
import Derived.Test.YtgmljgcmfooniaaGreatDoorKitC
set_option linter.unusedVariables false
set_option linter.unusedSimpArgs false
namespace Go.Tide
/-- What a round keeps: the block that the iterator reads. -/
def DKeeps (B : Nat) (W W' : World) : Prop := W'.heap[B]? = W.heap[B]?
theorem DKeeps.trans {B : Nat} {a b c : World} (h : DKeeps B a b) (k : DKeeps B b c) : DKeeps B a c := Eq.trans k h
theorem range_snoc (k : Nat) : List.range k ++ [k] = List.range (k + 1) := List.range_succ.symm
theorem div_at {J a b : Nat} (h : b < J + 1) : (a * (J + 1) + b) / (J + 1) = a ∧ (a * (J + 1) + b) % (J + 1) = b := by
  rw [Nat.mul_comm, Nat.mul_add_div (by omega), Nat.div_eq_of_lt h, Nat.mul_add_mod, Nat.mod_eq_of_lt h]
  exact ⟨rfl, rfl⟩
theorem le_at {J a b : Nat} (ha : a < J + 1) (hb : b < J + 1) : a * (J + 1) + b < (J + 1) * (J + 1) := by
  have := Nat.mul_le_mul_right (J + 1) (show a + 1 ≤ J + 1 by omega)
  rw [Nat.add_mul] at this
  omega
end Go.Tide
namespace Go.Proofs.YtgmljgcmfooniaaGreatDoor
open Go.RowKit Go.Shelf Go.Tide
set_option linter.unusedVariables false
set_option linter.unusedSimpArgs false
attribute [local go_sem] Oper.semAt_some
/-- A draw. -/
def drawV (J i : Nat) : Value := .agg #[.int .i64 ((i / (J + 1) : Nat) : Int), .int .i64 ((i % (J + 1) : Nat) : Int)]
set_option maxRecDepth 100000 in
set_option maxHeartbeats 4000000 in
theorem draws1_in (F : Fence) (n : Nat) (hF : F.fn 124) (hro : F.round = none) (hn : 1 ≤ n) (l B : Nat) (k0 k1 rate buf : Int) (J : Nat) (hJ : J ≤ 3) (Jv Jx : List Nat → World → Prop)
    (hY : ∀ pre x W, x < (J + 1) * (J + 1) → Jv pre W → pre.length < (J + 1) * (J + 1) → YieldAt F (n - 1) Tryz.prog l #[drawV J x] W fun e W' =>
      (e = .returned (.bool true) ∧ Jv (pre ++ [x]) W' ∧ DKeeps B W W') ∨ (e = .returned (.bool false) ∧ Jx (pre ++ [x]) W'))
    (W : World) (hB : Blk W B 32 #[.int .i64 k0, .int .i64 k1, .int .i64 rate, .int .i64 buf, .int .i64 J]) (h0 : Jv [] W) :
    CallsIn F n Tryz.prog 124 #[.func (.yield l) #[] #[], .pointer (some ⟨B, 0, none⟩)] W fun e W' => (∃ v, e = .returned v) ∧
      ((∃ ys, ys = List.range ((J + 1) * (J + 1)) ∧ Jv ys W') ∨ (∃ pre, (∃ k, k ≤ (J + 1) * (J + 1) ∧ pre = List.range k) ∧ Jx pre W')) := by
  refine callsIn_of_wp Tryz.func124 rfl hF ?_ hro
  simp only [Tryz.ntmps124, List.size_toArray, List.length_cons, List.length_nil, Nat.reduceAdd, Nat.reduceSub, Array.replicate_succ, Array.replicate_zero, List.push_toArray, List.append_toArray, List.nil_append, List.cons_append]
  have c4 : W.cell? ⟨B, 4, none⟩ = some (.int .i64 J) := hB.cell 4
  gi_wp2
  gi_loopw [8] (fun i wr => ∃ a : Nat, a ≤ J + 1 ∧ i = .int .i64 a ∧ Jv (List.range (a * (J + 1))) wr ∧ DKeeps B W wr) (fun i _ => J + 1 - (intOf i).toNat)
  case atStart => exact ⟨0, by omega, rfl, by simpa using h0, rfl⟩
  case round =>
    obtain ⟨a, ha, rfl, hJs, hnx⟩ := hrel
    have hBr : Blk wr B 32 #[.int .i64 k0, .int .i64 k1, .int .i64 rate, .int .i64 buf, .int .i64 J] := Eq.trans hnx hB
    have d4 : wr.cell? ⟨B, 4, none⟩ = some (.int .i64 J) := hBr.cell 4
    by_cases hlt : a < J + 1
    · have t0 : (a : Int) < (J : Int) + 1 := by omega
      gi_wp2
      gi_loopw [14] (fun i wr2 => ∃ b : Nat, b ≤ J + 1 ∧ i = .int .i64 b ∧ Jv (List.range (a * (J + 1) + b)) wr2 ∧ DKeeps B W wr2) (fun i _ => J + 1 - (intOf i).toNat)
      case atStart => exact ⟨0, by omega, rfl, by simpa using hJs, hnx⟩
      case round =>
        obtain ⟨b, hb, rfl, hJq, hnq⟩ := hrel
        by_cases hlb : b < J + 1
        · obtain ⟨fn, tmps, assign, body, hy, hR⟩ := hY _ (a * (J + 1) + b) wr (le_at hlt hlb) hJq (by rw [List.length_range]; exact le_at hlt hlb)
          rw [drawV, (div_at hlb).1, (div_at hlb).2] at hy
          have t1 : (b : Int) < (J : Int) + 1 := by omega
          gi_wp2
          refine hR.mono ?_
          rintro e W3 (⟨rfl, hJ3, hk3⟩ | ⟨rfl, hJx3⟩)
          · gi_wp2
            go_roundw
            case rel => exact ⟨b + 1, by omega, by simp, by rw [← Nat.add_assoc, ← range_snoc]; exact hJ3, hnq.trans hk3⟩
            case measure => simp [intOf]; omega
          · gi_wp2
            refine bodyPost_ret (results_none rfl _ _ _) rfl ?_
            exact ⟨⟨_, rfl⟩, .inr ⟨_, ⟨a * (J + 1) + b + 1, by have := le_at hlt hlb; omega, by rw [range_snoc]⟩, hJx3⟩⟩
        · obtain rfl : b = J + 1 := by omega
          gi_wp2
          go_roundw
          case rel => exact ⟨a + 1, by omega, by simp, by rw [Nat.add_mul, Nat.one_mul]; exact hJq, hnq⟩
          case measure => simp [intOf]; omega
    · obtain rfl : a = J + 1 := by omega
      gi_wp2
      refine bodyPost_end (results_none rfl _ _ _) rfl ?_
      exact ⟨⟨_, rfl⟩, .inl ⟨_, rfl, hJs⟩⟩
theorem draws_stops (n : Nat) (hn : 1 ≤ n) (B : Nat) (k0 k1 rate buf : Int) (J : Nat) (hJ : J ≤ 3) (w : World) (hB : Blk w B 32 #[.int .i64 k0, .int .i64 k1, .int .i64 rate, .int .i64 buf, .int .i64 J]) :
    SeqStopsK Fence.wide n Tryz.prog 124 #[.pointer (some ⟨B, 0, none⟩)] (fun x : Fin ((J + 1) * (J + 1)) => #[drawV J x.val]) (DKeeps B) (fun ys => ys.map Fin.val = List.range ((J + 1) * (J + 1))) (fun pre => ∃ k, k ≤ (J + 1) * (J + 1) ∧ pre.map Fin.val = List.range k) ((J + 1) * (J + 1)) w :=
  fun l Jv Jx W hW _ _ hY h0 =>
    (draws1_in Fence.wide n trivial rfl hn l B k0 k1 rate buf J hJ (fun pre W => ∃ p : List (Fin ((J + 1) * (J + 1))), p.map Fin.val = pre ∧ Jv p W) (fun pre W => ∃ p : List (Fin ((J + 1) * (J + 1))), p.map Fin.val = pre ∧ Jx p W)
      (fun pre x W hx ⟨p, hp, hj⟩ hl => by
        obtain ⟨fn, tmps, assign, body, hy, hR⟩ := hY p ⟨x, hx⟩ W hj (by rw [← hp, List.length_map] at hl; exact hl)
        refine ⟨fn, tmps, assign, body, hy, hR.mono fun e W' h => ?_⟩
        rcases h with ⟨he, hj', hk⟩ | ⟨he, hj'⟩
        · exact .inl ⟨he, ⟨p ++ [⟨x, hx⟩], by simp [hp], hj'⟩, hk⟩
        · exact .inr ⟨he, ⟨p ++ [⟨x, hx⟩], by simp [hp], hj'⟩⟩)
      W (hB.below hW hB.lt) ⟨[], rfl, h0⟩).mono fun e W' h => by
        obtain ⟨hv, h⟩ := h
        refine ⟨hv, ?_⟩
        rcases h with ⟨ys, rfl, p, hp, hj⟩ | ⟨pre, ⟨k, hk, rfl⟩, p, hp, hj⟩
        · exact .inl ⟨p, hp, hj⟩
        · exact .inr ⟨p, ⟨k, hk, hp⟩, hj⟩
set_option maxRecDepth 20000 in
theorem draws_any (k0 k1 rate buf jit : Int) (w : World) : Calls Tryz.prog 91 #[.agg #[.int .i64 k0, .int .i64 k1, .int .i64 rate, .int .i64 buf, .int .i64 jit]] w fun e w' => e = .returned (.func (.func 124) #[] #[.pointer (some ⟨w.heap.size, 0, none⟩)]) ∧ w' = w.alloc (.cells #[.int .i64 k0, .int .i64 k1, .int .i64 rate, .int .i64 buf, .int .i64 jit] 32) := by
  go_enter Tryz.func91, Tryz.ntmps91
  go_wp2
  go_ret
  exact ⟨rfl, rfl⟩
end Go.Proofs.YtgmljgcmfooniaaGreatDoor
