/- A duel's run, round by round. Conditions: none. -/
import Derived.Test.YtehlgomjgmabeaaDuelP
import Derived.Test.YtehlgomjgmabeaaKitC
set_option linter.unusedVariables false
set_option linter.unusedSimpArgs false
namespace Go
open Go.RowKit
theorem own_set {w : World} {base b i size n : Nat} {e : TypeId} {v : Value} {xs : List Value} (h : w.ownsRow base e size v n xs) (hb : b < base) (u : Value) : (w.setCell ⟨b, i, none⟩ u).ownsRow base e size v n xs :=
  h.kept (⟨rfl, rfl, rfl, by simp [World.setCell], fun k hk hne => Below.heap_setCell w ⟨b, i, none⟩ u k (fun h => hne (by rw [h]))⟩ : w.grownBy (w.setCell ⟨b, i, none⟩ u) (some b)) (.inr (own_ne h hb))
theorem own_more {w : World} {base size n : Nat} {e : TypeId} {v : Value} {xs : List Value} (h : w.ownsRow base e size v n xs) (os : Array Obj) (d : Nat) : (w.more os d).ownsRow base e size v n xs :=
  h.kept (⟨rfl, rfl, rfl, by simp, fun k hk _ => World.heap_more w os d hk⟩ : w.grownBy (w.more os d) none) (by cases hv : v.ownBlock <;> simp)
theorem own_base_le {w : World} {base base' size n : Nat} {e : TypeId} {v : Value} {xs : List Value} (h : w.ownsRow base e size v n xs) (hb : base' ≤ base) : w.ownsRow base' e size v n xs := by
  refine ⟨h.1, ?_⟩
  rcases h.2 with h1 | ⟨g, cap, cur, e1, e2, e3⟩
  · exact .inl h1
  · exact .inr ⟨g, cap, cur, e1, Nat.le_trans hb e2, e3⟩
end Go
namespace Go.Proofs.Ytehlgomjgmabeaa
open Go.RowKit Go.Tide
set_option linter.unusedVariables false
set_option linter.unusedSimpArgs false
theorem roundInfo : (Try.prog.info? 38).map (fun i => (i.zero, i.size, i.bytes)) = some (some (.agg #[.int .i64 0, .int .i64 0, .int .i64 0, .int .i64 0, .int .i64 0, .int .i64 0]), 6, 48) := by kernel_rfl
theorem begin_vals (r : DRules) : (dBegin r).w0 = 0 ∧ (dBegin r).w1 = 0 := ⟨rfl, rfl⟩
set_option maxRecDepth 20000 in
set_option maxHeartbeats 3000000 in
theorem play_ok (r : DRules) (a : Option Addr) (n c : Nat) (f : Nat → Nat → Int) (w : World) (hf : RowC w 2 a n f) (hn : n ≤ 1048576) (hr : r.ok) (hall : dAll r f n) :
    Calls Try.prog 12 #[.agg #[.int .i64 r.k0, .int .i64 r.k1, .int .i64 r.rate, .int .i64 r.buf, .int .i64 r.jit], .slice a n c] w fun e w' => ∃ ao co, e = .returned (.tuple #[.slice ao n co, .agg #[.int .i64 (dRun r f n).a.c0, .int .i64 (dRun r f n).a.c1, .int .i64 (dRun r f n).a.c2, .int .i64 (dRun r f n).a.c3, .int .i64 (dRun r f n).a.c4, .int .i64 (dRun r f n).a.c5, .int .i64 (dRun r f n).b.c0, .int .i64 (dRun r f n).b.c1, .int .i64 (dRun r f n).b.c2, .int .i64 (dRun r f n).b.c3, .int .i64 (dRun r f n).b.c4, .int .i64 (dRun r f n).b.c5, .int .i64 (dRun r f n).w0, .int .i64 (dRun r f n).w1], .int .i64 0]) ∧ w'.ownsRow w.heap.size 38 6 (.slice ao n co) n (cellsC 6 n (dRows r f)) ∧ Below w.heap.size w w' := by
  obtain ⟨i0_, hi, hz0, hz1, hz2⟩ := info_parts roundInfo
  have HR := Lib.hid hr
  have HA := Lib.hid hall
  clear hall
  have hrn := hr.2.2
  obtain ⟨m1, m2, m3, m4, m5, m6⟩ := hrn
  go_enter Try.func12, Try.ntmps12
  go_wp2_with fail
  refine (start_ok r.k0 r.k1 r.rate r.buf r.jit _ HR.out.1 HR.out.2.1 HR.out.2.2).mono ?_
  rintro e w1 ⟨rfl, os1, d1, rfl⟩
  go_wp2_with fail
  have hm : More w (((w.alloc (.cells #[.int .i64 r.k0, .int .i64 r.k1, .int .i64 r.rate, .int .i64 r.buf, .int .i64 r.jit] 24)).alloc (.cells #[.int .i64 0, .int .i64 0, .int .i64 0, .int .i64 0, .int .i64 0, .int .i64 0, .int .i64 0, .int .i64 0, .int .i64 0, .int .i64 0, .int .i64 0, .int .i64 0, .int .i64 0, .int .i64 0] 32)).more os1 d1) := (by repeat (first | (with_reducible assumption) | (with_reducible exact More.refl _) | (with_reducible refine More.alloc ?_ _) | (with_reducible refine More.more ?_ _ _) | (with_reducible refine More.drewN ?_ _) | (with_reducible refine More.drew ?_)))
  have hB1 : Blk (((w.alloc (.cells #[.int .i64 r.k0, .int .i64 r.k1, .int .i64 r.rate, .int .i64 r.buf, .int .i64 r.jit] 24)).alloc (.cells #[.int .i64 0, .int .i64 0, .int .i64 0, .int .i64 0, .int .i64 0, .int .i64 0, .int .i64 0, .int .i64 0, .int .i64 0, .int .i64 0, .int .i64 0, .int .i64 0, .int .i64 0, .int .i64 0] 32)).more os1 d1) w.heap.size 24 #[.int .i64 r.k0, .int .i64 r.k1, .int .i64 r.rate, .int .i64 r.buf, .int .i64 r.jit] := (by repeat (first | (with_reducible assumption) | ((with_reducible refine Blk.new' ?_); (simp [Nat.add_assoc]; done)) | (with_reducible refine Blk.alloc ?_ _) | (with_reducible refine Blk.more ?_ _ _) | (with_reducible refine Blk.drew ?_) | (with_reducible refine Blk.drewN ?_ _)))
  have hB2 : Blk (((w.alloc (.cells #[.int .i64 r.k0, .int .i64 r.k1, .int .i64 r.rate, .int .i64 r.buf, .int .i64 r.jit] 24)).alloc (.cells #[.int .i64 0, .int .i64 0, .int .i64 0, .int .i64 0, .int .i64 0, .int .i64 0, .int .i64 0, .int .i64 0, .int .i64 0, .int .i64 0, .int .i64 0, .int .i64 0, .int .i64 0, .int .i64 0] 32)).more os1 d1) (w.heap.size + 1) 32 #[.int .i64 0, .int .i64 0, .int .i64 0, .int .i64 0, .int .i64 0, .int .i64 0, .int .i64 0, .int .i64 0, .int .i64 0, .int .i64 0, .int .i64 0, .int .i64 0, .int .i64 0, .int .i64 0] := (by repeat (first | (with_reducible assumption) | ((with_reducible refine Blk.new' ?_); (simp [Nat.add_assoc]; done)) | (with_reducible refine Blk.alloc ?_ _) | (with_reducible refine Blk.more ?_ _ _) | (with_reducible refine Blk.drew ?_) | (with_reducible refine Blk.drewN ?_ _)))
  have hfz : RowC (((w.alloc (.cells #[.int .i64 r.k0, .int .i64 r.k1, .int .i64 r.rate, .int .i64 r.buf, .int .i64 r.jit] 24)).alloc (.cells #[.int .i64 0, .int .i64 0, .int .i64 0, .int .i64 0, .int .i64 0, .int .i64 0, .int .i64 0, .int .i64 0, .int .i64 0, .int .i64 0, .int .i64 0, .int .i64 0, .int .i64 0, .int .i64 0] 32)).more os1 d1) 2 a n f := (by repeat (first | (with_reducible assumption) | (with_reducible exact RowC.nil) | (with_reducible apply RowC.drewN) | (with_reducible apply RowC.drew) | (with_reducible apply RowC.more) | (with_reducible apply RowC.alloc)))
  have hl : w.heap.size + 1 < (((w.alloc (.cells #[.int .i64 r.k0, .int .i64 r.k1, .int .i64 r.rate, .int .i64 r.buf, .int .i64 r.jit] 24)).alloc (.cells #[.int .i64 0, .int .i64 0, .int .i64 0, .int .i64 0, .int .i64 0, .int .i64 0, .int .i64 0, .int .i64 0, .int .i64 0, .int .i64 0, .int .i64 0, .int .i64 0, .int .i64 0, .int .i64 0] 32)).more os1 d1).heap.size := hB2.lt
  have hO0 : w.heap.size + (2 + os1.size) = (((w.alloc (.cells #[.int .i64 r.k0, .int .i64 r.k1, .int .i64 r.rate, .int .i64 r.buf, .int .i64 r.jit] 24)).alloc (.cells #[.int .i64 0, .int .i64 0, .int .i64 0, .int .i64 0, .int .i64 0, .int .i64 0, .int .i64 0, .int .i64 0, .int .i64 0, .int .i64 0, .int .i64 0, .int .i64 0, .int .i64 0, .int .i64 0] 32)).more os1 d1).heap.size := by simp; omega
  rw [hO0]
  clear hO0
  generalize (((w.alloc (.cells #[.int .i64 r.k0, .int .i64 r.k1, .int .i64 r.rate, .int .i64 r.buf, .int .i64 r.jit] 24)).alloc (.cells #[.int .i64 0, .int .i64 0, .int .i64 0, .int .i64 0, .int .i64 0, .int .i64 0, .int .i64 0, .int .i64 0, .int .i64 0, .int .i64 0, .int .i64 0, .int .i64 0, .int .i64 0, .int .i64 0] 32)).more os1 d1) = wz at *
  have hN : Hid (Blk (wz.alloc (.cells #[.int .i64 r.k0, .int .i64 1, .int .i64 (-1), .int .i64 0, .int .i64 0, .int .i64 0, .int .i64 r.k1, .int .i64 1, .int .i64 (-1), .int .i64 0, .int .i64 0, .int .i64 0, .int .i64 0, .int .i64 0] 32)) wz.heap.size 32 #[.int .i64 (dRun r f 0).a.c0, .int .i64 (dRun r f 0).a.c1, .int .i64 (dRun r f 0).a.c2, .int .i64 (dRun r f 0).a.c3, .int .i64 (dRun r f 0).a.c4, .int .i64 (dRun r f 0).a.c5, .int .i64 (dRun r f 0).b.c0, .int .i64 (dRun r f 0).b.c1, .int .i64 (dRun r f 0).b.c2, .int .i64 (dRun r f 0).b.c3, .int .i64 (dRun r f 0).b.c4, .int .i64 (dRun r f 0).b.c5, .int .i64 (dRun r f 0).w0, .int .i64 (dRun r f 0).w1]) := Blk.new wz 32 #[.int .i64 r.k0, .int .i64 1, .int .i64 (-1), .int .i64 0, .int .i64 0, .int .i64 0, .int .i64 r.k1, .int .i64 1, .int .i64 (-1), .int .i64 0, .int .i64 0, .int .i64 0, .int .i64 0, .int .i64 0]
  have hbe0 : Below wz.heap.size wz (wz.alloc (.cells #[.int .i64 r.k0, .int .i64 1, .int .i64 (-1), .int .i64 0, .int .i64 0, .int .i64 0, .int .i64 r.k1, .int .i64 1, .int .i64 (-1), .int .i64 0, .int .i64 0, .int .i64 0, .int .i64 0, .int .i64 0] 32)) := (Below.refl _ _).alloc (Nat.le_refl _) _
  have ha0 : Hid (dAll r f 0) := fun k hk => absurd hk (by omega)
  generalize wz.alloc (.cells #[.int .i64 r.k0, .int .i64 1, .int .i64 (-1), .int .i64 0, .int .i64 0, .int .i64 0, .int .i64 r.k1, .int .i64 1, .int .i64 (-1), .int .i64 0, .int .i64 0, .int .i64 0, .int .i64 0, .int .i64 0] 32) = w8 at *
  have hmz := hm.below
  have hmzs := hmz.size
  go_loopw [9, 26] (fun out i wr => ∃ k : Nat, i = .int .i64 k ∧ k ≤ n ∧ wr.ownsRow (wz.heap.size + 1) 38 6 out k (cellsC 6 k (dRows r f)) ∧ Hid (Blk wr wz.heap.size 32 #[.int .i64 (dRun r f k).a.c0, .int .i64 (dRun r f k).a.c1, .int .i64 (dRun r f k).a.c2, .int .i64 (dRun r f k).a.c3, .int .i64 (dRun r f k).a.c4, .int .i64 (dRun r f k).a.c5, .int .i64 (dRun r f k).b.c0, .int .i64 (dRun r f k).b.c1, .int .i64 (dRun r f k).b.c2, .int .i64 (dRun r f k).b.c3, .int .i64 (dRun r f k).b.c4, .int .i64 (dRun r f k).b.c5, .int .i64 (dRun r f k).w0, .int .i64 (dRun r f k).w1]) ∧ Below wz.heap.size wz wr ∧ Hid (dAll r f k)) (fun _ i _ => n - (intOf i).toNat)
  case atStart => exact ⟨0, rfl, Nat.zero_le _, World.ownsRow_nil _ _ _ _, hN, hbe0, ha0⟩
  case round =>
    obtain ⟨k, rfl, hk, hown, hS, hbe, hall⟩ := hrel
    obtain ⟨ao, co, hv, hco⟩ := own_sliceC hown
    subst hv
    have hsz := hbe.size
    have hSl := hS.out.lt
    by_cases hlt : k < n
    · have hlate := HA.out k hlt
      obtain ⟨b, off, x, y, rfl, hb, hcx, hcy, hx, hy⟩ := (hfz.below hbe (Nat.le_refl _)).at2 hlt
      have hC1 : Blk wr w.heap.size 24 #[.int .i64 r.k0, .int .i64 r.k1, .int .i64 r.rate, .int .i64 r.buf, .int .i64 r.jit] := hB1.below hbe (by omega)
      have e0 : wr.cell? ⟨w.heap.size, 0, none⟩ = some (.int .i64 r.k0) := hC1.cell 0
      have e1 : wr.cell? ⟨w.heap.size, 1, none⟩ = some (.int .i64 r.k1) := hC1.cell 1
      have e2 : wr.cell? ⟨w.heap.size, 2, none⟩ = some (.int .i64 r.rate) := hC1.cell 2
      have e3 : wr.cell? ⟨w.heap.size, 3, none⟩ = some (.int .i64 r.buf) := hC1.cell 3
      have e4 : wr.cell? ⟨w.heap.size, 4, none⟩ = some (.int .i64 r.jit) := hC1.cell 4
      have hlg : w.heap.size < wr.heap.size := by omega
      have hok := Lib.hid (run_ok HR.out k hall.out)
      have hrow : Hid (∀ j, dRows r f k j = dRow r (dRun r f k) j) := fun j => rfl
      obtain ⟨s, hs⟩ : ∃ s, Hid (dRun r f k = s) := ⟨_, rfl⟩
      rw [hs.out] at hS hok hrow
      have hS' := hS.out
      have s0 : wr.cell? ⟨wz.heap.size, 0, none⟩ = some (.int .i64 s.a.c0) := hS'.cell 0
      have s1 : wr.cell? ⟨wz.heap.size, 1, none⟩ = some (.int .i64 s.a.c1) := hS'.cell 1
      have s2 : wr.cell? ⟨wz.heap.size, 2, none⟩ = some (.int .i64 s.a.c2) := hS'.cell 2
      have s3 : wr.cell? ⟨wz.heap.size, 3, none⟩ = some (.int .i64 s.a.c3) := hS'.cell 3
      have s4 : wr.cell? ⟨wz.heap.size, 4, none⟩ = some (.int .i64 s.a.c4) := hS'.cell 4
      have s5 : wr.cell? ⟨wz.heap.size, 5, none⟩ = some (.int .i64 s.a.c5) := hS'.cell 5
      have s6 : wr.cell? ⟨wz.heap.size, 6, none⟩ = some (.int .i64 s.b.c0) := hS'.cell 6
      have s7 : wr.cell? ⟨wz.heap.size, 7, none⟩ = some (.int .i64 s.b.c1) := hS'.cell 7
      have s8 : wr.cell? ⟨wz.heap.size, 8, none⟩ = some (.int .i64 s.b.c2) := hS'.cell 8
      have s9 : wr.cell? ⟨wz.heap.size, 9, none⟩ = some (.int .i64 s.b.c3) := hS'.cell 9
      have s10 : wr.cell? ⟨wz.heap.size, 10, none⟩ = some (.int .i64 s.b.c4) := hS'.cell 10
      have s11 : wr.cell? ⟨wz.heap.size, 11, none⟩ = some (.int .i64 s.b.c5) := hS'.cell 11
      have s12 : wr.cell? ⟨wz.heap.size, 12, none⟩ = some (.int .i64 s.w0) := hS'.cell 12
      have s13 : wr.cell? ⟨wz.heap.size, 13, none⟩ = some (.int .i64 s.w1) := hS'.cell 13
      have hlx : dLate r x y := by rw [hx.out, hy.out]; exact hlate
      obtain ⟨s', hs'⟩ : ∃ s', Hid (dGo r s x y = s') := ⟨_, rfl⟩
      obtain ⟨q, hq⟩ : ∃ q, Hid (dRow r s = q) := ⟨_, rfl⟩
      go_wp2_with fail
      refine (step_go r s x y _ HR.out hok.out hlx s' hs' q hq).mono ?_
      rintro e w1 ⟨rfl, os2, d2, rfl⟩
      have hgo : Hid (dRun r f (k + 1) = s') := by show dGo r (dRun r f k) (f k 0) (f k 1) = s'; rw [hs.out, ← hx.out, ← hy.out]; exact hs'.out
      have hwy : ((wr.alloc (.cells #[.int .i64 x, .int .i64 y] 22)).more os2 d2).heap.size = wr.heap.size + (1 + os2.size) := by simp; omega
      have hoy : ((wr.alloc (.cells #[.int .i64 x, .int .i64 y] 22)).more os2 d2).ownsRow (wz.heap.size + 1) 38 6 (.slice ao k co) k (cellsC 6 k (dRows r f)) := own_more (hown.alloc _) _ _
      have hSy : Blk ((wr.alloc (.cells #[.int .i64 x, .int .i64 y] 22)).more os2 d2) wz.heap.size 32 #[.int .i64 s.a.c0, .int .i64 s.a.c1, .int .i64 s.a.c2, .int .i64 s.a.c3, .int .i64 s.a.c4, .int .i64 s.a.c5, .int .i64 s.b.c0, .int .i64 s.b.c1, .int .i64 s.b.c2, .int .i64 s.b.c3, .int .i64 s.b.c4, .int .i64 s.b.c5, .int .i64 s.w0, .int .i64 s.w1] := (hS'.alloc _).more _ _
      have hby : Below wz.heap.size wz ((wr.alloc (.cells #[.int .i64 x, .int .i64 y] 22)).more os2 d2) := (hbe.alloc hsz _).more (by simp; omega) _ _

      have hszy : wz.heap.size < ((wr.alloc (.cells #[.int .i64 x, .int .i64 y] 22)).more os2 d2).heap.size := by omega
      clear hown hS hS' hbe hC1 e0 e1 e2 e3 e4 s0 s1 s2 s3 s4 s5 s6 s7 s8 s9 s10 s11 s12 s13 hwy
      generalize ((wr.alloc (.cells #[.int .i64 x, .int .i64 y] 22)).more os2 d2) = wy at *
      have s0 : wy.cell? ⟨wz.heap.size, 0, none⟩ = some (.int .i64 s.a.c0) := hSy.cell 0
      have t0 : wy.frozen? ⟨wz.heap.size, 0, none⟩ = false := hSy.frozen 0
      have s1 : wy.cell? ⟨wz.heap.size, 1, none⟩ = some (.int .i64 s.a.c1) := hSy.cell 1
      have t1 : wy.frozen? ⟨wz.heap.size, 1, none⟩ = false := hSy.frozen 1
      have s2 : wy.cell? ⟨wz.heap.size, 2, none⟩ = some (.int .i64 s.a.c2) := hSy.cell 2
      have t2 : wy.frozen? ⟨wz.heap.size, 2, none⟩ = false := hSy.frozen 2
      have s3 : wy.cell? ⟨wz.heap.size, 3, none⟩ = some (.int .i64 s.a.c3) := hSy.cell 3
      have t3 : wy.frozen? ⟨wz.heap.size, 3, none⟩ = false := hSy.frozen 3
      have s4 : wy.cell? ⟨wz.heap.size, 4, none⟩ = some (.int .i64 s.a.c4) := hSy.cell 4
      have t4 : wy.frozen? ⟨wz.heap.size, 4, none⟩ = false := hSy.frozen 4
      have s5 : wy.cell? ⟨wz.heap.size, 5, none⟩ = some (.int .i64 s.a.c5) := hSy.cell 5
      have t5 : wy.frozen? ⟨wz.heap.size, 5, none⟩ = false := hSy.frozen 5
      have s6 : wy.cell? ⟨wz.heap.size, 6, none⟩ = some (.int .i64 s.b.c0) := hSy.cell 6
      have t6 : wy.frozen? ⟨wz.heap.size, 6, none⟩ = false := hSy.frozen 6
      have s7 : wy.cell? ⟨wz.heap.size, 7, none⟩ = some (.int .i64 s.b.c1) := hSy.cell 7
      have t7 : wy.frozen? ⟨wz.heap.size, 7, none⟩ = false := hSy.frozen 7
      have s8 : wy.cell? ⟨wz.heap.size, 8, none⟩ = some (.int .i64 s.b.c2) := hSy.cell 8
      have t8 : wy.frozen? ⟨wz.heap.size, 8, none⟩ = false := hSy.frozen 8
      have s9 : wy.cell? ⟨wz.heap.size, 9, none⟩ = some (.int .i64 s.b.c3) := hSy.cell 9
      have t9 : wy.frozen? ⟨wz.heap.size, 9, none⟩ = false := hSy.frozen 9
      have s10 : wy.cell? ⟨wz.heap.size, 10, none⟩ = some (.int .i64 s.b.c4) := hSy.cell 10
      have t10 : wy.frozen? ⟨wz.heap.size, 10, none⟩ = false := hSy.frozen 10
      have s11 : wy.cell? ⟨wz.heap.size, 11, none⟩ = some (.int .i64 s.b.c5) := hSy.cell 11
      have t11 : wy.frozen? ⟨wz.heap.size, 11, none⟩ = false := hSy.frozen 11
      have s12 : wy.cell? ⟨wz.heap.size, 12, none⟩ = some (.int .i64 s.w0) := hSy.cell 12
      have t12 : wy.frozen? ⟨wz.heap.size, 12, none⟩ = false := hSy.frozen 12
      have s13 : wy.cell? ⟨wz.heap.size, 13, none⟩ = some (.int .i64 s.w1) := hSy.cell 13
      have t13 : wy.frozen? ⟨wz.heap.size, 13, none⟩ = false := hSy.frozen 13
      have hoz : ((((((((((((((wy.setCell ⟨wz.heap.size, 0, none⟩ (.int .i64 s'.a.c0)).setCell ⟨wz.heap.size, 1, none⟩ (.int .i64 s'.a.c1)).setCell ⟨wz.heap.size, 2, none⟩ (.int .i64 s'.a.c2)).setCell ⟨wz.heap.size, 3, none⟩ (.int .i64 s'.a.c3)).setCell ⟨wz.heap.size, 4, none⟩ (.int .i64 s'.a.c4)).setCell ⟨wz.heap.size, 5, none⟩ (.int .i64 s'.a.c5)).setCell ⟨wz.heap.size, 6, none⟩ (.int .i64 s'.b.c0)).setCell ⟨wz.heap.size, 7, none⟩ (.int .i64 s'.b.c1)).setCell ⟨wz.heap.size, 8, none⟩ (.int .i64 s'.b.c2)).setCell ⟨wz.heap.size, 9, none⟩ (.int .i64 s'.b.c3)).setCell ⟨wz.heap.size, 10, none⟩ (.int .i64 s'.b.c4)).setCell ⟨wz.heap.size, 11, none⟩ (.int .i64 s'.b.c5)).setCell ⟨wz.heap.size, 12, none⟩ (.int .i64 s'.w0)).setCell ⟨wz.heap.size, 13, none⟩ (.int .i64 s'.w1)).ownsRow (wz.heap.size + 1) 38 6 (.slice ao k co) k (cellsC 6 k (dRows r f)) := (own_set (b := wz.heap.size) (i := 13) (own_set (b := wz.heap.size) (i := 12) (own_set (b := wz.heap.size) (i := 11) (own_set (b := wz.heap.size) (i := 10) (own_set (b := wz.heap.size) (i := 9) (own_set (b := wz.heap.size) (i := 8) (own_set (b := wz.heap.size) (i := 7) (own_set (b := wz.heap.size) (i := 6) (own_set (b := wz.heap.size) (i := 5) (own_set (b := wz.heap.size) (i := 4) (own_set (b := wz.heap.size) (i := 3) (own_set (b := wz.heap.size) (i := 2) (own_set (b := wz.heap.size) (i := 1) (own_set (b := wz.heap.size) (i := 0) hoy (Nat.lt_succ_self _) (.int .i64 s'.a.c0)) (Nat.lt_succ_self _) (.int .i64 s'.a.c1)) (Nat.lt_succ_self _) (.int .i64 s'.a.c2)) (Nat.lt_succ_self _) (.int .i64 s'.a.c3)) (Nat.lt_succ_self _) (.int .i64 s'.a.c4)) (Nat.lt_succ_self _) (.int .i64 s'.a.c5)) (Nat.lt_succ_self _) (.int .i64 s'.b.c0)) (Nat.lt_succ_self _) (.int .i64 s'.b.c1)) (Nat.lt_succ_self _) (.int .i64 s'.b.c2)) (Nat.lt_succ_self _) (.int .i64 s'.b.c3)) (Nat.lt_succ_self _) (.int .i64 s'.b.c4)) (Nat.lt_succ_self _) (.int .i64 s'.b.c5)) (Nat.lt_succ_self _) (.int .i64 s'.w0)) (Nat.lt_succ_self _) (.int .i64 s'.w1))
      have hSz : Blk ((((((((((((((wy.setCell ⟨wz.heap.size, 0, none⟩ (.int .i64 s'.a.c0)).setCell ⟨wz.heap.size, 1, none⟩ (.int .i64 s'.a.c1)).setCell ⟨wz.heap.size, 2, none⟩ (.int .i64 s'.a.c2)).setCell ⟨wz.heap.size, 3, none⟩ (.int .i64 s'.a.c3)).setCell ⟨wz.heap.size, 4, none⟩ (.int .i64 s'.a.c4)).setCell ⟨wz.heap.size, 5, none⟩ (.int .i64 s'.a.c5)).setCell ⟨wz.heap.size, 6, none⟩ (.int .i64 s'.b.c0)).setCell ⟨wz.heap.size, 7, none⟩ (.int .i64 s'.b.c1)).setCell ⟨wz.heap.size, 8, none⟩ (.int .i64 s'.b.c2)).setCell ⟨wz.heap.size, 9, none⟩ (.int .i64 s'.b.c3)).setCell ⟨wz.heap.size, 10, none⟩ (.int .i64 s'.b.c4)).setCell ⟨wz.heap.size, 11, none⟩ (.int .i64 s'.b.c5)).setCell ⟨wz.heap.size, 12, none⟩ (.int .i64 s'.w0)).setCell ⟨wz.heap.size, 13, none⟩ (.int .i64 s'.w1)) wz.heap.size 32 #[.int .i64 s'.a.c0, .int .i64 s'.a.c1, .int .i64 s'.a.c2, .int .i64 s'.a.c3, .int .i64 s'.a.c4, .int .i64 s'.a.c5, .int .i64 s'.b.c0, .int .i64 s'.b.c1, .int .i64 s'.b.c2, .int .i64 s'.b.c3, .int .i64 s'.b.c4, .int .i64 s'.b.c5, .int .i64 s'.w0, .int .i64 s'.w1] := by
        have hh := ((((((((((((((hSy.put 0 (.int .i64 s'.a.c0)).put 1 (.int .i64 s'.a.c1)).put 2 (.int .i64 s'.a.c2)).put 3 (.int .i64 s'.a.c3)).put 4 (.int .i64 s'.a.c4)).put 5 (.int .i64 s'.a.c5)).put 6 (.int .i64 s'.b.c0)).put 7 (.int .i64 s'.b.c1)).put 8 (.int .i64 s'.b.c2)).put 9 (.int .i64 s'.b.c3)).put 10 (.int .i64 s'.b.c4)).put 11 (.int .i64 s'.b.c5)).put 12 (.int .i64 s'.w0)).put 13 (.int .i64 s'.w1))
        simpa only [List.setIfInBounds_toArray, List.set_cons_zero, List.set_cons_succ] using hh
      have hbz : Below wz.heap.size wz ((((((((((((((wy.setCell ⟨wz.heap.size, 0, none⟩ (.int .i64 s'.a.c0)).setCell ⟨wz.heap.size, 1, none⟩ (.int .i64 s'.a.c1)).setCell ⟨wz.heap.size, 2, none⟩ (.int .i64 s'.a.c2)).setCell ⟨wz.heap.size, 3, none⟩ (.int .i64 s'.a.c3)).setCell ⟨wz.heap.size, 4, none⟩ (.int .i64 s'.a.c4)).setCell ⟨wz.heap.size, 5, none⟩ (.int .i64 s'.a.c5)).setCell ⟨wz.heap.size, 6, none⟩ (.int .i64 s'.b.c0)).setCell ⟨wz.heap.size, 7, none⟩ (.int .i64 s'.b.c1)).setCell ⟨wz.heap.size, 8, none⟩ (.int .i64 s'.b.c2)).setCell ⟨wz.heap.size, 9, none⟩ (.int .i64 s'.b.c3)).setCell ⟨wz.heap.size, 10, none⟩ (.int .i64 s'.b.c4)).setCell ⟨wz.heap.size, 11, none⟩ (.int .i64 s'.b.c5)).setCell ⟨wz.heap.size, 12, none⟩ (.int .i64 s'.w0)).setCell ⟨wz.heap.size, 13, none⟩ (.int .i64 s'.w1)) := ((((((((((((((hby.setCell (p := ⟨wz.heap.size, 0, none⟩) (Nat.le_refl _) (.int .i64 s'.a.c0)).setCell (p := ⟨wz.heap.size, 1, none⟩) (Nat.le_refl _) (.int .i64 s'.a.c1)).setCell (p := ⟨wz.heap.size, 2, none⟩) (Nat.le_refl _) (.int .i64 s'.a.c2)).setCell (p := ⟨wz.heap.size, 3, none⟩) (Nat.le_refl _) (.int .i64 s'.a.c3)).setCell (p := ⟨wz.heap.size, 4, none⟩) (Nat.le_refl _) (.int .i64 s'.a.c4)).setCell (p := ⟨wz.heap.size, 5, none⟩) (Nat.le_refl _) (.int .i64 s'.a.c5)).setCell (p := ⟨wz.heap.size, 6, none⟩) (Nat.le_refl _) (.int .i64 s'.b.c0)).setCell (p := ⟨wz.heap.size, 7, none⟩) (Nat.le_refl _) (.int .i64 s'.b.c1)).setCell (p := ⟨wz.heap.size, 8, none⟩) (Nat.le_refl _) (.int .i64 s'.b.c2)).setCell (p := ⟨wz.heap.size, 9, none⟩) (Nat.le_refl _) (.int .i64 s'.b.c3)).setCell (p := ⟨wz.heap.size, 10, none⟩) (Nat.le_refl _) (.int .i64 s'.b.c4)).setCell (p := ⟨wz.heap.size, 11, none⟩) (Nat.le_refl _) (.int .i64 s'.b.c5)).setCell (p := ⟨wz.heap.size, 12, none⟩) (Nat.le_refl _) (.int .i64 s'.w0)).setCell (p := ⟨wz.heap.size, 13, none⟩) (Nat.le_refl _) (.int .i64 s'.w1))
      have hsz7 : ((((((((((((((wy.setCell ⟨wz.heap.size, 0, none⟩ (.int .i64 s'.a.c0)).setCell ⟨wz.heap.size, 1, none⟩ (.int .i64 s'.a.c1)).setCell ⟨wz.heap.size, 2, none⟩ (.int .i64 s'.a.c2)).setCell ⟨wz.heap.size, 3, none⟩ (.int .i64 s'.a.c3)).setCell ⟨wz.heap.size, 4, none⟩ (.int .i64 s'.a.c4)).setCell ⟨wz.heap.size, 5, none⟩ (.int .i64 s'.a.c5)).setCell ⟨wz.heap.size, 6, none⟩ (.int .i64 s'.b.c0)).setCell ⟨wz.heap.size, 7, none⟩ (.int .i64 s'.b.c1)).setCell ⟨wz.heap.size, 8, none⟩ (.int .i64 s'.b.c2)).setCell ⟨wz.heap.size, 9, none⟩ (.int .i64 s'.b.c3)).setCell ⟨wz.heap.size, 10, none⟩ (.int .i64 s'.b.c4)).setCell ⟨wz.heap.size, 11, none⟩ (.int .i64 s'.b.c5)).setCell ⟨wz.heap.size, 12, none⟩ (.int .i64 s'.w0)).setCell ⟨wz.heap.size, 13, none⟩ (.int .i64 s'.w1)).heap.size = wy.heap.size := by simp [World.setCell]
      have hsz9 : wz.heap.size + 1 ≤ ((((((((((((((wy.setCell ⟨wz.heap.size, 0, none⟩ (.int .i64 s'.a.c0)).setCell ⟨wz.heap.size, 1, none⟩ (.int .i64 s'.a.c1)).setCell ⟨wz.heap.size, 2, none⟩ (.int .i64 s'.a.c2)).setCell ⟨wz.heap.size, 3, none⟩ (.int .i64 s'.a.c3)).setCell ⟨wz.heap.size, 4, none⟩ (.int .i64 s'.a.c4)).setCell ⟨wz.heap.size, 5, none⟩ (.int .i64 s'.a.c5)).setCell ⟨wz.heap.size, 6, none⟩ (.int .i64 s'.b.c0)).setCell ⟨wz.heap.size, 7, none⟩ (.int .i64 s'.b.c1)).setCell ⟨wz.heap.size, 8, none⟩ (.int .i64 s'.b.c2)).setCell ⟨wz.heap.size, 9, none⟩ (.int .i64 s'.b.c3)).setCell ⟨wz.heap.size, 10, none⟩ (.int .i64 s'.b.c4)).setCell ⟨wz.heap.size, 11, none⟩ (.int .i64 s'.b.c5)).setCell ⟨wz.heap.size, 12, none⟩ (.int .i64 s'.w0)).setCell ⟨wz.heap.size, 13, none⟩ (.int .i64 s'.w1)).heap.size := hSz.lt
      clear hoy hSy hby
      go_wp2_with (at_builtin; generalize ((((((((((((((wy.setCell ⟨wz.heap.size, 0, none⟩ (.int .i64 s'.a.c0)).setCell ⟨wz.heap.size, 1, none⟩ (.int .i64 s'.a.c1)).setCell ⟨wz.heap.size, 2, none⟩ (.int .i64 s'.a.c2)).setCell ⟨wz.heap.size, 3, none⟩ (.int .i64 s'.a.c3)).setCell ⟨wz.heap.size, 4, none⟩ (.int .i64 s'.a.c4)).setCell ⟨wz.heap.size, 5, none⟩ (.int .i64 s'.a.c5)).setCell ⟨wz.heap.size, 6, none⟩ (.int .i64 s'.b.c0)).setCell ⟨wz.heap.size, 7, none⟩ (.int .i64 s'.b.c1)).setCell ⟨wz.heap.size, 8, none⟩ (.int .i64 s'.b.c2)).setCell ⟨wz.heap.size, 9, none⟩ (.int .i64 s'.b.c3)).setCell ⟨wz.heap.size, 10, none⟩ (.int .i64 s'.b.c4)).setCell ⟨wz.heap.size, 11, none⟩ (.int .i64 s'.b.c5)).setCell ⟨wz.heap.size, 12, none⟩ (.int .i64 s'.w0)).setCell ⟨wz.heap.size, 13, none⟩ (.int .i64 s'.w1)) = w7 at *; refine wpList_append_own _ rfl (.tmp 43) (.tmp 45) 27 rfl (wz.heap.size + 1) 38 i0_ (.agg #[.int .i64 0, .int .i64 0, .int .i64 0, .int .i64 0, .int .i64 0, .int .i64 0]) 6 48 Try.underlying27 hi hz0 hz1 hz2 rfl (by decide) (.slice ao k co) k (cellsC 6 k (dRows r f)) rfl (((hoz.alloc _).alloc _).alloc _) _ 1 1 [.int .i64 (q 0), .int .i64 (q 1), .int .i64 (q 2), .int .i64 (q 3), .int .i64 (q 4), .int .i64 (q 5)] rfl rfl (Blk.news (cs := #[.int .i64 (q 0), .int .i64 (q 1), .int .i64 (q 2), .int .i64 (q 3), .int .i64 (q 4), .int .i64 (q 5)]) (t := 38) (Blk.new' (by simp; omega))) (by simp [Value.oneCell']) (by simp only [maxLen]; omega) (by omega) (by simp; omega) ?_; intro v' w5 hown5 hgrow5 hnil; clear hnil)
      have hSn : (Value.slice ao k co).ownBlock ≠ some wz.heap.size := own_ne hoz (Nat.lt_succ_self _)
      have hS5 : Hid (Blk w5 wz.heap.size 32 #[.int .i64 (dRun r f (k + 1)).a.c0, .int .i64 (dRun r f (k + 1)).a.c1, .int .i64 (dRun r f (k + 1)).a.c2, .int .i64 (dRun r f (k + 1)).a.c3, .int .i64 (dRun r f (k + 1)).a.c4, .int .i64 (dRun r f (k + 1)).a.c5, .int .i64 (dRun r f (k + 1)).b.c0, .int .i64 (dRun r f (k + 1)).b.c1, .int .i64 (dRun r f (k + 1)).b.c2, .int .i64 (dRun r f (k + 1)).b.c3, .int .i64 (dRun r f (k + 1)).b.c4, .int .i64 (dRun r f (k + 1)).b.c5, .int .i64 (dRun r f (k + 1)).w0, .int .i64 (dRun r f (k + 1)).w1]) := by
        rw [hgo.out]
        exact (((hSz.alloc _).alloc _).alloc _).grown hgrow5 (fun e => hSn e.symm)
      have hrows : cellsC 6 (k + 1) (dRows r f) = cellsC 6 k (dRows r f) ++ [.int .i64 (q 0), .int .i64 (q 1), .int .i64 (q 2), .int .i64 (q 3), .int .i64 (q 4), .int .i64 (q 5)] := by
        rw [cellsC_succ]
        congr 1
        rw [← hq.out]
        show [Value.int .i64 (dRows r f k 0), .int .i64 (dRows r f k 1), .int .i64 (dRows r f k 2), .int .i64 (dRows r f k 3), .int .i64 (dRows r f k 4), .int .i64 (dRows r f k 5)] = _
        rw [hrow.out, hrow.out, hrow.out, hrow.out, hrow.out, hrow.out]
      have hall' : Hid (dAll r f (k + 1)) := fun t ht => by
        rcases Nat.lt_succ_iff_lt_or_eq.1 ht with h | rfl
        · exact hall.out t h
        · rw [← hx.out, ← hy.out]; exact hlx
      have hb5 := (((hbz.alloc (by omega) _).alloc (by simp; omega) _).alloc (by simp; omega) _).grown hgrow5 (by simp; omega) (fun g hg => by have := own_base hoz g hg; omega)
      go_roundw
      case rel => exact ⟨k + 1, by go_num, by omega, by rw [hrows]; exact hown5, hS5, hb5, hall'⟩
      case measure => simp [intOf]; omega
    · obtain rfl : k = n := by omega
      have hC4 : Blk wr (w.heap.size + 1) 32 #[.int .i64 0, .int .i64 0, .int .i64 0, .int .i64 0, .int .i64 0, .int .i64 0, .int .i64 0, .int .i64 0, .int .i64 0, .int .i64 0, .int .i64 0, .int .i64 0, .int .i64 0, .int .i64 0] := hB2.below hbe (by omega)
      obtain ⟨s, hs⟩ : ∃ s, Hid (dRun r f k = s) := ⟨_, rfl⟩
      have hS' := hS.out
      rw [hs.out] at hS'
      have r0 : wr.cell? ⟨wz.heap.size, 0, none⟩ = some (.int .i64 s.a.c0) := hS'.cell 0
      have t0 : wr.cell? ⟨w.heap.size + 1, 0, none⟩ = some (.int .i64 0) := hC4.cell 0
      have v0 : wr.frozen? ⟨w.heap.size + 1, 0, none⟩ = false := hC4.frozen 0
      have r1 : wr.cell? ⟨wz.heap.size, 1, none⟩ = some (.int .i64 s.a.c1) := hS'.cell 1
      have t1 : wr.cell? ⟨w.heap.size + 1, 1, none⟩ = some (.int .i64 0) := hC4.cell 1
      have v1 : wr.frozen? ⟨w.heap.size + 1, 1, none⟩ = false := hC4.frozen 1
      have r2 : wr.cell? ⟨wz.heap.size, 2, none⟩ = some (.int .i64 s.a.c2) := hS'.cell 2
      have t2 : wr.cell? ⟨w.heap.size + 1, 2, none⟩ = some (.int .i64 0) := hC4.cell 2
      have v2 : wr.frozen? ⟨w.heap.size + 1, 2, none⟩ = false := hC4.frozen 2
      have r3 : wr.cell? ⟨wz.heap.size, 3, none⟩ = some (.int .i64 s.a.c3) := hS'.cell 3
      have t3 : wr.cell? ⟨w.heap.size + 1, 3, none⟩ = some (.int .i64 0) := hC4.cell 3
      have v3 : wr.frozen? ⟨w.heap.size + 1, 3, none⟩ = false := hC4.frozen 3
      have r4 : wr.cell? ⟨wz.heap.size, 4, none⟩ = some (.int .i64 s.a.c4) := hS'.cell 4
      have t4 : wr.cell? ⟨w.heap.size + 1, 4, none⟩ = some (.int .i64 0) := hC4.cell 4
      have v4 : wr.frozen? ⟨w.heap.size + 1, 4, none⟩ = false := hC4.frozen 4
      have r5 : wr.cell? ⟨wz.heap.size, 5, none⟩ = some (.int .i64 s.a.c5) := hS'.cell 5
      have t5 : wr.cell? ⟨w.heap.size + 1, 5, none⟩ = some (.int .i64 0) := hC4.cell 5
      have v5 : wr.frozen? ⟨w.heap.size + 1, 5, none⟩ = false := hC4.frozen 5
      have r6 : wr.cell? ⟨wz.heap.size, 6, none⟩ = some (.int .i64 s.b.c0) := hS'.cell 6
      have t6 : wr.cell? ⟨w.heap.size + 1, 6, none⟩ = some (.int .i64 0) := hC4.cell 6
      have v6 : wr.frozen? ⟨w.heap.size + 1, 6, none⟩ = false := hC4.frozen 6
      have r7 : wr.cell? ⟨wz.heap.size, 7, none⟩ = some (.int .i64 s.b.c1) := hS'.cell 7
      have t7 : wr.cell? ⟨w.heap.size + 1, 7, none⟩ = some (.int .i64 0) := hC4.cell 7
      have v7 : wr.frozen? ⟨w.heap.size + 1, 7, none⟩ = false := hC4.frozen 7
      have r8 : wr.cell? ⟨wz.heap.size, 8, none⟩ = some (.int .i64 s.b.c2) := hS'.cell 8
      have t8 : wr.cell? ⟨w.heap.size + 1, 8, none⟩ = some (.int .i64 0) := hC4.cell 8
      have v8 : wr.frozen? ⟨w.heap.size + 1, 8, none⟩ = false := hC4.frozen 8
      have r9 : wr.cell? ⟨wz.heap.size, 9, none⟩ = some (.int .i64 s.b.c3) := hS'.cell 9
      have t9 : wr.cell? ⟨w.heap.size + 1, 9, none⟩ = some (.int .i64 0) := hC4.cell 9
      have v9 : wr.frozen? ⟨w.heap.size + 1, 9, none⟩ = false := hC4.frozen 9
      have r10 : wr.cell? ⟨wz.heap.size, 10, none⟩ = some (.int .i64 s.b.c4) := hS'.cell 10
      have t10 : wr.cell? ⟨w.heap.size + 1, 10, none⟩ = some (.int .i64 0) := hC4.cell 10
      have v10 : wr.frozen? ⟨w.heap.size + 1, 10, none⟩ = false := hC4.frozen 10
      have r11 : wr.cell? ⟨wz.heap.size, 11, none⟩ = some (.int .i64 s.b.c5) := hS'.cell 11
      have t11 : wr.cell? ⟨w.heap.size + 1, 11, none⟩ = some (.int .i64 0) := hC4.cell 11
      have v11 : wr.frozen? ⟨w.heap.size + 1, 11, none⟩ = false := hC4.frozen 11
      have r12 : wr.cell? ⟨wz.heap.size, 12, none⟩ = some (.int .i64 s.w0) := hS'.cell 12
      have t12 : wr.cell? ⟨w.heap.size + 1, 12, none⟩ = some (.int .i64 0) := hC4.cell 12
      have v12 : wr.frozen? ⟨w.heap.size + 1, 12, none⟩ = false := hC4.frozen 12
      have r13 : wr.cell? ⟨wz.heap.size, 13, none⟩ = some (.int .i64 s.w1) := hS'.cell 13
      have t13 : wr.cell? ⟨w.heap.size + 1, 13, none⟩ = some (.int .i64 0) := hC4.cell 13
      have v13 : wr.frozen? ⟨w.heap.size + 1, 13, none⟩ = false := hC4.frozen 13
      have hown' := hown
      go_wp2_with fail
      go_region
      have hX1 : Blk ((((((((((((((wr.setCell ⟨w.heap.size + 1, 0, none⟩ (.int .i64 s.a.c0)).setCell ⟨w.heap.size + 1, 1, none⟩ (.int .i64 s.a.c1)).setCell ⟨w.heap.size + 1, 2, none⟩ (.int .i64 s.a.c2)).setCell ⟨w.heap.size + 1, 3, none⟩ (.int .i64 s.a.c3)).setCell ⟨w.heap.size + 1, 4, none⟩ (.int .i64 s.a.c4)).setCell ⟨w.heap.size + 1, 5, none⟩ (.int .i64 s.a.c5)).setCell ⟨w.heap.size + 1, 6, none⟩ (.int .i64 s.b.c0)).setCell ⟨w.heap.size + 1, 7, none⟩ (.int .i64 s.b.c1)).setCell ⟨w.heap.size + 1, 8, none⟩ (.int .i64 s.b.c2)).setCell ⟨w.heap.size + 1, 9, none⟩ (.int .i64 s.b.c3)).setCell ⟨w.heap.size + 1, 10, none⟩ (.int .i64 s.b.c4)).setCell ⟨w.heap.size + 1, 11, none⟩ (.int .i64 s.b.c5)).setCell ⟨w.heap.size + 1, 12, none⟩ (.int .i64 s.w0)).setCell ⟨w.heap.size + 1, 13, none⟩ (.int .i64 s.w1)) (w.heap.size + 1) 32 #[.int .i64 s.a.c0, .int .i64 s.a.c1, .int .i64 s.a.c2, .int .i64 s.a.c3, .int .i64 s.a.c4, .int .i64 s.a.c5, .int .i64 s.b.c0, .int .i64 s.b.c1, .int .i64 s.b.c2, .int .i64 s.b.c3, .int .i64 s.b.c4, .int .i64 s.b.c5, .int .i64 s.w0, .int .i64 s.w1] := by
        have hh := ((((((((((((((hC4.put 0 (.int .i64 s.a.c0)).put 1 (.int .i64 s.a.c1)).put 2 (.int .i64 s.a.c2)).put 3 (.int .i64 s.a.c3)).put 4 (.int .i64 s.a.c4)).put 5 (.int .i64 s.a.c5)).put 6 (.int .i64 s.b.c0)).put 7 (.int .i64 s.b.c1)).put 8 (.int .i64 s.b.c2)).put 9 (.int .i64 s.b.c3)).put 10 (.int .i64 s.b.c4)).put 11 (.int .i64 s.b.c5)).put 12 (.int .i64 s.w0)).put 13 (.int .i64 s.w1))
        simpa only [List.setIfInBounds_toArray, List.set_cons_zero, List.set_cons_succ] using hh
      have hX2 : ((((((((((((((wr.setCell ⟨w.heap.size + 1, 0, none⟩ (.int .i64 s.a.c0)).setCell ⟨w.heap.size + 1, 1, none⟩ (.int .i64 s.a.c1)).setCell ⟨w.heap.size + 1, 2, none⟩ (.int .i64 s.a.c2)).setCell ⟨w.heap.size + 1, 3, none⟩ (.int .i64 s.a.c3)).setCell ⟨w.heap.size + 1, 4, none⟩ (.int .i64 s.a.c4)).setCell ⟨w.heap.size + 1, 5, none⟩ (.int .i64 s.a.c5)).setCell ⟨w.heap.size + 1, 6, none⟩ (.int .i64 s.b.c0)).setCell ⟨w.heap.size + 1, 7, none⟩ (.int .i64 s.b.c1)).setCell ⟨w.heap.size + 1, 8, none⟩ (.int .i64 s.b.c2)).setCell ⟨w.heap.size + 1, 9, none⟩ (.int .i64 s.b.c3)).setCell ⟨w.heap.size + 1, 10, none⟩ (.int .i64 s.b.c4)).setCell ⟨w.heap.size + 1, 11, none⟩ (.int .i64 s.b.c5)).setCell ⟨w.heap.size + 1, 12, none⟩ (.int .i64 s.w0)).setCell ⟨w.heap.size + 1, 13, none⟩ (.int .i64 s.w1)).ownsRow (wz.heap.size + 1) 38 6 (.slice ao k co) k (cellsC 6 k (dRows r f)) := (own_set (b := w.heap.size + 1) (i := 13) (own_set (b := w.heap.size + 1) (i := 12) (own_set (b := w.heap.size + 1) (i := 11) (own_set (b := w.heap.size + 1) (i := 10) (own_set (b := w.heap.size + 1) (i := 9) (own_set (b := w.heap.size + 1) (i := 8) (own_set (b := w.heap.size + 1) (i := 7) (own_set (b := w.heap.size + 1) (i := 6) (own_set (b := w.heap.size + 1) (i := 5) (own_set (b := w.heap.size + 1) (i := 4) (own_set (b := w.heap.size + 1) (i := 3) (own_set (b := w.heap.size + 1) (i := 2) (own_set (b := w.heap.size + 1) (i := 1) (own_set (b := w.heap.size + 1) (i := 0) hown' (by omega) (.int .i64 s.a.c0)) (by omega) (.int .i64 s.a.c1)) (by omega) (.int .i64 s.a.c2)) (by omega) (.int .i64 s.a.c3)) (by omega) (.int .i64 s.a.c4)) (by omega) (.int .i64 s.a.c5)) (by omega) (.int .i64 s.b.c0)) (by omega) (.int .i64 s.b.c1)) (by omega) (.int .i64 s.b.c2)) (by omega) (.int .i64 s.b.c3)) (by omega) (.int .i64 s.b.c4)) (by omega) (.int .i64 s.b.c5)) (by omega) (.int .i64 s.w0)) (by omega) (.int .i64 s.w1))
      have hX3 : Below w.heap.size w ((((((((((((((wr.setCell ⟨w.heap.size + 1, 0, none⟩ (.int .i64 s.a.c0)).setCell ⟨w.heap.size + 1, 1, none⟩ (.int .i64 s.a.c1)).setCell ⟨w.heap.size + 1, 2, none⟩ (.int .i64 s.a.c2)).setCell ⟨w.heap.size + 1, 3, none⟩ (.int .i64 s.a.c3)).setCell ⟨w.heap.size + 1, 4, none⟩ (.int .i64 s.a.c4)).setCell ⟨w.heap.size + 1, 5, none⟩ (.int .i64 s.a.c5)).setCell ⟨w.heap.size + 1, 6, none⟩ (.int .i64 s.b.c0)).setCell ⟨w.heap.size + 1, 7, none⟩ (.int .i64 s.b.c1)).setCell ⟨w.heap.size + 1, 8, none⟩ (.int .i64 s.b.c2)).setCell ⟨w.heap.size + 1, 9, none⟩ (.int .i64 s.b.c3)).setCell ⟨w.heap.size + 1, 10, none⟩ (.int .i64 s.b.c4)).setCell ⟨w.heap.size + 1, 11, none⟩ (.int .i64 s.b.c5)).setCell ⟨w.heap.size + 1, 12, none⟩ (.int .i64 s.w0)).setCell ⟨w.heap.size + 1, 13, none⟩ (.int .i64 s.w1)) := (((((((((((((((hmz.trans (hbe.mono hmzs)).setCell (p := ⟨w.heap.size + 1, 0, none⟩) (by dsimp only; omega) (.int .i64 s.a.c0)).setCell (p := ⟨w.heap.size + 1, 1, none⟩) (by dsimp only; omega) (.int .i64 s.a.c1)).setCell (p := ⟨w.heap.size + 1, 2, none⟩) (by dsimp only; omega) (.int .i64 s.a.c2)).setCell (p := ⟨w.heap.size + 1, 3, none⟩) (by dsimp only; omega) (.int .i64 s.a.c3)).setCell (p := ⟨w.heap.size + 1, 4, none⟩) (by dsimp only; omega) (.int .i64 s.a.c4)).setCell (p := ⟨w.heap.size + 1, 5, none⟩) (by dsimp only; omega) (.int .i64 s.a.c5)).setCell (p := ⟨w.heap.size + 1, 6, none⟩) (by dsimp only; omega) (.int .i64 s.b.c0)).setCell (p := ⟨w.heap.size + 1, 7, none⟩) (by dsimp only; omega) (.int .i64 s.b.c1)).setCell (p := ⟨w.heap.size + 1, 8, none⟩) (by dsimp only; omega) (.int .i64 s.b.c2)).setCell (p := ⟨w.heap.size + 1, 9, none⟩) (by dsimp only; omega) (.int .i64 s.b.c3)).setCell (p := ⟨w.heap.size + 1, 10, none⟩) (by dsimp only; omega) (.int .i64 s.b.c4)).setCell (p := ⟨w.heap.size + 1, 11, none⟩) (by dsimp only; omega) (.int .i64 s.b.c5)).setCell (p := ⟨w.heap.size + 1, 12, none⟩) (by dsimp only; omega) (.int .i64 s.w0)).setCell (p := ⟨w.heap.size + 1, 13, none⟩) (by dsimp only; omega) (.int .i64 s.w1))
      generalize ((((((((((((((wr.setCell ⟨w.heap.size + 1, 0, none⟩ (.int .i64 s.a.c0)).setCell ⟨w.heap.size + 1, 1, none⟩ (.int .i64 s.a.c1)).setCell ⟨w.heap.size + 1, 2, none⟩ (.int .i64 s.a.c2)).setCell ⟨w.heap.size + 1, 3, none⟩ (.int .i64 s.a.c3)).setCell ⟨w.heap.size + 1, 4, none⟩ (.int .i64 s.a.c4)).setCell ⟨w.heap.size + 1, 5, none⟩ (.int .i64 s.a.c5)).setCell ⟨w.heap.size + 1, 6, none⟩ (.int .i64 s.b.c0)).setCell ⟨w.heap.size + 1, 7, none⟩ (.int .i64 s.b.c1)).setCell ⟨w.heap.size + 1, 8, none⟩ (.int .i64 s.b.c2)).setCell ⟨w.heap.size + 1, 9, none⟩ (.int .i64 s.b.c3)).setCell ⟨w.heap.size + 1, 10, none⟩ (.int .i64 s.b.c4)).setCell ⟨w.heap.size + 1, 11, none⟩ (.int .i64 s.b.c5)).setCell ⟨w.heap.size + 1, 12, none⟩ (.int .i64 s.w0)).setCell ⟨w.heap.size + 1, 13, none⟩ (.int .i64 s.w1)) = w9 at *
      have m0 : w9.cell? ⟨w.heap.size + 1, 0, none⟩ = some (.int .i64 s.a.c0) := hX1.cell 0
      have m1 : w9.cell? ⟨w.heap.size + 1, 1, none⟩ = some (.int .i64 s.a.c1) := hX1.cell 1
      have m2 : w9.cell? ⟨w.heap.size + 1, 2, none⟩ = some (.int .i64 s.a.c2) := hX1.cell 2
      have m3 : w9.cell? ⟨w.heap.size + 1, 3, none⟩ = some (.int .i64 s.a.c3) := hX1.cell 3
      have m4 : w9.cell? ⟨w.heap.size + 1, 4, none⟩ = some (.int .i64 s.a.c4) := hX1.cell 4
      have m5 : w9.cell? ⟨w.heap.size + 1, 5, none⟩ = some (.int .i64 s.a.c5) := hX1.cell 5
      have m6 : w9.cell? ⟨w.heap.size + 1, 6, none⟩ = some (.int .i64 s.b.c0) := hX1.cell 6
      have m7 : w9.cell? ⟨w.heap.size + 1, 7, none⟩ = some (.int .i64 s.b.c1) := hX1.cell 7
      have m8 : w9.cell? ⟨w.heap.size + 1, 8, none⟩ = some (.int .i64 s.b.c2) := hX1.cell 8
      have m9 : w9.cell? ⟨w.heap.size + 1, 9, none⟩ = some (.int .i64 s.b.c3) := hX1.cell 9
      have m10 : w9.cell? ⟨w.heap.size + 1, 10, none⟩ = some (.int .i64 s.b.c4) := hX1.cell 10
      have m11 : w9.cell? ⟨w.heap.size + 1, 11, none⟩ = some (.int .i64 s.b.c5) := hX1.cell 11
      have m12 : w9.cell? ⟨w.heap.size + 1, 12, none⟩ = some (.int .i64 s.w0) := hX1.cell 12
      have m13 : w9.cell? ⟨w.heap.size + 1, 13, none⟩ = some (.int .i64 s.w1) := hX1.cell 13
      go_wp2
      refine bodyPost_ret (v := .tuple #[.slice ao k co, .agg #[.int .i64 s.a.c0, .int .i64 s.a.c1, .int .i64 s.a.c2, .int .i64 s.a.c3, .int .i64 s.a.c4, .int .i64 s.a.c5, .int .i64 s.b.c0, .int .i64 s.b.c1, .int .i64 s.b.c2, .int .i64 s.b.c3, .int .i64 s.b.c4, .int .i64 s.b.c5, .int .i64 s.w0, .int .i64 s.w1], .int .i64 0]) ?_ rfl ?_
      · simp [results, Try.results12, go_sem, m0, m1, m2, m3, m4, m5, m6, m7, m8, m9, m10, m11, m12, m13]
      · exact ⟨ao, co, by rw [hs.out], own_base_le hX2 (by omega), hX3.drewN 1⟩
end Go.Proofs.Ytehlgomjgmabeaa
