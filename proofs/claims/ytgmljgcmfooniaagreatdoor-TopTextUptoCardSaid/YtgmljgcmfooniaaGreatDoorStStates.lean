/- steady.States; and each where nobody is told. Conditions: none. -/
import Derived.Test.YtgmljgcmfooniaaGreatDoorStEach
set_option linter.unusedVariables false
set_option linter.unusedSimpArgs false
namespace Go.Proofs.YtgmljgcmfooniaaGreatDoor
open Go.RowKit Go.Shelf Go.Tide
set_option linter.unusedVariables false
set_option linter.unusedSimpArgs false
/-- All states that a duel comes to, and how; none: there are too many. -/
def dFin (r : DRules) (J : Nat) : Option (Fnd DSt) := fRun (dNx r J) ((J + 1) * (J + 1)) 300 (dBegin r) (300 * ((J + 1) * (J + 1)))
theorem fin_of {r : DRules} {J k : Nat} {Q : Fnd DSt × List Edge} (h : pRun (dNx r J) ((J + 1) * (J + 1)) 300 (dBegin r) (dRow r) (k * ((J + 1) * (J + 1))) = some Q) (hk : Q.1.l.length = k) (hg : GI r Q.1) : dFin r J = some Q.1 := by
  have h1 := prun_some h
  have h2 : k * ((J + 1) * (J + 1)) ≤ 300 * ((J + 1) * (J + 1)) := Nat.mul_le_mul_right _ (by have := hg.le; omega)
  have h3 := frun_stop (m_pos J) h1 (by rw [hk]; exact Nat.le_refl _) (300 * ((J + 1) * (J + 1)) - k * ((J + 1) * (J + 1)))
  rw [show k * ((J + 1) * (J + 1)) + (300 * ((J + 1) * (J + 1)) - k * ((J + 1) * (J + 1))) = 300 * ((J + 1) * (J + 1)) by omega] at h3
  exact h3
theorem tell_none (tf : Nat) (he : ∀ args w, (callFunc tf args).run Tryz.prog w = .ok (.enter tf args) w) (hc : ∀ (k n : Int) (q : Nat → Int) (W : World), Calls Tryz.prog tf #[.int .i64 k, .int .i64 n, .agg #[.int .i64 (q 0), .int .i64 (q 1), .int .i64 (q 2), .int .i64 (q 3), .int .i64 (q 4), .int .i64 (q 5)]] W fun e w' => e = .returned (.tuple #[]) ∧ More W w') : Tell tf #[] (fun _ X _ => ∀ g, ¬ X g) where
  enters := he
  keep := fun E X W W' h _ => h
  cells := fun E X W g h hg => absurd hg (h g)
  call := fun E X W k n q h _ _ _ _ => (hc k n q W).mono fun e w' ⟨h1, h2⟩ => ⟨h1, X, h, Off.of_below h2.below, fun g hg => .inl hg⟩
set_option maxRecDepth 20000 in
theorem lead1_any (k n : Int) (q : Nat → Int) (W : World) : Calls Tryz.prog 66 #[.int .i64 k, .int .i64 n, .agg #[.int .i64 (q 0), .int .i64 (q 1), .int .i64 (q 2), .int .i64 (q 3), .int .i64 (q 4), .int .i64 (q 5)]] W fun e w' => e = .returned (.tuple #[]) ∧ More W w' := by
  go_enter Tryz.func66, Tryz.ntmps66
  go_wp2
  go_end0
  exact ⟨rfl, (by repeat (first | (with_reducible assumption) | (with_reducible exact More.refl _) | (with_reducible refine More.alloc ?_ _) | (with_reducible refine More.more ?_ _ _) | (with_reducible refine More.drewN ?_ _) | (with_reducible refine More.drew ?_)))⟩
/-- each, where nobody is told. -/
theorem each_nop (r : DRules) (J : Nat) (hJ : Hid (r.jit = J)) (hr : r.ok) (tf : Nat) (hT : Tell tf #[] (fun _ X _ => ∀ g, ¬ X g)) (w : World) :
    Calls Tryz.prog 61 #[.agg #[.int .i64 r.k0, .int .i64 r.k1, .int .i64 r.rate, .int .i64 r.buf, .int .i64 r.jit], .func (.func tf) #[] #[]] w fun e w' => (∃ s S M v1 v2 v3, dFin r J = some s ∧ e = .returned (.tuple #[.pointer (some ⟨S, 0, none⟩), .int .i64 0]) ∧ Spc M w' S M v1 v2 v3 s J ∧ GI r s ∧ More w w' ∧ w.heap.size ≤ M) ∨ (dFin r J = none ∧ e = .returned (.tuple #[.pointer none, .int .i64 4]) ∧ More w w') :=
  (each_any r J hJ hr tf #[] _ hT (fun _ => False) w (fun g h => h)).mono fun e w' h => by
    have hx : ∀ {w' : World}, Off (fun _ => False) w w' → More w w' := fun ho => More.of_below ⟨ho.os, ho.tape, ho.output, ho.size, fun g hg => ho.block g hg id⟩
    rcases h with ⟨Q, k, S, M, v1, v2, v3, X, h1, h2, h3, h4⟩ | ⟨h1, h2, h3⟩
    · exact .inl ⟨Q.1, S, M, v1, v2, v3, fin_of h1 h2 h4.gi, h3, h4.spc, h4.gi, hx h4.off, h4.wB⟩
    · exact .inr ⟨h1, h2, hx h3⟩
set_option maxRecDepth 20000 in
/-- each, where the rules are wrong. -/
theorem each_w (k0 k1 rate buf jit er : Int) (v : Value) (w : World) (he : Hid (er ≠ 0)) (hc : ∀ W, Calls Tryz.prog 52 #[.agg #[.int .i64 k0, .int .i64 k1, .int .i64 rate, .int .i64 buf, .int .i64 jit]] W fun e w' => e = .returned (.int .i64 er) ∧ More W w') (hv : Hid (v.oneCell' = true)) :
    Calls Tryz.prog 61 #[.agg #[.int .i64 k0, .int .i64 k1, .int .i64 rate, .int .i64 buf, .int .i64 jit], v] w fun e w' => e = .returned (.tuple #[.pointer none, .int .i64 er]) ∧ More w w' := by
  have g : (er != 0) = true := by simpa using he.out
  have HC := Lib.hid hc
  clear hc
  have hvv := hv.out
  go_enter Tryz.func61, Tryz.ntmps61
  go_wp2_with fail
  refine (start_w k0 k1 rate buf jit er _ he HC.out).mono ?_
  rintro e w1 ⟨rfl, os1, d1, rfl⟩
  go_wp2
  refine bodyPost_ret (v := .tuple #[.pointer none, .int .i64 er]) ?_ rfl ?_
  · simp [results, Tryz.results61, go_sem]
  · exact ⟨rfl, (by repeat (first | (with_reducible assumption) | (with_reducible exact More.refl _) | (with_reducible refine More.alloc ?_ _) | (with_reducible refine More.more ?_ _ _) | (with_reducible refine More.drewN ?_ _) | (with_reducible refine More.drew ?_)))⟩
def StatesPost (r : DRules) (J : Nat) (w : World) (e : Ending) (w' : World) : Prop :=
  (∃ s a c, dFin r J = some s ∧ e = .returned (.tuple #[.slice a s.l.length c, .int .i64 0]) ∧ RowC w' 14 a s.l.length (stF s) ∧ GI r s ∧ More w w') ∨ (dFin r J = none ∧ e = .returned (.tuple #[.slice none 0 0, .int .i64 4]) ∧ More w w')
end Go.Proofs.YtgmljgcmfooniaaGreatDoor
