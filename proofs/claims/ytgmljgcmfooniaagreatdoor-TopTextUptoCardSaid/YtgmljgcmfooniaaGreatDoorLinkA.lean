/- link.Pass: both ways; and that the link's laws are alive. Conditions: none. -/
import Derived.Test.YtgmljgcmfooniaaGreatDoorLinkP
set_option linter.unusedVariables false
set_option linter.unusedSimpArgs false
namespace Go.Proofs.YtgmljgcmfooniaaGreatDoor
open Go.RowKit Go.Tide
set_option linter.unusedVariables false
set_option linter.unusedSimpArgs false
theorem equal2 (d : Nat) (a b c e : Int) (w : World) : (Op.equalIn (d + 2) 30 (.agg #[.int .i64 a, .int .i64 b]) (.agg #[.int .i64 c, .int .i64 e])).run Tryz.prog w = .ok (a == c && b == e) w := by
  have h3 : ∀ (x y : Int) (w : World), (Op.equalIn (d + 1) 3 (.int .i64 x) (.int .i64 y)).run Tryz.prog w = .ok (x == y) w := fun x y w => run_equalIn_int w d 3 _ _ x y Tryz.underlying3
  have hs : ∀ w, (sizeOf 3).run Tryz.prog w = .ok 1 w := fun w => by kernel_rfl
  have hp0 : ∀ (x y : Value) w, (part 3 #[x, y] 0).run Tryz.prog w = .ok x w := fun x y w => by kernel_rfl
  have hp1 : ∀ (x y : Value) w, (part 3 #[x, y] 1).run Tryz.prog w = .ok y w := fun x y w => by kernel_rfl
  rw [show d + 2 = (d + 1) + 1 from rfl, Op.equalIn]
  simp only [Sem.run_bind, run_underlying Tryz.underlying30, Result.andThen_ok, hs]
  rw [Std.Legacy.Range.forIn_eq_forIn_range']
  simp only [Std.Legacy.Range.size, List.range', Nat.sub_zero, Nat.add_sub_cancel, Nat.div_one, Nat.reduceAdd, Nat.reduceSub, Nat.reduceDiv, List.forIn_cons, List.forIn_nil, Sem.run_bind, Nat.zero_mul, Nat.one_mul, Nat.zero_add, hp0, hp1, Result.andThen_ok, h3]
  cases h1 : a == c <;> simp [hp0, hp1, h3, Sem.run_bind]
  cases h2 : b == e <;> simp_all
@[go_sem] theorem equal2_9 (a b c e : Int) (w : World) : (Op.equalIn 9999 30 (.agg #[.int .i64 a, .int .i64 b]) (.agg #[.int .i64 c, .int .i64 e])).run Tryz.prog w = .ok (a == c && b == e) w := equal2 9997 a b c e w
@[go_sem] theorem equal2_10 (a b c e : Int) (w : World) : (Op.equalIn 10000 30 (.agg #[.int .i64 a, .int .i64 b]) (.agg #[.int .i64 c, .int .i64 e])).run Tryz.prog w = .ok (a == c && b == e) w := equal2 9998 a b c e w
@[go_sem] theorem equal2_e (a b c e : Int) (w : World) : (Op.equal 30 (.agg #[.int .i64 a, .int .i64 b]) (.agg #[.int .i64 c, .int .i64 e])).run Tryz.prog w = .ok (a == c && b == e) w := equal2 9998 a b c e w
theorem pass_good (rate room W0 W1 S0 S1 : Nat) (w : World) (h : LRight rate room W0 W1 S0 S1) (s : LSt) (hs : Hid (lpass rate room W0 W1 S0 S1 = s)) :
    Calls Tryz.prog 70 #[.int .i64 rate, .int .i64 room, .agg #[.int .i64 W0, .int .i64 W1], .agg #[.int .i64 S0, .int .i64 S1]] w fun e w' =>
      e = .returned (.tuple #[.agg #[.int .i64 S0, .int .i64 S1, .int .i64 s.c0, .int .i64 s.c1, .int .i64 s.x0, .int .i64 s.x1], .agg #[.int .i64 s.l0, .int .i64 s.l1], .int .i64 0]) ∧ More w w' :=
  (callsIn_wide.1 (pass_in rate room W0 W1 S0 S1 w h)).mono fun e w' ⟨h1, h2⟩ => ⟨by rw [h1, hs.out], More.of_below h2⟩
set_option maxRecDepth 20000 in
set_option maxHeartbeats 4000000 in
theorem pass_bad (rate room w0 w1 s0 s1 : Int) (w : World) (b0 : InI64 w0) (b1 : InI64 w1) (h : ¬ LRight rate room w0 w1 s0 s1) :
    Calls Tryz.prog 70 #[.int .i64 rate, .int .i64 room, .agg #[.int .i64 w0, .int .i64 w1], .agg #[.int .i64 s0, .int .i64 s1]] w fun e w' =>
      e = .returned (.tuple #[.agg #[.int .i64 0, .int .i64 0, .int .i64 0, .int .i64 0, .int .i64 0, .int .i64 0], .agg #[.int .i64 0, .int .i64 0], .int .i64 2]) ∧ More w w' := by
  have HR := Lib.hid h
  clear h
  go_enter Tryz.func70, Tryz.ntmps70
  go_wp2_with (go_at_call 103; refine (right_false _ _ _ _ _ _ _ b0 b1 HR.out).mono ?_; rintro e w' ⟨rfl, os1, d1, rfl⟩)
  refine bodyPost_ret (v := .tuple #[.agg #[.int .i64 0, .int .i64 0, .int .i64 0, .int .i64 0, .int .i64 0, .int .i64 0], .agg #[.int .i64 0, .int .i64 0], .int .i64 2]) ?_ rfl ?_
  · simp [results, Tryz.f70, go_sem]
  · exact ⟨rfl, (by repeat (first | (with_reducible exact More.refl _) | (with_reducible refine More.alloc ?_ _) | (with_reducible refine More.more ?_ _ _) | (with_reducible refine More.drewN ?_ _) | (with_reducible refine More.drew ?_)))⟩
end Go.Proofs.YtgmljgcmfooniaaGreatDoor
