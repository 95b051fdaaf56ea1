/- Rules compared; the closed fact of bench's laws. Conditions: what the package-level variables hold (BTabs). -/
import Derived.Test.YtgmljgcmfooniaaDoorBnPa
import Derived.Laws.StructEq
set_option linter.unusedVariables false
set_option linter.unusedSimpArgs false
namespace Go.Proofs.YtgmljgcmfooniaaDoor
open Go.RowKit Go.Shelf Go.Tide
set_option linter.unusedVariables false
set_option linter.unusedSimpArgs false
theorem equal2 (d : Nat) (a b c e : Int) (w : World) : (Op.equalIn (d + 2) 22 (.agg #[.int .i64 a, .int .i64 b]) (.agg #[.int .i64 c, .int .i64 e])).run Tryd.prog w = .ok (a == c && b == e) w := by
  have h3 : ∀ (x y : Int) (w : World), (Op.equalIn (d + 1) 3 (.int .i64 x) (.int .i64 y)).run Tryd.prog w = .ok (x == y) w := fun x y w => run_equalIn_int w d 3 _ _ x y Tryd.underlying3
  have hs : ∀ w, (sizeOf 3).run Tryd.prog w = .ok 1 w := fun w => by kernel_rfl
  have hp0 : ∀ (x y : Value) w, (part 3 #[x, y] 0).run Tryd.prog w = .ok x w := fun x y w => by kernel_rfl
  have hp1 : ∀ (x y : Value) w, (part 3 #[x, y] 1).run Tryd.prog w = .ok y w := fun x y w => by kernel_rfl
  rw [show d + 2 = (d + 1) + 1 from rfl, Op.equalIn]
  simp only [Sem.run_bind, run_underlying Tryd.underlying22, Result.andThen_ok, hs]
  rw [Std.Legacy.Range.forIn_eq_forIn_range']
  simp only [Std.Legacy.Range.size, List.range', Nat.sub_zero, Nat.add_sub_cancel, Nat.div_one, Nat.reduceAdd, Nat.reduceSub, Nat.reduceDiv, List.forIn_cons, List.forIn_nil, Sem.run_bind, Nat.zero_mul, Nat.one_mul, Nat.zero_add, hp0, hp1, Result.andThen_ok, h3]
  cases h1 : a == c <;> simp [hp0, hp1, h3, Sem.run_bind]
  cases h2 : b == e <;> simp_all
@[go_sem] theorem equal2_9 (a b c e : Int) (w : World) : (Op.equalIn 9999 22 (.agg #[.int .i64 a, .int .i64 b]) (.agg #[.int .i64 c, .int .i64 e])).run Tryd.prog w = .ok (a == c && b == e) w := equal2 9997 a b c e w
@[go_sem] theorem equal2_10 (a b c e : Int) (w : World) : (Op.equalIn 10000 22 (.agg #[.int .i64 a, .int .i64 b]) (.agg #[.int .i64 c, .int .i64 e])).run Tryd.prog w = .ok (a == c && b == e) w := equal2 9998 a b c e w
@[go_sem] theorem equal2_e (a b c e : Int) (w : World) : (Op.equal 22 (.agg #[.int .i64 a, .int .i64 b]) (.agg #[.int .i64 c, .int .i64 e])).run Tryd.prog w = .ok (a == c && b == e) w := equal2 9998 a b c e w
abbrev aliveS : ByteArray := ⟨#[99, 111, 112, 97, 32, 108, 101, 100, 98, 97, 116, 32, 51, 32, 56, 32, 50]⟩
theorem alive_text : (⟨(bnText 2 3 (3 : Nat) (8 : Nat) (2 : Nat)).toArray⟩ : ByteArray) = aliveS := by
  rw [bnText_eq, dec_two (n := 3) (by decide), dec_two (n := 8) (by decide), dec_two (n := 2) (by decide)]
  rfl
theorem alive_ok : BOk 2 3 (3 : Nat) (8 : Nat) (2 : Nat) := by unfold BOk dKind dNums; decide
set_option maxRecDepth 20000 in
set_option maxHeartbeats 4000000 in
theorem bench_alive (w : World) (hT : Hid (BTabs w)) : Calls Tryd.prog 4 #[] w fun e w' => e = .returned (.bool true) ∧ More w w' := by
  have hp : ∀ W, BTabs W → Calls Tryd.prog 5 #[.agg #[.int .i64 2, .int .i64 3, .int .i64 3, .int .i64 8, .int .i64 2]] W fun e w' => e = .returned (.tuple #[.string aliveS, .int .i64 0]) ∧ More W w' := by
    intro W hW
    have h := print_ok 2 3 3 8 2 alive_ok.1 alive_ok.2.1 alive_ok.2.2 W hW
    unfold nameV at h
    rw [alive_text] at h
    exact h
  have HPr := Lib.hid hp
  clear hp
  go_enter Tryd.func4, Tryd.ntmps4
  go_wp2_with fail
  refine (parse_any aliveS (by decide) _ hT).mono ?_
  rintro e w' ⟨k0, k1, a, b, c, er, rfl, HQ, os, d, rfl⟩
  have hq := HQ.out
  rw [← alive_text] at hq
  obtain ⟨rfl, rfl, rfl, rfl, rfl, rfl⟩ := ppa_text alive_ok hq
  clear HQ hq
  go_wp2_with fail
  refine (HPr.out _ (hT.out.more (by repeat (first | (with_reducible exact More.refl _) | (with_reducible refine More.alloc ?_ _) | (with_reducible refine More.more ?_ _ _) | (with_reducible refine More.drewN ?_ _) | (with_reducible refine More.drew ?_))))).mono ?_
  rintro e w' ⟨rfl, os2, d2, rfl⟩
  go_wp2
  go_ret
  exact ⟨rfl, (by repeat (first | (with_reducible exact More.refl _) | (with_reducible refine More.alloc ?_ _) | (with_reducible refine More.more ?_ _ _) | (with_reducible refine More.drewN ?_ _) | (with_reducible refine More.drew ?_)))⟩
end Go.Proofs.YtgmljgcmfooniaaDoor
