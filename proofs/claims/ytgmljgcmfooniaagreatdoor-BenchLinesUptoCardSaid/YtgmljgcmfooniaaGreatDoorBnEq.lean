/- Rules compared; the closed fact of bench's laws. Conditions: what the package-level variables hold (BTabs). -/
import Derived.Test.YtgmljgcmfooniaaGreatDoorBnM
import Derived.Laws.StructEq
set_option linter.unusedVariables false
set_option linter.unusedSimpArgs false
namespace Go.Proofs.YtgmljgcmfooniaaGreatDoor
open Go.RowKit Go.Shelf Go.Tide
set_option linter.unusedVariables false
set_option linter.unusedSimpArgs false
abbrev aliveS : ByteArray := ⟨#[99, 111, 112, 97, 32, 108, 101, 100, 98, 97, 116, 32, 51, 32, 56, 32, 50]⟩
theorem alive_text : (⟨(bnText 2 3 (3 : Nat) (8 : Nat) (2 : Nat)).toArray⟩ : ByteArray) = aliveS := by
  rw [bnText_eq, dec_two (n := 3) (by decide), dec_two (n := 8) (by decide), dec_two (n := 2) (by decide)]
  rfl
theorem alive_ok : BOk 2 3 (3 : Nat) (8 : Nat) (2 : Nat) := by unfold BOk dKind dNums; decide
set_option maxRecDepth 20000 in
set_option maxHeartbeats 4000000 in
theorem bench_alive (w : World) (hT : Hid (BTabs w)) : Calls Tryz.prog 7 #[] w fun e w' => e = .returned (.bool true) ∧ More w w' := by
  have hp : ∀ W, BTabs W → Calls Tryz.prog 29 #[.agg #[.int .i64 2, .int .i64 3, .int .i64 3, .int .i64 8, .int .i64 2]] W fun e w' => e = .returned (.tuple #[.string aliveS, .int .i64 0]) ∧ More W w' := by
    intro W hW
    have h := print_ok 2 3 3 8 2 alive_ok.1 alive_ok.2.1 alive_ok.2.2 W hW
    unfold nameV at h
    rw [alive_text] at h
    exact h
  have HPr := Lib.hid hp
  clear hp
  go_enter Tryz.func7, Tryz.ntmps7
  go_wp2_with fail
  refine (parse_any aliveS (by decide) _ hT).mono ?_
  rintro e w' ⟨k0, k1, a, b, c, er, rfl, HQ, os, d, rfl⟩
  have hq := HQ.out
  rw [← alive_text] at hq
  obtain ⟨rfl, rfl, rfl, rfl, rfl, rfl⟩ := ppa_text alive_ok hq
  clear HQ hq
  go_wp2_with fail
  refine (HPr.out _ (hT.out.more (by repeat (first | (with_reducible exact More.refl _) | (with_reducible refine More.alloc ?_ _) | (with_reducible refine More.more ?_ _ _) | (with_reducible refine More.drewN ?_ _) | (with_reducible refine More.drew ?_))))).mono ?_
  rintro e w' ⟨rfl, os2, d2, rfl⟩
  go_wp2
  go_ret
  exact ⟨rfl, (by repeat (first | (with_reducible exact More.refl _) | (with_reducible refine More.alloc ?_ _) | (with_reducible refine More.more ?_ _ _) | (with_reducible refine More.drewN ?_ _) | (with_reducible refine More.drew ?_)))⟩
end Go.Proofs.YtgmljgcmfooniaaGreatDoor
