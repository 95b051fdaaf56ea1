/- MeanSign: for every input the law returns true. Conditions: none. -/
import Derived.Test.YtnbjcohkkaijaaaMeC
set_option linter.unusedVariables false
set_option linter.unusedSimpArgs false
namespace Go.Proofs.Ytnbjcohkkaijaaa
open Go.RowKit Go.Tide
set_option linter.unusedVariables false
set_option linter.unusedSimpArgs false

set_option maxRecDepth 20000 in
set_option maxHeartbeats 4000000 in
theorem meanSign_walk (a0_0 : Int) (a0_1 : Option Addr) (len0 cap0 : Nat) (z0 : List Int) (w : World) (b0_0 : InI64 a0_0) (f0 : IsFlat w a0_1 len0 cap0 3 z0) (r0 : cap0 * 24 ≤ 140737488351232) :
    Calls Try.prog 5 #[.agg #[.int .i64 a0_0, .slice a0_1 len0 cap0]] w fun e w' => e = .returned (.bool true) ∧ Below w.heap.size w w' := by
  have hle : len0 ≤ cap0 := by rcases f0 with ⟨_, h1, h2, _⟩ | ⟨_, _, h, _⟩ <;> omega
  have hs := f0.rowC (by omega)
  generalize (fun k j => z0.getD (k * 3 + j) 0) = f at hs
  clear f0
  by_cases hG : GRight a0_0 len0 f
  · obtain ⟨N, rfl⟩ : ∃ N : Nat, a0_0 = N := ⟨a0_0.toNat, by have := hG.1; omega⟩
    have HG := Lib.hid hG
    have hn := hG.2.2.1
    clear hG
    go_enter Try.func5, Try.ntmps5
    go_wp2_with (refine (mean_alive_more _).mono ?_; rintro e w' ⟨rfl, os0, d0, rfl⟩)
    refine (greatest_one N _ len0 _ f _ (by repeat (first | (with_reducible assumption) | (with_reducible exact RowC.nil) | (with_reducible apply RowC.drewN) | (with_reducible apply RowC.drew) | (with_reducible apply RowC.more) | (with_reducible apply RowC.alloc))) HG.out).mono ?_
    rintro e w1 ⟨p, q, er, rfl, HP, os1, d1, rfl⟩
    go_wp2_with fail
    refine (cycle_one N _ len0 _ f _ (by repeat (first | (with_reducible assumption) | (with_reducible exact RowC.nil) | (with_reducible apply RowC.drewN) | (with_reducible apply RowC.drew) | (with_reducible apply RowC.more) | (with_reducible apply RowC.alloc))) HG.out).mono ?_
    rintro e w1 ⟨ao, no, co, er2, rfl, HC, os2, d2, rfl⟩
    have HS := Lib.hid (sign_law HG.out)
    rcases HP.out with ⟨h1, rfl, rfl, rfl⟩ | ⟨h1, rfl, rfl, rfl⟩
    · have he2 : er2 = 3 := by
        rcases HC.out with ⟨_, h⟩ | ⟨h, _⟩
        · exact h
        · exact absurd h1 (HS.out.2 h).1
      subst he2
      clear h1 HP HC HS
      go_wp2_with (go_at_call 8; refine (pwrong_any N _ len0 _ f _ (by repeat (first | (with_reducible assumption) | (with_reducible exact RowC.nil) | (with_reducible apply RowC.drewN) | (with_reducible apply RowC.drew) | (with_reducible apply RowC.more) | (with_reducible apply RowC.alloc))) (by omega)).mono ?_; rintro e w1 ⟨rfl, os3, d3, rfl⟩; rw [gWrong_ok HG.out])
      go_ret
      exact ⟨rfl, (More.below (by repeat (first | (with_reducible assumption) | (with_reducible exact More.refl _) | (with_reducible refine More.alloc ?_ _) | (with_reducible refine More.more ?_ _ _) | (with_reducible refine More.drewN ?_ _) | (with_reducible refine More.drew ?_))))⟩
    · have H1 := Lib.hid h1
      clear h1
      obtain ⟨P, hP⟩ : ∃ P, Hid (bP f len0 N = P) := ⟨_, rfl⟩
      rw [hP.out] at HS
      rw [hP.out]
      by_cases hp : 0 < P
      · have d1 : decide (0 < P) = true := by simpa using hp
        have he2 : er2 = 0 := by
          rcases HC.out with ⟨h, _⟩ | ⟨_, h⟩
          · have := HS.out.1 ⟨H1.out, hp⟩; omega
          · exact h
        subst he2
        clear HP HC HS
        go_wp2_with (go_at_call 8; refine (pwrong_any N _ len0 _ f _ (by repeat (first | (with_reducible assumption) | (with_reducible exact RowC.nil) | (with_reducible apply RowC.drewN) | (with_reducible apply RowC.drew) | (with_reducible apply RowC.more) | (with_reducible apply RowC.alloc))) (by omega)).mono ?_; rintro e w1 ⟨rfl, os3, d3, rfl⟩; rw [gWrong_ok HG.out])
        go_ret
        exact ⟨rfl, (More.below (by repeat (first | (with_reducible assumption) | (with_reducible exact More.refl _) | (with_reducible refine More.alloc ?_ _) | (with_reducible refine More.more ?_ _ _) | (with_reducible refine More.drewN ?_ _) | (with_reducible refine More.drew ?_))))⟩
      · have d1 : decide (0 < P) = false := by simpa using hp
        have he2 : er2 = 3 := by
          rcases HC.out with ⟨_, h⟩ | ⟨h, _⟩
          · exact h
          · exact absurd (HS.out.2 h).2 hp
        subst he2
        clear HP HC HS
        go_wp2_with (go_at_call 8; refine (pwrong_any N _ len0 _ f _ (by repeat (first | (with_reducible assumption) | (with_reducible exact RowC.nil) | (with_reducible apply RowC.drewN) | (with_reducible apply RowC.drew) | (with_reducible apply RowC.more) | (with_reducible apply RowC.alloc))) (by omega)).mono ?_; rintro e w1 ⟨rfl, os3, d3, rfl⟩; rw [gWrong_ok HG.out])
        go_ret
        exact ⟨rfl, (More.below (by repeat (first | (with_reducible assumption) | (with_reducible exact More.refl _) | (with_reducible refine More.alloc ?_ _) | (with_reducible refine More.more ?_ _ _) | (with_reducible refine More.drewN ?_ _) | (with_reducible refine More.drew ?_))))⟩
  · have HG := Lib.hid hG
    clear hG
    go_enter Try.func5, Try.ntmps5
    go_wp2_with (refine (mean_alive_more _).mono ?_; rintro e w' ⟨rfl, os0, d0, rfl⟩)
    refine (greatest_bad a0_0 _ len0 _ f _ (by repeat (first | (with_reducible assumption) | (with_reducible exact RowC.nil) | (with_reducible apply RowC.drewN) | (with_reducible apply RowC.drew) | (with_reducible apply RowC.more) | (with_reducible apply RowC.alloc))) (by omega) HG.out).mono ?_
    rintro e w1 ⟨rfl, os1, d1, rfl⟩
    go_wp2_with fail
    refine (cycle_bad a0_0 _ len0 _ f _ (by repeat (first | (with_reducible assumption) | (with_reducible exact RowC.nil) | (with_reducible apply RowC.drewN) | (with_reducible apply RowC.drew) | (with_reducible apply RowC.more) | (with_reducible apply RowC.alloc))) (by omega) HG.out).mono ?_
    rintro e w1 ⟨rfl, hb2⟩
    obtain ⟨os2, d2, rfl⟩ := More.of_below hb2
    clear hb2
    go_wp2_with (go_at_call 8; refine (pwrong_any a0_0 _ len0 _ f _ (by repeat (first | (with_reducible assumption) | (with_reducible exact RowC.nil) | (with_reducible apply RowC.drewN) | (with_reducible apply RowC.drew) | (with_reducible apply RowC.more) | (with_reducible apply RowC.alloc))) (by omega)).mono ?_; rintro e w1 ⟨rfl, os3, d3, rfl⟩; rw [gWrong_bad HG.out])
    go_ret
    exact ⟨rfl, (More.below (by repeat (first | (with_reducible assumption) | (with_reducible exact More.refl _) | (with_reducible refine More.alloc ?_ _) | (with_reducible refine More.more ?_ _ _) | (with_reducible refine More.drewN ?_ _) | (with_reducible refine More.drew ?_))))⟩
end Go.Proofs.Ytnbjcohkkaijaaa
