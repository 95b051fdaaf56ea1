/- PotentialEither: for every input the law returns true. Conditions: none. -/
import Derived.Test.YtpnnijficjfcjaaPotB
import Derived.Test.YtpnnijficjfcjaaOpenG
set_option linter.unusedVariables false
set_option linter.unusedSimpArgs false
namespace Go.Proofs.Ytpnnijficjfcjaa
open Go.RowKit Go.Tide
set_option linter.unusedVariables false
set_option linter.unusedSimpArgs false
theorem pot_alive_more (w : World) : Calls Try.prog 32 #[] w fun e w' => e = .returned (.bool true) ∧ More w w' :=
  (pot_alive w).mono fun e w' ⟨h1, h2⟩ => ⟨h1, More.of_below h2⟩
set_option maxRecDepth 20000 in
set_option maxHeartbeats 4000000 in
theorem potentialEither_walk (a0_0 : Int) (a0_1 : Option Addr) (len0 cap0 : Nat) (z0 : List Int) (w : World) (b0_0 : InI64 a0_0) (f0 : IsFlat w a0_1 len0 cap0 3 z0) (r0 : cap0 * 24 ≤ 140737488351232) :
    Calls Try.prog 10 #[.agg #[.int .i64 a0_0, .slice a0_1 len0 cap0]] w fun e w' => e = .returned (.bool true) ∧ Below w.heap.size w w' := by
  have hle : len0 ≤ cap0 := by rcases f0 with ⟨_, h1, h2, _⟩ | ⟨_, _, h, _⟩ <;> omega
  have hs := f0.rowC (by omega)
  generalize (fun k j => z0.getD (k * 3 + j) 0) = f at hs
  clear f0
  by_cases hG : GRight a0_0 len0 f
  · obtain ⟨N, rfl⟩ : ∃ N : Nat, a0_0 = N := ⟨a0_0.toNat, by have := hG.1; omega⟩
    have HG := Lib.hid hG
    have hn := hG.2.2.1
    have hN := hG.2.1
    clear hG
    by_cases hL : (solved f len0 N).L < 0
    · have HL := Lib.hid hL
      clear hL
      go_enter Try.func10, Try.ntmps10
      go_wp2_with (refine (pot_alive_more _).mono ?_; rintro e w' ⟨rfl, os0, d0, rfl⟩)
      refine (most_any N _ len0 _ f _ (by repeat (first | (with_reducible assumption) | (with_reducible exact RowC.nil) | (with_reducible apply RowC.drewN) | (with_reducible apply RowC.drew) | (with_reducible apply RowC.more) | (with_reducible apply RowC.alloc))) HG.out).mono ?_
      rintro e w1 ⟨h1, hb1⟩
      have h1' : ∃ g, e = .returned (.tuple #[.slice (some ⟨g, 0, none⟩) N N, .int .i64 0]) := by
        rcases h1 with ⟨h, _⟩ | ⟨_, g, h, _⟩
        · have := HL.out; omega
        · exact ⟨g, h⟩
      obtain ⟨gm, rfl⟩ := h1'
      obtain ⟨os1, d1, rfl⟩ := More.of_below hb1
      clear h1 hb1
      go_wp2_with fail
      refine (cycle_none N _ len0 _ f _ (by repeat (first | (with_reducible assumption) | (with_reducible exact RowC.nil) | (with_reducible apply RowC.drewN) | (with_reducible apply RowC.drew) | (with_reducible apply RowC.more) | (with_reducible apply RowC.alloc))) HG.out HL.out).mono ?_
      rintro e w1 ⟨rfl, hb2⟩
      obtain ⟨os2, d2, rfl⟩ := More.of_below hb2
      clear hb2
      go_wp2_with (refine (pwrong_any N _ len0 _ f _ (by repeat (first | (with_reducible assumption) | (with_reducible exact RowC.nil) | (with_reducible apply RowC.drewN) | (with_reducible apply RowC.drew) | (with_reducible apply RowC.more) | (with_reducible apply RowC.alloc))) (by omega)).mono ?_; rintro e w1 ⟨rfl, os3, d3, rfl⟩; rw [gWrong_ok HG.out])
      refine (weigh_any N _ len0 _ f none 0 0 (fun _ => 0) _ (by repeat (first | (with_reducible assumption) | (with_reducible exact RowC.nil) | (with_reducible apply RowC.drewN) | (with_reducible apply RowC.drew) | (with_reducible apply RowC.more) | (with_reducible apply RowC.alloc))) Row.nil (by omega) HG.out).mono ?_
      rintro e w1 ⟨h4, hb4⟩
      have h4' : e = .returned (.tuple #[.int .i64 0, .int .i64 0]) := by
        rcases h4 with ⟨_, h⟩ | ⟨h, _⟩
        · exact h
        · exact absurd (fun k hk => absurd hk (by omega)) h
      subst h4'
      obtain ⟨os4, d4, rfl⟩ := More.of_below hb4
      clear h4 hb4
      go_wp2
      go_ret
      exact ⟨rfl, (More.below (by repeat (first | (with_reducible assumption) | (with_reducible exact More.refl _) | (with_reducible refine More.alloc ?_ _) | (with_reducible refine More.more ?_ _ _) | (with_reducible refine More.drewN ?_ _) | (with_reducible refine More.drew ?_))))⟩
    · have HL : Hid (0 ≤ (solved f len0 N).L) := by show _ ≤ _; omega
      clear hL
      obtain ⟨v, m, V, hv, hR⟩ := cycle_round HG.out HL.out
      have HV := Lib.hid hv
      have HR := Lib.hid hR
      have hmany := hR.many
      have g1 : decide (0 < wSum f (fun k => (solved f len0 N).B (backs f (solved f len0 N).B (m - 1 - k) V)) m) = true := by simpa using hR.more
      clear hv hR
      go_enter Try.func10, Try.ntmps10
      go_wp2_with (refine (pot_alive_more _).mono ?_; rintro e w' ⟨rfl, os0, d0, rfl⟩)
      refine (most_any N _ len0 _ f _ (by repeat (first | (with_reducible assumption) | (with_reducible exact RowC.nil) | (with_reducible apply RowC.drewN) | (with_reducible apply RowC.drew) | (with_reducible apply RowC.more) | (with_reducible apply RowC.alloc))) HG.out).mono ?_
      rintro e w1 ⟨h1, hb1⟩
      have h1' : e = .returned (.tuple #[.slice none 0 0, .int .i64 3]) := by
        rcases h1 with ⟨_, h⟩ | ⟨h, _⟩
        · exact h
        · have := HL.out; omega
      subst h1'
      obtain ⟨os1, d1, rfl⟩ := More.of_below hb1
      clear h1 hb1
      go_wp2_with fail
      refine (cycle_any N _ len0 _ f _ (by repeat (first | (with_reducible assumption) | (with_reducible exact RowC.nil) | (with_reducible apply RowC.drewN) | (with_reducible apply RowC.drew) | (with_reducible apply RowC.more) | (with_reducible apply RowC.alloc))) HG.out v m _ V HV.out rfl HR.out.at_ HR.out.right HR.out.many HR.out.round HR.out.once).mono ?_
      rintro e w1 ⟨g9, c9, rfl, hc9, hr9, hb2⟩
      obtain ⟨os2, d2, rfl⟩ := More.of_below hb2
      clear hb2
      go_wp2_with (refine (pwrong_any N _ len0 _ f _ (by repeat (first | (with_reducible assumption) | (with_reducible exact RowC.nil) | (with_reducible apply RowC.drewN) | (with_reducible apply RowC.drew) | (with_reducible apply RowC.more) | (with_reducible apply RowC.alloc))) (by omega)).mono ?_; rintro e w1 ⟨rfl, os3, d3, rfl⟩; rw [gWrong_ok HG.out])
      refine (weigh_any N _ len0 _ f _ m _ _ _ (by repeat (first | (with_reducible assumption) | (with_reducible exact RowC.nil) | (with_reducible apply RowC.drewN) | (with_reducible apply RowC.drew) | (with_reducible apply RowC.more) | (with_reducible apply RowC.alloc))) (hr9.more os3 d3) (by omega) HG.out).mono ?_
      rintro e w1 ⟨h4, hb4⟩
      have h4' : e = .returned (.tuple #[.int .i64 (wSum f (fun k => (solved f len0 N).B (backs f (solved f len0 N).B (m - 1 - k) V)) m), .int .i64 0]) := by
        rcases h4 with ⟨_, h⟩ | ⟨h, _⟩
        · exact h
        · exact absurd HR.out.walk h
      subst h4'
      obtain ⟨os4, d4, rfl⟩ := More.of_below hb4
      clear h4 hb4
      go_wp2
      go_ret
      exact ⟨rfl, (More.below (by repeat (first | (with_reducible assumption) | (with_reducible exact More.refl _) | (with_reducible refine More.alloc ?_ _) | (with_reducible refine More.more ?_ _ _) | (with_reducible refine More.drewN ?_ _) | (with_reducible refine More.drew ?_))))⟩
  · have HG := Lib.hid hG
    clear hG
    go_enter Try.func10, Try.ntmps10
    go_wp2_with (refine (pot_alive_more _).mono ?_; rintro e w' ⟨rfl, os0, d0, rfl⟩)
    refine (most_bad _ _ len0 _ f _ (by repeat (first | (with_reducible assumption) | (with_reducible exact RowC.nil) | (with_reducible apply RowC.drewN) | (with_reducible apply RowC.drew) | (with_reducible apply RowC.more) | (with_reducible apply RowC.alloc))) (by omega) HG.out).mono ?_
    rintro e w1 ⟨rfl, hb1⟩
    obtain ⟨os1, d1, rfl⟩ := More.of_below hb1
    clear hb1
    go_wp2_with fail
    refine (cycle_bad _ _ len0 _ f _ (by repeat (first | (with_reducible assumption) | (with_reducible exact RowC.nil) | (with_reducible apply RowC.drewN) | (with_reducible apply RowC.drew) | (with_reducible apply RowC.more) | (with_reducible apply RowC.alloc))) (by omega) HG.out).mono ?_
    rintro e w1 ⟨rfl, hb2⟩
    obtain ⟨os2, d2, rfl⟩ := More.of_below hb2
    clear hb2
    go_wp2_with (refine (pwrong_any _ _ len0 _ f _ (by repeat (first | (with_reducible assumption) | (with_reducible exact RowC.nil) | (with_reducible apply RowC.drewN) | (with_reducible apply RowC.drew) | (with_reducible apply RowC.more) | (with_reducible apply RowC.alloc))) (by omega)).mono ?_; rintro e w1 ⟨rfl, os3, d3, rfl⟩; rw [gWrong_bad HG.out])
    go_ret
    exact ⟨rfl, (More.below (by repeat (first | (with_reducible assumption) | (with_reducible exact More.refl _) | (with_reducible refine More.alloc ?_ _) | (with_reducible refine More.more ?_ _ _) | (with_reducible refine More.drewN ?_ _) | (with_reducible refine More.drew ?_))))⟩
end Go.Proofs.Ytpnnijficjfcjaa
