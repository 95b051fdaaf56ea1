/- What is wrong with rules, in one; and what a round of a duel brings. Conditions: none. -/
import Derived.Test.YtehlgomjgmabeaaDuelW
set_option linter.unusedVariables false
set_option linter.unusedSimpArgs false
namespace Go.Proofs.Ytehlgomjgmabeaa
open Go.RowKit Go.Tide
set_option linter.unusedVariables false
set_option linter.unusedSimpArgs false
theorem wrong_er (k0 k1 rate buf jit : Int) (h : ¬ (dKind k0 ∧ dKind k1 ∧ dNums rate buf jit)) : ∃ er : Int, Hid (er ≠ 0) ∧ ∀ W, Calls Try.prog 26 #[.agg #[.int .i64 k0, .int .i64 k1, .int .i64 rate, .int .i64 buf, .int .i64 jit]] W fun e w' => e = .returned (.int .i64 er) ∧ More W w' := by
  by_cases h0 : dKind k0
  · by_cases h1 : dKind k1
    · exact ⟨2, by show (2 : Int) ≠ 0; decide, fun W => wrong_nums k0 k1 rate buf jit W h0 h1 (fun hn => h ⟨h0, h1, hn⟩)⟩
    · exact ⟨5, by show (5 : Int) ≠ 0; decide, fun W => wrong_kind1 k0 k1 rate buf jit W h0 h1⟩
  · exact ⟨5, by show (5 : Int) ≠ 0; decide, fun W => wrong_kind0 k0 k1 rate buf jit W h0⟩
theorem pass_law {r : DRules} {s : DSt} (hr : r.ok) (h : s.ok r) : (∀ q, 0 ≤ dRow r s q ∧ dRow r s q ≤ 100) ∧ dRow r s 2 + dRow r s 3 ≤ r.rate ∧
    dRow r s 0 + s.w0 = dRow r s 2 + dRow r s 4 + (dPass r s).l0 ∧ dRow r s 1 + s.w1 = dRow r s 3 + dRow r s 5 + (dPass r s).l1 := by
  have hs := lpass_sums (rate := r.rate) (room := r.buf) (W0 := s.w0) (W1 := s.w1) (S0 := s.a.c1.toNat) (S1 := s.b.c1.toNat) (k := (dPass r s).k) (c0 := (dPass r s).c0) (c1 := (dPass r s).c1) (l0 := (dPass r s).l0) (l1 := (dPass r s).l1) (x0 := (dPass r s).x0) (x1 := (dPass r s).x1) rfl
  have ha := Ctl.window h.1
  have hb := Ctl.window h.2.1
  have hw := h.2.2
  have hn := hr.2.2
  obtain ⟨n1, n2, n3, n4, n5, n6⟩ := hn
  obtain ⟨s1, s2, s3, s4, s5⟩ := hs
  have r0 : dRow r s 0 = s.a.c1 := rfl
  have r1 : dRow r s 1 = s.b.c1 := rfl
  have r2 : dRow r s 2 = (dPass r s).c0 := rfl
  have r3 : dRow r s 3 = (dPass r s).c1 := rfl
  have r4 : dRow r s 4 = (dPass r s).x0 := rfl
  have r5 : dRow r s 5 = (dPass r s).x1 := rfl
  refine ⟨fun q => ?_, by omega, by omega, by omega⟩
  match q with
  | 0 => omega
  | 1 => omega
  | 2 => omega
  | 3 => omega
  | 4 => omega
  | q + 5 => show 0 ≤ ((dPass r s).x1 : Int) ∧ ((dPass r s).x1 : Int) ≤ 100; omega
end Go.Proofs.Ytehlgomjgmabeaa
