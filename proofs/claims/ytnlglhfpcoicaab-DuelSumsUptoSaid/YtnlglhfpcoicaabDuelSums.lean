/- DuelSums: for every input of such bulk the law returns true. Conditions: none. -/
import Derived.Test.YtnlglhfpcoicaabDuelA
import Derived.Test.YtnlglhfpcoicaabDuelW
import Derived.Test.YtnlglhfpcoicaabDuelV
import Derived.Test.YtnlglhfpcoicaabIsFlat
set_option linter.unusedVariables false
set_option linter.unusedSimpArgs false
namespace Go.Proofs.Ytnlglhfpcoicaab
open Go.RowKit Go.Tide
set_option linter.unusedVariables false
set_option linter.unusedSimpArgs false
theorem wrong_er (k0 k1 rate buf jit : Int) (h : ¬ (dKind k0 ∧ dKind k1 ∧ dNums rate buf jit)) : ∃ er : Int, Hid (er ≠ 0) ∧ ∀ W, Calls Try.prog 14 #[.agg #[.int .i64 k0, .int .i64 k1, .int .i64 rate, .int .i64 buf, .int .i64 jit]] W fun e w' => e = .returned (.int .i64 er) ∧ More W w' := by
  by_cases h0 : dKind k0
  · by_cases h1 : dKind k1
    · exact ⟨2, by show (2 : Int) ≠ 0; decide, fun W => wrong_nums k0 k1 rate buf jit W h0 h1 (fun hn => h ⟨h0, h1, hn⟩)⟩
    · exact ⟨5, by show (5 : Int) ≠ 0; decide, fun W => wrong_kind1 k0 k1 rate buf jit W h0 h1⟩
  · exact ⟨5, by show (5 : Int) ≠ 0; decide, fun W => wrong_kind0 k0 k1 rate buf jit W h0⟩
theorem pass_law {r : DRules} {s : DSt} (hr : r.ok) (h : s.ok r) : (∀ q, 0 ≤ dRow r s q ∧ dRow r s q ≤ 100) ∧ dRow r s 2 + dRow r s 3 ≤ r.rate ∧
    dRow r s 0 + s.w0 = dRow r s 2 + dRow r s 4 + (dPass r s).l0 ∧ dRow r s 1 + s.w1 = dRow r s 3 + dRow r s 5 + (dPass r s).l1 := by
  have hs := lpass_sums (rate := r.rate) (room := r.buf) (W0 := s.w0) (W1 := s.w1) (S0 := s.a.c1.toNat) (S1 := s.b.c1.toNat) (k := (dPass r s).k) (c0 := (dPass r s).c0) (c1 := (dPass r s).c1) (l0 := (dPass r s).l0) (l1 := (dPass r s).l1) (x0 := (dPass r s).x0) (x1 := (dPass r s).x1) rfl
  have ha := Ctl.window h.1
  have hb := Ctl.window h.2.1
  have hw := h.2.2
  have hn := hr.2.2
  obtain ⟨n1, n2, n3, n4, n5, n6⟩ := hn
  obtain ⟨s1, s2, s3, s4, s5⟩ := hs
  have r0 : dRow r s 0 = s.a.c1 := rfl
  have r1 : dRow r s 1 = s.b.c1 := rfl
  have r2 : dRow r s 2 = (dPass r s).c0 := rfl
  have r3 : dRow r s 3 = (dPass r s).c1 := rfl
  have r4 : dRow r s 4 = (dPass r s).x0 := rfl
  have r5 : dRow r s 5 = (dPass r s).x1 := rfl
  refine ⟨fun q => ?_, by omega, by omega, by omega⟩
  match q with
  | 0 => omega
  | 1 => omega
  | 2 => omega
  | 3 => omega
  | 4 => omega
  | q + 5 => show 0 ≤ ((dPass r s).x1 : Int) ∧ ((dPass r s).x1 : Int) ≤ 100; omega
theorem sums_law {r : DRules} {f : Nat → Nat → Int} (hr : r.ok) : ∀ n, dAll r f n → tot (dRows r f) 0 n = tot (dRows r f) 2 n + tot (dRows r f) 4 n + (dRun r f n).w0 ∧ tot (dRows r f) 1 n = tot (dRows r f) 3 n + tot (dRows r f) 5 n + (dRun r f n).w1 := by
  intro n
  induction n with
  | zero => intro _; exact ⟨rfl, rfl⟩
  | succ n ih =>
    intro h
    have h1 := ih fun k hk => h k (by omega)
    have h2 := (pass_law hr (run_ok hr n fun k hk => h k (by omega))).2.2
    have e : ∀ q, tot (dRows r f) q (n + 1) = tot (dRows r f) q n + dRow r (dRun r f n) q := fun q => rfl
    have e0 : (dRun r f (n + 1)).w0 = (dPass r (dRun r f n)).l0 := rfl
    have e1 : (dRun r f (n + 1)).w1 = (dPass r (dRun r f n)).l1 := rfl
    rw [e, e, e, e, e, e, e0, e1]
    omega
set_option maxRecDepth 20000 in
set_option maxHeartbeats 8000000 in
theorem duelSums_walk (a0_0 a0_1 a0_2 a0_3 a0_4 : Int) (a1 : Option Addr) (len1 cap1 : Nat) (z1 : List Int) (w : World) (b0_0 : InI64 a0_0) (b0_1 : InI64 a0_1) (b0_2 : InI64 a0_2) (b0_3 : InI64 a0_3) (b0_4 : InI64 a0_4) (f1 : IsFlat w a1 len1 cap1 2 z1) (r1 : cap1 * 16 ≤ 140737488351232) (s1 : len1 ≤ 1048576) :
    Calls Try.prog 4 #[.agg #[.int .i64 a0_0, .int .i64 a0_1, .int .i64 a0_2, .int .i64 a0_3, .int .i64 a0_4], .slice a1 len1 cap1] w fun e w' => e = .returned (.bool true) ∧ Below w.heap.size w w' := by
  have hf := f1.rowC (by omega)
  generalize (fun k j => z1.getD (k * 2 + j) 0) = f at hf
  clear f1 b0_0 b0_1 b0_2 b0_3 b0_4
  by_cases hK : dKind a0_0 ∧ dKind a0_1 ∧ dNums a0_2 a0_3 a0_4
  · obtain ⟨k0, k1, hn⟩ := hK
    have hnn := hn
    obtain ⟨n1, n2, n3, n4, n5, n6⟩ := hnn
    obtain ⟨rate, rfl⟩ : ∃ n : Nat, a0_2 = n := ⟨a0_2.toNat, by omega⟩
    obtain ⟨buf, rfl⟩ : ∃ n : Nat, a0_3 = n := ⟨a0_3.toNat, by omega⟩
    have HR : Hid (DRules.ok ⟨a0_0, a0_1, rate, buf, a0_4⟩) := ⟨k0, k1, hn⟩
    clear k0 k1 hn n1 n2 n3 n4 n5 n6
    go_enter Try.func4, Try.ntmps4
    go_wp2_with (go_at_call 6; refine (duel_alive _).mono ?_; rintro e w' ⟨rfl, os0, d0, rfl⟩)
    go_wp2_with fail
    have hm : More w ((w.alloc (.cells #[.int .i64 a0_0, .int .i64 a0_1, .int .i64 rate, .int .i64 buf, .int .i64 a0_4] 24)).more os0 d0) := (by repeat (first | (with_reducible assumption) | (with_reducible exact More.refl _) | (with_reducible refine More.alloc ?_ _) | (with_reducible refine More.more ?_ _ _) | (with_reducible refine More.drewN ?_ _) | (with_reducible refine More.drew ?_)))
    have hB1 : Blk ((w.alloc (.cells #[.int .i64 a0_0, .int .i64 a0_1, .int .i64 rate, .int .i64 buf, .int .i64 a0_4] 24)).more os0 d0) w.heap.size 24 #[.int .i64 a0_0, .int .i64 a0_1, .int .i64 rate, .int .i64 buf, .int .i64 a0_4] := (by repeat (first | (with_reducible assumption) | ((with_reducible refine Blk.new' ?_); (simp [Nat.add_assoc]; done)) | (with_reducible refine Blk.alloc ?_ _) | (with_reducible refine Blk.more ?_ _ _) | (with_reducible refine Blk.drew ?_) | (with_reducible refine Blk.drewN ?_ _)))
    have hz : RowC ((w.alloc (.cells #[.int .i64 a0_0, .int .i64 a0_1, .int .i64 rate, .int .i64 buf, .int .i64 a0_4] 24)).more os0 d0) 2 a1 len1 f := (by repeat (first | (with_reducible assumption) | (with_reducible exact RowC.nil) | (with_reducible apply RowC.drewN) | (with_reducible apply RowC.drew) | (with_reducible apply RowC.more) | (with_reducible apply RowC.alloc)))
    have hlg := hB1.lt
    generalize ((w.alloc (.cells #[.int .i64 a0_0, .int .i64 a0_1, .int .i64 rate, .int .i64 buf, .int .i64 a0_4] 24)).more os0 d0) = wz at *
    have hmb := hm.below
    have hms := hmb.size
    by_cases hA : dAll ⟨a0_0, a0_1, rate, buf, a0_4⟩ f len1
    · have HA := Lib.hid hA
      clear hA
      refine (play_ok ⟨a0_0, a0_1, rate, buf, a0_4⟩ a1 len1 cap1 f _ hz s1 HR.out HA.out).mono ?_
      rintro e w1 ⟨ao, co, he, hown, hb2⟩
      have HL := Lib.hid (sums_law HR.out len1 HA.out)
      have HP : Hid (∀ k, k < len1 → (∀ q, 0 ≤ dRows ⟨a0_0, a0_1, rate, buf, a0_4⟩ f k q ∧ dRows ⟨a0_0, a0_1, rate, buf, a0_4⟩ f k q ≤ 100) ∧ dRows ⟨a0_0, a0_1, rate, buf, a0_4⟩ f k 2 + dRows ⟨a0_0, a0_1, rate, buf, a0_4⟩ f k 3 ≤ rate) := fun k hk =>
        have h := pass_law HR.out (run_ok HR.out k fun t ht => HA.out t (by omega))
        ⟨h.1, h.2.1⟩
      have hok := run_ok HR.out len1 HA.out
      have hws : (dRun ⟨a0_0, a0_1, rate, buf, a0_4⟩ f len1).w0 ≤ 16 ∧ (dRun ⟨a0_0, a0_1, rate, buf, a0_4⟩ f len1).w1 ≤ 16 := by
        have h1 := hok.2.2
        have h2 := HR.out.2.2
        obtain ⟨n1, n2, n3, n4, n5, n6⟩ := h2
        dsimp only at h1 n4
        omega
      clear hok
      have hrw : RowC w1 6 ao len1 (dRows ⟨a0_0, a0_1, rate, buf, a0_4⟩ f) := RowC.of_own (by omega) hown
      clear hown
      generalize dRows ⟨a0_0, a0_1, rate, buf, a0_4⟩ f = g at *
      obtain ⟨s, hs⟩ : ∃ s, Hid (dRun ⟨a0_0, a0_1, rate, buf, a0_4⟩ f len1 = s) := ⟨_, rfl⟩
      rw [hs.out] at he hws
      have HL' : Hid (tot g 0 len1 = tot g 2 len1 + tot g 4 len1 + s.w0 ∧ tot g 1 len1 = tot g 3 len1 + tot g 5 len1 + s.w1) := by have h := HL.out; rw [hs.out] at h; exact h
      clear HL hs HA
      have he' : e = .returned (.tuple #[.slice ao len1 co, .agg #[.int .i64 s.a.c0, .int .i64 s.a.c1, .int .i64 s.a.c2, .int .i64 s.a.c3, .int .i64 s.a.c4, .int .i64 s.a.c5, .int .i64 s.b.c0, .int .i64 s.b.c1, .int .i64 s.b.c2, .int .i64 s.b.c3, .int .i64 s.b.c4, .int .i64 s.b.c5, .int .i64 s.w0, .int .i64 s.w1], .int .i64 0]) := he
      subst he'
      clear he
      obtain ⟨os2, d2, rfl⟩ := More.of_below hb2
      have hSum := sums_any ao len1 co g
      have tb : ∀ q, 0 ≤ tot g q len1 ∧ tot g q len1 ≤ 104857600 := fun q => by
        have := tot_bd (f := g) (q := q) len1 (fun t ht => (HP.out t ht).1 q)
        omega
      have t0b := tb 0
      have t1b := tb 1
      have t2b := tb 2
      have t3b := tb 3
      have t4b := tb 4
      have t5b := tb 5
      clear tb
      obtain ⟨t0, ht0⟩ : ∃ t, Hid (tot g 0 len1 = t) := ⟨_, rfl⟩
      obtain ⟨t1, ht1⟩ : ∃ t, Hid (tot g 1 len1 = t) := ⟨_, rfl⟩
      obtain ⟨t2, ht2⟩ : ∃ t, Hid (tot g 2 len1 = t) := ⟨_, rfl⟩
      obtain ⟨t3, ht3⟩ : ∃ t, Hid (tot g 3 len1 = t) := ⟨_, rfl⟩
      obtain ⟨t4, ht4⟩ : ∃ t, Hid (tot g 4 len1 = t) := ⟨_, rfl⟩
      obtain ⟨t5, ht5⟩ : ∃ t, Hid (tot g 5 len1 = t) := ⟨_, rfl⟩
      rw [ht0.out, ht1.out, ht2.out, ht3.out, ht4.out, ht5.out] at hSum HL'
      rw [ht0.out] at t0b
      rw [ht1.out] at t1b
      rw [ht2.out] at t2b
      rw [ht3.out] at t3b
      rw [ht4.out] at t4b
      rw [ht5.out] at t5b
      have HSum := Lib.hid hSum
      clear hSum ht0 ht1 ht2 ht3 ht4 ht5
      go_wp2_with fail
      refine (HSum.out _ (by repeat (first | (with_reducible assumption) | (with_reducible exact RowC.nil) | (with_reducible apply RowC.drewN) | (with_reducible apply RowC.drew) | (with_reducible apply RowC.more) | (with_reducible apply RowC.alloc))) s1 (fun k q hk => (HP.out k hk).1 q)).mono ?_
      rintro e w' ⟨rfl, os3, d3, rfl⟩
      go_wp2_with fail
      have hX : More wz (((((((wz.more os2 d2).alloc (.cells #[.int .i64 s.a.c0, .int .i64 s.a.c1, .int .i64 s.a.c2, .int .i64 s.a.c3, .int .i64 s.a.c4, .int .i64 s.a.c5, .int .i64 s.b.c0, .int .i64 s.b.c1, .int .i64 s.b.c2, .int .i64 s.b.c3, .int .i64 s.b.c4, .int .i64 s.b.c5, .int .i64 s.w0, .int .i64 s.w1] 33))).more os3 d3).alloc (.cells #[.int .i64 t2, .int .i64 t3] 22)).alloc (.cells #[.int .i64 t4, .int .i64 t5] 22)).alloc (.cells #[.int .i64 t0, .int .i64 t1] 22)) := (by repeat (first | (with_reducible assumption) | (with_reducible exact More.refl _) | (with_reducible refine More.alloc ?_ _) | (with_reducible refine More.more ?_ _ _) | (with_reducible refine More.drewN ?_ _) | (with_reducible refine More.drew ?_)))
      have hC1 : Blk (((((((wz.more os2 d2).alloc (.cells #[.int .i64 s.a.c0, .int .i64 s.a.c1, .int .i64 s.a.c2, .int .i64 s.a.c3, .int .i64 s.a.c4, .int .i64 s.a.c5, .int .i64 s.b.c0, .int .i64 s.b.c1, .int .i64 s.b.c2, .int .i64 s.b.c3, .int .i64 s.b.c4, .int .i64 s.b.c5, .int .i64 s.w0, .int .i64 s.w1] 33))).more os3 d3).alloc (.cells #[.int .i64 t2, .int .i64 t3] 22)).alloc (.cells #[.int .i64 t4, .int .i64 t5] 22)).alloc (.cells #[.int .i64 t0, .int .i64 t1] 22)) w.heap.size 24 #[.int .i64 a0_0, .int .i64 a0_1, .int .i64 rate, .int .i64 buf, .int .i64 a0_4] := (by repeat (first | (with_reducible assumption) | ((with_reducible refine Blk.new' ?_); (simp [Nat.add_assoc]; done)) | (with_reducible refine Blk.alloc ?_ _) | (with_reducible refine Blk.more ?_ _ _) | (with_reducible refine Blk.drew ?_) | (with_reducible refine Blk.drewN ?_ _)))
      have hC2 : Blk (((((((wz.more os2 d2).alloc (.cells #[.int .i64 s.a.c0, .int .i64 s.a.c1, .int .i64 s.a.c2, .int .i64 s.a.c3, .int .i64 s.a.c4, .int .i64 s.a.c5, .int .i64 s.b.c0, .int .i64 s.b.c1, .int .i64 s.b.c2, .int .i64 s.b.c3, .int .i64 s.b.c4, .int .i64 s.b.c5, .int .i64 s.w0, .int .i64 s.w1] 33))).more os3 d3).alloc (.cells #[.int .i64 t2, .int .i64 t3] 22)).alloc (.cells #[.int .i64 t4, .int .i64 t5] 22)).alloc (.cells #[.int .i64 t0, .int .i64 t1] 22)) (wz.heap.size + os2.size) 33 #[.int .i64 s.a.c0, .int .i64 s.a.c1, .int .i64 s.a.c2, .int .i64 s.a.c3, .int .i64 s.a.c4, .int .i64 s.a.c5, .int .i64 s.b.c0, .int .i64 s.b.c1, .int .i64 s.b.c2, .int .i64 s.b.c3, .int .i64 s.b.c4, .int .i64 s.b.c5, .int .i64 s.w0, .int .i64 s.w1] := (by repeat (first | (with_reducible assumption) | ((with_reducible refine Blk.new' ?_); (simp [Nat.add_assoc]; done)) | (with_reducible refine Blk.alloc ?_ _) | (with_reducible refine Blk.more ?_ _ _) | (with_reducible refine Blk.drew ?_) | (with_reducible refine Blk.drewN ?_ _)))
      have hC3 : Blk (((((((wz.more os2 d2).alloc (.cells #[.int .i64 s.a.c0, .int .i64 s.a.c1, .int .i64 s.a.c2, .int .i64 s.a.c3, .int .i64 s.a.c4, .int .i64 s.a.c5, .int .i64 s.b.c0, .int .i64 s.b.c1, .int .i64 s.b.c2, .int .i64 s.b.c3, .int .i64 s.b.c4, .int .i64 s.b.c5, .int .i64 s.w0, .int .i64 s.w1] 33))).more os3 d3).alloc (.cells #[.int .i64 t2, .int .i64 t3] 22)).alloc (.cells #[.int .i64 t4, .int .i64 t5] 22)).alloc (.cells #[.int .i64 t0, .int .i64 t1] 22)) (wz.heap.size + (os2.size + (1 + os3.size))) 22 #[.int .i64 t2, .int .i64 t3] := (by repeat (first | (with_reducible assumption) | ((with_reducible refine Blk.new' ?_); (simp [Nat.add_assoc]; done)) | (with_reducible refine Blk.alloc ?_ _) | (with_reducible refine Blk.more ?_ _ _) | (with_reducible refine Blk.drew ?_) | (with_reducible refine Blk.drewN ?_ _)))
      have hC4 : Blk (((((((wz.more os2 d2).alloc (.cells #[.int .i64 s.a.c0, .int .i64 s.a.c1, .int .i64 s.a.c2, .int .i64 s.a.c3, .int .i64 s.a.c4, .int .i64 s.a.c5, .int .i64 s.b.c0, .int .i64 s.b.c1, .int .i64 s.b.c2, .int .i64 s.b.c3, .int .i64 s.b.c4, .int .i64 s.b.c5, .int .i64 s.w0, .int .i64 s.w1] 33))).more os3 d3).alloc (.cells #[.int .i64 t2, .int .i64 t3] 22)).alloc (.cells #[.int .i64 t4, .int .i64 t5] 22)).alloc (.cells #[.int .i64 t0, .int .i64 t1] 22)) (wz.heap.size + (os2.size + (1 + (os3.size + 1)))) 22 #[.int .i64 t4, .int .i64 t5] := (by repeat (first | (with_reducible assumption) | ((with_reducible refine Blk.new' ?_); (simp [Nat.add_assoc]; done)) | (with_reducible refine Blk.alloc ?_ _) | (with_reducible refine Blk.more ?_ _ _) | (with_reducible refine Blk.drew ?_) | (with_reducible refine Blk.drewN ?_ _)))
      have hC5 : Blk (((((((wz.more os2 d2).alloc (.cells #[.int .i64 s.a.c0, .int .i64 s.a.c1, .int .i64 s.a.c2, .int .i64 s.a.c3, .int .i64 s.a.c4, .int .i64 s.a.c5, .int .i64 s.b.c0, .int .i64 s.b.c1, .int .i64 s.b.c2, .int .i64 s.b.c3, .int .i64 s.b.c4, .int .i64 s.b.c5, .int .i64 s.w0, .int .i64 s.w1] 33))).more os3 d3).alloc (.cells #[.int .i64 t2, .int .i64 t3] 22)).alloc (.cells #[.int .i64 t4, .int .i64 t5] 22)).alloc (.cells #[.int .i64 t0, .int .i64 t1] 22)) (wz.heap.size + (os2.size + (1 + (os3.size + 2)))) 22 #[.int .i64 t0, .int .i64 t1] := (by repeat (first | (with_reducible assumption) | ((with_reducible refine Blk.new' ?_); (simp [Nat.add_assoc]; done)) | (with_reducible refine Blk.alloc ?_ _) | (with_reducible refine Blk.more ?_ _ _) | (with_reducible refine Blk.drew ?_) | (with_reducible refine Blk.drewN ?_ _)))
      have hrz : RowC (((((((wz.more os2 d2).alloc (.cells #[.int .i64 s.a.c0, .int .i64 s.a.c1, .int .i64 s.a.c2, .int .i64 s.a.c3, .int .i64 s.a.c4, .int .i64 s.a.c5, .int .i64 s.b.c0, .int .i64 s.b.c1, .int .i64 s.b.c2, .int .i64 s.b.c3, .int .i64 s.b.c4, .int .i64 s.b.c5, .int .i64 s.w0, .int .i64 s.w1] 33))).more os3 d3).alloc (.cells #[.int .i64 t2, .int .i64 t3] 22)).alloc (.cells #[.int .i64 t4, .int .i64 t5] 22)).alloc (.cells #[.int .i64 t0, .int .i64 t1] 22)) 6 ao len1 g := (by repeat (first | (with_reducible assumption) | (with_reducible exact RowC.nil) | (with_reducible apply RowC.drewN) | (with_reducible apply RowC.drew) | (with_reducible apply RowC.more) | (with_reducible apply RowC.alloc)))
      have hX2 : Below w.heap.size w (((((((wz.more os2 d2).alloc (.cells #[.int .i64 s.a.c0, .int .i64 s.a.c1, .int .i64 s.a.c2, .int .i64 s.a.c3, .int .i64 s.a.c4, .int .i64 s.a.c5, .int .i64 s.b.c0, .int .i64 s.b.c1, .int .i64 s.b.c2, .int .i64 s.b.c3, .int .i64 s.b.c4, .int .i64 s.b.c5, .int .i64 s.w0, .int .i64 s.w1] 33))).more os3 d3).alloc (.cells #[.int .i64 t2, .int .i64 t3] 22)).alloc (.cells #[.int .i64 t4, .int .i64 t5] 22)).alloc (.cells #[.int .i64 t0, .int .i64 t1] 22)) := below_then hmb hms hX
      generalize (((((((wz.more os2 d2).alloc (.cells #[.int .i64 s.a.c0, .int .i64 s.a.c1, .int .i64 s.a.c2, .int .i64 s.a.c3, .int .i64 s.a.c4, .int .i64 s.a.c5, .int .i64 s.b.c0, .int .i64 s.b.c1, .int .i64 s.b.c2, .int .i64 s.b.c3, .int .i64 s.b.c4, .int .i64 s.b.c5, .int .i64 s.w0, .int .i64 s.w1] 33))).more os3 d3).alloc (.cells #[.int .i64 t2, .int .i64 t3] 22)).alloc (.cells #[.int .i64 t4, .int .i64 t5] 22)).alloc (.cells #[.int .i64 t0, .int .i64 t1] 22)) = w6 at *
      generalize (wz.heap.size + os2.size) = G2 at *
      generalize (wz.heap.size + (os2.size + (1 + os3.size))) = G3 at *
      generalize (wz.heap.size + (os2.size + (1 + (os3.size + 1)))) = G4 at *
      generalize (wz.heap.size + (os2.size + (1 + (os3.size + 2)))) = G5 at *
      clear hX HSum hb2 hz hB1 hrw
      go_loopw [32] (fun i wr => ∃ (j nd : Nat), i = .int .i64 j ∧ j ≤ 2 ∧ wr = w6.drewN nd) (fun i _ => 2 - (intOf i).toNat)
      case atStart => exact ⟨0, 0, rfl, by omega, rfl⟩
      case round =>
        obtain ⟨j, nd, rfl, hj, rfl⟩ := hrel
        have hl3 := hC3.lt
        have hl4 := hC4.lt
        have hl5 := hC5.lt
        have hl2 := hC2.lt
        obtain rfl | rfl | rfl : j = 0 ∨ j = 1 ∨ j = 2 := by omega
        · have c1 : w6.cell? ⟨G3, 0, none⟩ = some (.int .i64 t2) := hC3.cell 0
          have c2 : w6.cell? ⟨G4, 0, none⟩ = some (.int .i64 t4) := hC4.cell 0
          have c3 : w6.cell? ⟨G5, 0, none⟩ = some (.int .i64 t0) := hC5.cell 0
          have c4 : w6.cell? ⟨G2, 12, none⟩ = some (.int .i64 s.w0) := hC2.cell 12
          have v1 : IntKind.i64.wrap (t2 + t4) = t2 + t4 := IntWalk.i64_in _ (by omega)
          have v2 : IntKind.i64.wrap (t2 + t4 + (s.w0 : Int)) = t2 + t4 + s.w0 := IntWalk.i64_in _ (by omega)
          have v3 : (t0 != t2 + t4 + (s.w0 : Int)) = false := by simpa using HL'.out.1
          go_wp2_with fail
          go_quiet (fail)
          go_wp2_with fail
          go_roundw
          case rel => exact ⟨1, nd + nq, by go_num, by omega, rfl⟩
          case measure => simp [intOf]
        · have c1 : w6.cell? ⟨G3, 1, none⟩ = some (.int .i64 t3) := hC3.cell 1
          have c2 : w6.cell? ⟨G4, 1, none⟩ = some (.int .i64 t5) := hC4.cell 1
          have c3 : w6.cell? ⟨G5, 1, none⟩ = some (.int .i64 t1) := hC5.cell 1
          have c4 : w6.cell? ⟨G2, 13, none⟩ = some (.int .i64 s.w1) := hC2.cell 13
          have v1 : IntKind.i64.wrap (t3 + t5) = t3 + t5 := IntWalk.i64_in _ (by omega)
          have v2 : IntKind.i64.wrap (t3 + t5 + (s.w1 : Int)) = t3 + t5 + s.w1 := IntWalk.i64_in _ (by omega)
          have v3 : (t1 != t3 + t5 + (s.w1 : Int)) = false := by simpa using HL'.out.2
          go_wp2_with fail
          go_quiet (fail)
          go_wp2_with fail
          go_roundw
          case rel => exact ⟨2, nd + nq, by go_num, by omega, rfl⟩
          case measure => simp [intOf]
        · have hrz' : RowC (w6.drewN nd) 6 ao len1 g := hrz
          have hC1' : Blk (w6.drewN nd) w.heap.size 24 #[.int .i64 a0_0, .int .i64 a0_1, .int .i64 rate, .int .i64 buf, .int .i64 a0_4] := hC1
          go_wp2_with fail
          refine (ocontains_no a0_0 a0_1 rate buf a0_4 w.heap.size ao len1 co g _ hrz' hC1' (by omega) (fun k q hk => (HP.out k hk).1 q) (fun k hk => (HP.out k hk).2)).mono ?_
          rintro e w' ⟨rfl, os4, d4, rfl⟩
          go_wp2
          go_ret
          exact ⟨rfl, ((hX2.drewN nd).more (by have := hX2.size; simpa using this) _ _)⟩
    · have HA := Lib.hid hA
      clear hA
      refine (play_any ⟨a0_0, a0_1, rate, buf, a0_4⟩ a1 len1 cap1 f _ hz s1 HR.out HA.out).mono ?_
      rintro e w1 ⟨rfl, os2, d2, rfl⟩
      go_wp2
      go_ret
      exact ⟨rfl, below_then hmb hms (by repeat (first | (with_reducible assumption) | (with_reducible exact More.refl _) | (with_reducible refine More.alloc ?_ _) | (with_reducible refine More.more ?_ _ _) | (with_reducible refine More.drewN ?_ _) | (with_reducible refine More.drew ?_)))⟩
  · obtain ⟨er, HE, hcw⟩ := wrong_er a0_0 a0_1 a0_2 a0_3 a0_4 hK
    have HCW := Lib.hid hcw
    clear hcw hK
    have g1 : (er != 0) = true := by simpa using HE.out
    go_enter Try.func4, Try.ntmps4
    go_wp2_with (go_at_call 6; refine (duel_alive _).mono ?_; rintro e w' ⟨rfl, os0, d0, rfl⟩)
    go_wp2_with fail
    refine (play_w a0_0 a0_1 a0_2 a0_3 a0_4 er a1 len1 cap1 _ HE HCW.out).mono ?_
    rintro e w1 ⟨rfl, os2, d2, rfl⟩
    go_wp2
    go_ret
    exact ⟨rfl, More.below (by repeat (first | (with_reducible assumption) | (with_reducible exact More.refl _) | (with_reducible refine More.alloc ?_ _) | (with_reducible refine More.more ?_ _ _) | (with_reducible refine More.drewN ?_ _) | (with_reducible refine More.drew ?_)))⟩
end Go.Proofs.Ytnlglhfpcoicaab
