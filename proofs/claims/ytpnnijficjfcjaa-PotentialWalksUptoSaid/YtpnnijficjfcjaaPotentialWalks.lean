/- PotentialWalks: for every input whose walk has no more than 1048576 edges the law returns true. Conditions: that. -/
import Derived.Test.YtpnnijficjfcjaaPotentialEither
import Derived.Test.YtpnnijficjfcjaaIsFlat
set_option linter.unusedVariables false
set_option linter.unusedSimpArgs false
namespace Go.Tide
/-- No walk weighs more than the most at its end. -/
theorem walk_most {N : Nat} {f : Nat → Nat → Int} {n : Nat} {x : Nat → Int} (hG : GRight N n f) (hL : (solved f n N).L < 0) : ∀ m, WalkOk n f (m + 1) x → wSum f x (m + 1) ≤ (solved f n N).M (f (x m).toNat 1).toNat := by
  intro m
  induction m with
  | zero =>
    intro h
    have h0 := h 0 (by omega)
    have h1 := solved_still hG hL (x 0).toNat (by omega)
    have h2 := hG.2.2.2 (x 0).toNat (by omega)
    have h3 := solved_mb hG (f (x 0).toNat 0).toNat (by omega)
    show 0 + f (x 0).toNat 2 ≤ _
    omega
  | succ m ih =>
    intro h
    have h0 := h (m + 1) (by omega)
    have h1 := solved_still hG hL (x (m + 1)).toNat (by omega)
    have h2 := ih fun k hk => h k (by omega)
    have h3 := h0.2.2 (by omega)
    rw [Nat.add_sub_cancel] at h3
    rw [h3] at h2
    show wSum f x (m + 1) + f (x (m + 1)).toNat 2 ≤ _
    omega
end Go.Tide
namespace Go.Proofs.Ytpnnijficjfcjaa
open Go.RowKit Go.Tide
set_option linter.unusedVariables false
set_option linter.unusedSimpArgs false
set_option maxRecDepth 20000 in
set_option maxHeartbeats 4000000 in
theorem potentialWalks_walk (a0_0 : Int) (a0_1 : Option Addr) (len0 cap0 : Nat) (z0 : List Int) (a1 : Option Addr) (len1 cap1 : Nat) (z1 : List Int) (w : World) (b0_0 : InI64 a0_0) (f0 : IsFlat w a0_1 len0 cap0 3 z0) (r0 : cap0 * 24 ≤ 140737488351232) (f1 : IsFlat w a1 len1 cap1 1 z1) (r1 : cap1 * 8 ≤ 140737488351232) (s1 : len1 ≤ 1048576) :
    Calls Try.prog 9 #[.agg #[.int .i64 a0_0, .slice a0_1 len0 cap0], .slice a1 len1 cap1] w fun e w' => e = .returned (.bool true) ∧ Below w.heap.size w w' := by
  have hle : len0 ≤ cap0 := by rcases f0 with ⟨_, h1, h2, _⟩ | ⟨_, _, h, _⟩ <;> omega
  have hs := f0.rowC (by omega)
  have hx := f1.row
  generalize (fun k j => z0.getD (k * 3 + j) 0) = f at hs
  generalize (fun k => z1.getD k 0) = x at hx
  clear f0 f1
  by_cases hG : GRight a0_0 len0 f
  · obtain ⟨N, rfl⟩ : ∃ N : Nat, a0_0 = N := ⟨a0_0.toNat, by have := hG.1; omega⟩
    have HG := Lib.hid hG
    have hn := hG.2.2.1
    have hN := hG.2.1
    clear hG
    by_cases hL : (solved f len0 N).L < 0
    · have HL := Lib.hid hL
      clear hL
      by_cases hok : WalkOk len0 f len1 x
      · have HOK := Lib.hid hok
        clear hok
        rcases Nat.eq_zero_or_pos len1 with rfl | hpos
        · go_enter Try.func9, Try.ntmps9
          go_wp2_with (refine (pot_alive_more _).mono ?_; rintro e w' ⟨rfl, os0, d0, rfl⟩)
          refine (most_any N _ len0 _ f _ (by repeat (first | (with_reducible assumption) | (with_reducible exact RowC.nil) | (with_reducible apply RowC.drewN) | (with_reducible apply RowC.drew) | (with_reducible apply RowC.more) | (with_reducible apply RowC.alloc))) HG.out).mono ?_
          rintro e w1 ⟨h1, hb1⟩
          have h1' : ∃ g, e = .returned (.tuple #[.slice (some ⟨g, 0, none⟩) N N, .int .i64 0]) := by
            rcases h1 with ⟨h, _⟩ | ⟨_, g, h, _⟩
            · have := HL.out; omega
            · exact ⟨g, h⟩
          obtain ⟨gm, rfl⟩ := h1'
          obtain ⟨os1, d1, rfl⟩ := More.of_below hb1
          clear h1 hb1
          go_wp2_with fail
          refine (weigh_any N _ len0 _ f _ 0 _ x _ (by repeat (first | (with_reducible assumption) | (with_reducible exact RowC.nil) | (with_reducible apply RowC.drewN) | (with_reducible apply RowC.drew) | (with_reducible apply RowC.more) | (with_reducible apply RowC.alloc))) Row.nil (by omega) HG.out).mono ?_
          rintro e w1 ⟨h4, hb4⟩
          have h4' : e = .returned (.tuple #[.int .i64 0, .int .i64 0]) := by
            rcases h4 with ⟨_, h⟩ | ⟨h, _⟩
            · exact h
            · exact absurd HOK.out h
          subst h4'
          obtain ⟨os4, d4, rfl⟩ := More.of_below hb4
          clear h4 hb4
          go_wp2
          go_ret
          exact ⟨rfl, (More.below (by repeat (first | (with_reducible assumption) | (with_reducible exact More.refl _) | (with_reducible refine More.alloc ?_ _) | (with_reducible refine More.more ?_ _ _) | (with_reducible refine More.drewN ?_ _) | (with_reducible refine More.drew ?_))))⟩
        · obtain ⟨m, rfl⟩ : ∃ m, len1 = m + 1 := ⟨len1 - 1, by omega⟩
          obtain ⟨px, ox, X, rfl, hpx, hcx, hX⟩ := hx.at_ (show m < m + 1 by omega)
          have hxm := HOK.out m (by omega)
          have hwm := walk_most HG.out HL.out m HOK.out
          rw [← hX.out] at hxm hwm
          obtain ⟨J, rfl⟩ : ∃ J : Nat, X = J := ⟨X.toNat, by omega⟩
          have hJ : J < len0 := by omega
          rw [Int.toNat_natCast] at hwm
          obtain ⟨b, off, x0, x1, x2, rfl, hb, hc0, hc1, hc2, e0, e1, e2⟩ := hs.at3 hJ
          have hf := HG.out.2.2.2 J hJ
          rw [← e0.out, ← e1.out, ← e2.out] at hf
          obtain ⟨q1, q2, q3, q4, q5, q6⟩ := hf
          rw [← e1.out] at hwm
          obtain ⟨Y, rfl⟩ : ∃ Y : Nat, x1 = Y := ⟨x1.toNat, by omega⟩
          have hY : Y < N := by omega
          rw [Int.toNat_natCast] at hwm
          have HSm : ∃ s, Hid (wSum f x (m + 1) = s) := ⟨_, rfl⟩
          obtain ⟨s, hsS⟩ := HSm
          rw [hsS.out] at hwm
          clear hxm hb hc0 hc2
          have j0 : (0 : Int) ≤ (J : Int) := by omega
          have j1 : (J : Int) < (len0 : Int) := by omega
          have j2 : (Y : Int) < (N : Int) := by omega
          have i1 : IntKind.i64.wrap ((m : Int) + 1 - 1) = (m : Int) := by rw [IntWalk.i64_in _ (by omega)]; omega
          have i2 : (m : Int) < (m : Int) + 1 := by omega
          have i3 : IntKind.i64.wrap (m : Int) = (m : Int) := IntWalk.i64_in _ (by omega)
          have z1 : ((m : Int) + 1 == 0) = false := by simp; omega
          obtain ⟨u, hu⟩ : ∃ u, Hid ((solved f len0 N).M Y = u) := ⟨_, rfl⟩
          rw [hu.out] at hwm
          have g1 : decide (s ≤ u) = true := by simpa using hwm
          have hbl : b < w.heap.size := by
            obtain ⟨b', off', he, hb', _⟩ := hs (by omega)
            injection he with he
            injection he with e1 e2
            subst e1
            exact hb'
          go_enter Try.func9, Try.ntmps9
          go_wp2_with (refine (pot_alive_more _).mono ?_; rintro e w' ⟨rfl, os0, d0, rfl⟩)
          refine (most_any N _ len0 _ f _ (by repeat (first | (with_reducible assumption) | (with_reducible exact RowC.nil) | (with_reducible apply RowC.drewN) | (with_reducible apply RowC.drew) | (with_reducible apply RowC.more) | (with_reducible apply RowC.alloc))) HG.out).mono ?_
          rintro e w1 ⟨h1, hb1⟩
          have h1' : ∃ g, e = .returned (.tuple #[.slice (some ⟨g, 0, none⟩) N N, .int .i64 0]) ∧ Row w1 (some ⟨g, 0, none⟩) N (solved f len0 N).M := by
            rcases h1 with ⟨h, _⟩ | ⟨_, g, h, _, hr⟩
            · have := HL.out; omega
            · exact ⟨g, h, hr⟩
          obtain ⟨gm, rfl, hm⟩ := h1'
          obtain ⟨os1, d1, rfl⟩ := More.of_below hb1
          clear h1 hb1
          go_wp2_with fail
          refine (weigh_any N _ len0 _ f _ (m + 1) _ x _ (by repeat (first | (with_reducible assumption) | (with_reducible exact RowC.nil) | (with_reducible apply RowC.drewN) | (with_reducible apply RowC.drew) | (with_reducible apply RowC.more) | (with_reducible apply RowC.alloc))) (((hx.alloc _).more os0 d0).more os1 d1) (by omega) HG.out).mono ?_
          rintro e w1 ⟨h4, hb4⟩
          have h4' : e = .returned (.tuple #[.int .i64 s, .int .i64 0]) := by
            rw [← hsS.out]
            rcases h4 with ⟨_, h⟩ | ⟨h, _⟩
            · exact h
            · exact absurd HOK.out h
          subst h4'
          obtain ⟨os4, d4, rfl⟩ := More.of_below hb4
          clear h4 hb4
          obtain ⟨b2, o2, u2, hgx, hlt2, hcu, hu2⟩ := hm.at_ hY
          obtain ⟨rfl, rfl⟩ : gm = b2 ∧ 0 = o2 := by
            injection hgx with hgx
            injection hgx with e1 e2
            exact ⟨e1, e2⟩
          rw [hu2.out, hu.out] at hcu
          simp only [Nat.zero_add] at hcu
          have w1' : ((((w.alloc (.cells #[.int .i64 N, .slice (some ⟨b, off, none⟩) len0 cap0] 37)).more os0 d0).more os1 d1).more os4 d4).cell? ⟨gm, Y, none⟩ = some (.int .i64 u) := (World.cell?_more _ os4 d4 gm Y hlt2).trans hcu
          have k1 := (hx.alloc (.cells #[.int .i64 N, .slice (some ⟨b, off, none⟩) len0 cap0] 37)).more os0 d0
          have w2' : ((((w.alloc (.cells #[.int .i64 N, .slice (some ⟨b, off, none⟩) len0 cap0] 37)).more os0 d0).more os1 d1).more os4 d4).cell? ⟨px, ox + m, none⟩ = some (.int .i64 J) := by
            rw [World.cell?_more _ os4 d4 px _ (by simp; omega), World.cell?_more _ os1 d1 px _ (by simp; omega), World.cell?_more _ os0 d0 px _ (by simp; omega), World.cell?_alloc_past _ _ _ hpx]
            exact hcx
          have w3' : ((((w.alloc (.cells #[.int .i64 N, .slice (some ⟨b, off, none⟩) len0 cap0] 37)).more os0 d0).more os1 d1).more os4 d4).cell? ⟨b, off + (J * 3 + 1), none⟩ = some (.int .i64 Y) := by
            rw [World.cell?_more _ os4 d4 b _ (by simp; omega), World.cell?_more _ os1 d1 b _ (by simp; omega), World.cell?_more _ os0 d0 b _ (by simp; omega), World.cell?_alloc_past _ _ _ hbl]
            exact hc1
          have hM4 : More w ((((w.alloc (.cells #[.int .i64 N, .slice (some ⟨b, off, none⟩) len0 cap0] 37)).more os0 d0).more os1 d1).more os4 d4) := (by repeat (first | (with_reducible assumption) | (with_reducible exact More.refl _) | (with_reducible refine More.alloc ?_ _) | (with_reducible refine More.more ?_ _ _) | (with_reducible refine More.drewN ?_ _) | (with_reducible refine More.drew ?_)))
          have hg9 := (((Blk.new w 37 #[.int .i64 N, .slice (some ⟨b, off, none⟩) len0 cap0]).more os0 d0).more os1 d1).more os4 d4
          have HM4 := Lib.hid hM4
          clear hM4 k1 hcx hc1 hcu hm
          generalize (((w.alloc (.cells #[.int .i64 N, .slice (some ⟨b, off, none⟩) len0 cap0] 37)).more os0 d0).more os1 d1).more os4 d4 = wq at *
          have hg8 := hg9.cell 1
          simp at hg8
          clear hg9
          go_wp2_with fail
          go_quiet (fail)
          go_wp2
          go_ret
          exact ⟨rfl, More.below (HM4.out.drewN _)⟩
      · have HOK := Lib.hid hok
        clear hok
        go_enter Try.func9, Try.ntmps9
        go_wp2_with (refine (pot_alive_more _).mono ?_; rintro e w' ⟨rfl, os0, d0, rfl⟩)
        refine (most_any N _ len0 _ f _ (by repeat (first | (with_reducible assumption) | (with_reducible exact RowC.nil) | (with_reducible apply RowC.drewN) | (with_reducible apply RowC.drew) | (with_reducible apply RowC.more) | (with_reducible apply RowC.alloc))) HG.out).mono ?_
        rintro e w1 ⟨h1, hb1⟩
        have h1' : ∃ g, e = .returned (.tuple #[.slice (some ⟨g, 0, none⟩) N N, .int .i64 0]) := by
          rcases h1 with ⟨h, _⟩ | ⟨_, g, h, _⟩
          · have := HL.out; omega
          · exact ⟨g, h⟩
        obtain ⟨gm, rfl⟩ := h1'
        obtain ⟨os1, d1, rfl⟩ := More.of_below hb1
        clear h1 hb1
        go_wp2_with fail
        refine (weigh_any N _ len0 _ f _ len1 _ x _ (by repeat (first | (with_reducible assumption) | (with_reducible exact RowC.nil) | (with_reducible apply RowC.drewN) | (with_reducible apply RowC.drew) | (with_reducible apply RowC.more) | (with_reducible apply RowC.alloc))) (((hx.alloc _).more os0 d0).more os1 d1) (by omega) HG.out).mono ?_
        rintro e w1 ⟨h4, hb4⟩
        have h4' : e = .returned (.tuple #[.int .i64 0, .int .i64 1]) := by
          rcases h4 with ⟨h, _⟩ | ⟨_, h⟩
          · exact absurd h HOK.out
          · exact h
        subst h4'
        obtain ⟨os4, d4, rfl⟩ := More.of_below hb4
        clear h4 hb4
        go_wp2
        go_ret
        exact ⟨rfl, (More.below (by repeat (first | (with_reducible assumption) | (with_reducible exact More.refl _) | (with_reducible refine More.alloc ?_ _) | (with_reducible refine More.more ?_ _ _) | (with_reducible refine More.drewN ?_ _) | (with_reducible refine More.drew ?_))))⟩
    · have HL : Hid (0 ≤ (solved f len0 N).L) := by show _ ≤ _; omega
      clear hL
      go_enter Try.func9, Try.ntmps9
      go_wp2_with (refine (pot_alive_more _).mono ?_; rintro e w' ⟨rfl, os0, d0, rfl⟩)
      refine (most_any N _ len0 _ f _ (by repeat (first | (with_reducible assumption) | (with_reducible exact RowC.nil) | (with_reducible apply RowC.drewN) | (with_reducible apply RowC.drew) | (with_reducible apply RowC.more) | (with_reducible apply RowC.alloc))) HG.out).mono ?_
      rintro e w1 ⟨h1, hb1⟩
      have h1' : e = .returned (.tuple #[.slice none 0 0, .int .i64 3]) := by
        rcases h1 with ⟨_, h⟩ | ⟨h, _⟩
        · exact h
        · have := HL.out; omega
      subst h1'
      obtain ⟨os1, d1, rfl⟩ := More.of_below hb1
      clear h1 hb1
      go_wp2_with fail
      refine (weigh_any N _ len0 _ f _ len1 _ x _ (by repeat (first | (with_reducible assumption) | (with_reducible exact RowC.nil) | (with_reducible apply RowC.drewN) | (with_reducible apply RowC.drew) | (with_reducible apply RowC.more) | (with_reducible apply RowC.alloc))) (((hx.alloc _).more os0 d0).more os1 d1) (by omega) HG.out).mono ?_
      rintro e w1 ⟨h4, hb4⟩
      have h4' : ∃ p q, e = .returned (.tuple #[.int .i64 p, .int .i64 q]) := by
        rcases h4 with ⟨_, h⟩ | ⟨_, h⟩
        · exact ⟨_, _, h⟩
        · exact ⟨_, _, h⟩
      obtain ⟨p4, q4, rfl⟩ := h4'
      obtain ⟨os4, d4, rfl⟩ := More.of_below hb4
      clear h4 hb4
      go_wp2
      go_ret
      exact ⟨rfl, (More.below (by repeat (first | (with_reducible assumption) | (with_reducible exact More.refl _) | (with_reducible refine More.alloc ?_ _) | (with_reducible refine More.more ?_ _ _) | (with_reducible refine More.drewN ?_ _) | (with_reducible refine More.drew ?_))))⟩
  · have HG := Lib.hid hG
    clear hG
    go_enter Try.func9, Try.ntmps9
    go_wp2_with (refine (pot_alive_more _).mono ?_; rintro e w' ⟨rfl, os0, d0, rfl⟩)
    refine (most_bad _ _ len0 _ f _ (by repeat (first | (with_reducible assumption) | (with_reducible exact RowC.nil) | (with_reducible apply RowC.drewN) | (with_reducible apply RowC.drew) | (with_reducible apply RowC.more) | (with_reducible apply RowC.alloc))) (by omega) HG.out).mono ?_
    rintro e w1 ⟨rfl, hb1⟩
    obtain ⟨os1, d1, rfl⟩ := More.of_below hb1
    clear hb1
    go_wp2_with fail
    refine (weigh_bad _ _ len0 _ f _ _ (by repeat (first | (with_reducible assumption) | (with_reducible exact RowC.nil) | (with_reducible apply RowC.drewN) | (with_reducible apply RowC.drew) | (with_reducible apply RowC.more) | (with_reducible apply RowC.alloc))) (by omega) HG.out).mono ?_
    rintro e w1 ⟨rfl, hb2⟩
    obtain ⟨os2, d2, rfl⟩ := More.of_below hb2
    clear hb2
    go_wp2
    go_ret
    exact ⟨rfl, (More.below (by repeat (first | (with_reducible assumption) | (with_reducible exact More.refl _) | (with_reducible refine More.alloc ?_ _) | (with_reducible refine More.more ?_ _ _) | (with_reducible refine More.drewN ?_ _) | (with_reducible refine More.drew ?_))))⟩
end Go.Proofs.Ytpnnijficjfcjaa
