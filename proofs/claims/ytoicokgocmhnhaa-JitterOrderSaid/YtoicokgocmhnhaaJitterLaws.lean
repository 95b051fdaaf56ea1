/- JitterOrder, JitterTwice, JitterLater: for every input the laws return true. Conditions: none. -/
import Derived.Test.YtoicokgocmhnhaaJitter
import Derived.Test.YtoicokgocmhnhaaSlMax
import Derived.Test.YtoicokgocmhnhaaFilterAlive
import Derived.Laws.MakeOwn
import Derived.Deep.OwnRows
set_option linter.unusedVariables false
set_option linter.unusedSimpArgs false
namespace Go.Tide
theorem JRight.sums {n m : Nat} {f g : Nat → Int} (h : JRight n m f g) : ∀ k, k < n → f k + g k ≤ jPass f g k := by
  intro k _
  rw [jPass_eq]
  omega
theorem jPass_sorted (n : Nat) (f g : Nat → Int) : Sorted n (jPass f g) := by
  intro k _
  show jPass f g k ≤ max (jPass f g k) _
  omega
theorem JRight.upto {n : Nat} {f g : Nat → Int} {M : Int} (h : JRight n n f g) (hM : ∀ k, k < n → g k ≤ M) : ∀ k, k < n → jPass f g k ≤ f k + M := by
  obtain ⟨_, h1, h2, h3⟩ := h
  intro k
  induction k with
  | zero => intro hk; have := h1 0 hk; have := h2 0 hk; have := hM 0 hk; simp only [jPass]; omega
  | succ k ih =>
    intro hk
    have := ih (by omega)
    have := h3 k hk
    have := hM (k + 1) hk
    simp only [jPass]
    omega
theorem jPass_still {n : Nat} {f g : Nat → Int} (h1 : AllIn n f 0 1099511627776) (h3 : Sorted n f) (hg : ∀ k, k < n → g k = 0) : ∀ k, k < n → jPass f g k = f k := by
  intro k
  induction k with
  | zero => intro hk; have := h1 0 hk; have := hg 0 hk; simp only [jPass]; omega
  | succ k ih =>
    intro hk
    have := ih (by omega)
    have := h3 k hk
    have := hg (k + 1) hk
    simp only [jPass]
    omega
theorem jPass_later {n : Nat} {f f' g : Nat → Int} {by_ : Int} (h1 : AllIn n f 0 1099511627776) (h2 : AllIn n g 0 1099511627776) (hb : 0 ≤ by_) (hf : ∀ k, k < n → f' k = f k + by_) : ∀ k, k < n → jPass f' g k = jPass f g k + by_ := by
  intro k
  induction k with
  | zero => intro hk; have := h1 0 hk; have := h2 0 hk; have := hf 0 hk; simp only [jPass]; omega
  | succ k ih =>
    intro hk
    have := ih (by omega)
    have := hf (k + 1) hk
    simp only [jPass]
    omega
theorem jPass_bounds {n : Nat} {f g : Nat → Int} (hf : AllIn n f 0 1099511627776) (hg : AllIn n g 0 1099511627776) : AllIn n (jPass f g) 0 2199023255552 := fun k hk => jLast_bounds hf hg (k + 1) hk
theorem AllIn.wide {n : Nat} {f : Nat → Int} {lo hi lo' hi' : Int} (h : AllIn n f lo hi) (h1 : lo' ≤ lo) (h2 : hi ≤ hi') : AllIn n f lo' hi' := fun k hk => by have := h k hk; omega
end Go.Tide
namespace Go.Proofs.Ytoicokgocmhnhaa
open Go.RowKit Go.Tide
set_option linter.unusedVariables false
set_option linter.unusedSimpArgs false

theorem alive9_right : JRight 3 3 (fun k => [1, 2, 9].getD k 0) (fun k => [5, 0, 1].getD k 0) := by
  refine ⟨rfl, ?_, ?_, ?_⟩
  · show ∀ k, k < 3 → _; decide +kernel
  · show ∀ k, k < 3 → _; decide +kernel
  · intro k hk
    have : k = 0 ∨ k = 1 := by omega
    rcases this with rfl | rfl <;> decide
theorem alive9_one : EqRows 3 3 (jPass (fun k => [1, 2, 9].getD k 0) (fun k => [5, 0, 1].getD k 0)) (fun k => [6, 6, 10].getD k 0) := ⟨rfl, by decide +kernel⟩
theorem alive9_two : EqRows 3 3 (fun k => jPass (fun k => [1, 2, 9].getD k 0) (fun k => [5, 0, 1].getD k 0) k - (fun k => [1, 2, 9].getD k 0) k) (fun k => [5, 4, 1].getD k 0) := ⟨rfl, by decide +kernel⟩
theorem alive9_three : jRight 2 2 (fun k => [2, 1].getD k 0) (fun k => [0, 0].getD k 0) = false := by
  rw [← Bool.not_eq_true, jRight_iff]
  rintro ⟨_, _, _, h⟩
  have := h 0 (by omega)
  simp at this

theorem alive9_f : AllIn 3 (fun k => [1, 2, 9].getD k 0) (-2305843009213693952) 2305843009213693952 := by show ∀ k, k < 3 → _; decide +kernel
theorem alive9_g : AllIn 3 (jPass (fun k => [1, 2, 9].getD k 0) (fun k => [5, 0, 1].getD k 0)) (-2305843009213693952) 2305843009213693952 := by show ∀ k, k < 3 → _; decide +kernel

set_option maxHeartbeats 1000000 in
theorem jitter_alive (w : World) : Calls Try.prog 20 #[] w fun e w' => e = .returned (.bool true) ∧ More w w' := by
  go_enter Try.func20, Try.ntmps20
  go_wp2_with fail
  refine (jpass_any _ _ 3 _ _ (fun k => [1, 2, 9].getD k 0) (fun k => [5, 0, 1].getD k 0) _ ((Row.lit' [1, 2, 9] (by simp [Nat.add_assoc]) (by rfl) (by rfl)).alloc _) (Row.lit' [5, 0, 1] (by simp [Nat.add_assoc]) (by rfl) (by rfl)) (by omega) alive9_right).mono ?_
  rintro e w1 ⟨a1, c1, rfl, hc1, hr1, hb1⟩
  obtain ⟨os1, d1, rfl⟩ := More.of_below hb1
  go_wp2_with fail
  refine (equal_any _ _ 3 3 _ _ _ (fun k => [6, 6, 10].getD k 0) _ (hr1.alloc _) (Row.lit' [6, 6, 10] (by simp [Nat.add_assoc]) (by rfl) (by rfl)) (by omega) (by omega)).mono ?_
  rintro e w2 ⟨rfl, os2, d2, rfl⟩
  have e1 := eqRows_true alive9_one
  go_wp2_with fail
  refine (jdelays_any _ _ 3 3 _ _ (fun k => [1, 2, 9].getD k 0) _ _ (Row.lit' [1, 2, 9] (by simp [Nat.add_assoc]) (by rfl) (by rfl)) (((hr1.alloc _).more _ _).alloc _) (by omega) (by omega) alive9_f alive9_g).mono ?_
  rintro e w3 ⟨a3, c3, rfl, hc3, hr3, hb3⟩
  obtain ⟨os3, d3, rfl⟩ := More.of_below hb3
  rw [show min 3 3 = 3 from rfl] at *
  go_wp2_with fail
  refine (equal_any _ _ 3 3 _ _ _ (fun k => [5, 4, 1].getD k 0) _ (hr3.alloc _) (Row.lit' [5, 4, 1] (by simp [Nat.add_assoc]) (by rfl) (by rfl)) (by omega) (by omega)).mono ?_
  rintro e w4 ⟨rfl, os4, d4, rfl⟩
  have e2 := eqRows_true alive9_two
  go_wp2_with fail
  refine (jright_any _ _ 2 2 _ _ (fun k => [2, 1].getD k 0) (fun k => [0, 0].getD k 0) _ ((Row.lit' [2, 1] (by simp [Nat.add_assoc]) (by rfl) (by rfl)).alloc _) (Row.lit' [0, 0] (by simp [Nat.add_assoc]) (by rfl) (by rfl)) (by omega) (by omega)).mono ?_
  rintro e w5 ⟨rfl, os5, d5, rfl⟩
  go_wp2
  go_ret
  exact ⟨ret_bool (congrArg (fun b => !b) alive9_three), (by repeat (first | (with_reducible exact More.refl _) | (with_reducible refine More.alloc ?_ _) | (with_reducible refine More.more ?_ _ _) | (with_reducible refine More.drewN ?_ _) | (with_reducible refine More.drew ?_)))⟩

set_option maxHeartbeats 1000000 in
theorem jitterOrder_walk (a0 : Option Addr) (len0 cap0 : Nat) (z0 : List Int) (a1 : Option Addr) (len1 cap1 : Nat) (z1 : List Int) (w : World) (f0 : IsFlat w a0 len0 cap0 1 z0) (r0 : cap0 * 8 ≤ 140737488351232) (f1 : IsFlat w a1 len1 cap1 1 z1) (r1 : cap1 * 8 ≤ 140737488351232) :
    Calls Try.prog 10 #[.slice a0 len0 cap0, .slice a1 len1 cap1] w fun e w' => e = .returned (.bool true) ∧ Below w.heap.size w w' := by
  have hle := f0.le
  have hle1 := f1.le
  have hf := f0.row
  have hg := f1.row
  generalize (fun k => z0.getD k 0) = f at hf
  generalize (fun k => z1.getD k 0) = g at hg
  clear f0 f1
  by_cases hr : jRight len0 len1 f g = true
  · have hR := jRight_iff.1 hr
    obtain ⟨hn, h1, h2, h3⟩ := jRight_iff.1 hr
    subst hn
    have HR := Lib.hid hR
    have HS := Lib.hid (sorted_true (jPass_sorted len0 f g))
    have H1 := Lib.hid (AllIn.wide (lo' := -2305843009213693952) (hi' := 2305843009213693952) h1 (by omega) (by omega))
    have H2 := Lib.hid (AllIn.wide (lo' := -2305843009213693952) (hi' := 2305843009213693952) (jPass_bounds h1 h2) (by omega) (by omega))
    clear hR h1 h2 h3
    go_enter Try.func10, Try.ntmps10
    go_wp2_with (go_at_call 20; refine (jitter_alive _).mono ?_; rintro e w' ⟨rfl, os, dr, rfl⟩)
    refine (jpass_any a0 a1 len0 cap0 cap1 f g _ (hf.more _ _) (hg.more _ _) (by omega) HR.out).mono ?_
    rintro e w1 ⟨ap, cp, rfl, hcp, hrp, hb1⟩
    have hb0 := ((Below.refl w.heap.size w).more (Nat.le_refl _) os dr).trans (hb1.mono (by simp))
    generalize w.more os dr = w0 at *
    have hf1 := hf.below hb0 (Nat.le_refl _)
    have hg1 := hg.below hb0 (Nat.le_refl _)
    go_wp2_with fail
    refine (jright_any a0 a1 len0 len0 cap0 cap1 f g _ hf1 hg1 (by omega) (by omega)).mono ?_
    rintro e w2 ⟨rfl, os2, d2, rfl⟩
    go_wp2_with fail
    refine (issorted_any ap len0 cp _ _ (hrp.more _ _) (by omega)).mono ?_
    rintro e w2 ⟨rfl, os3, d3, rfl⟩
    have hs' := HS.out
    go_wp2_with fail
    refine (jdelays_any a0 ap len0 len0 cap0 cp f _ _ ((hf1.more _ _).more _ _) ((hrp.more _ _).more _ _) (by omega) (by omega) H1.out H2.out).mono ?_
    rintro e w3 ⟨ad, cd, rfl, hcd, hrd, hb3⟩
    have hb4 : Below w.heap.size w w3 := hb0.trans ((((Below.refl w.heap.size w1).more hb0.size os2 d2).more (by have := hb0.size; simp; omega) os3 d3).trans (hb3.mono (by have := hb0.size; simp; omega)))
    have hg4 := hg.below hb4 (Nat.le_refl _)
    rw [Nat.min_self] at *
    go_wp2
    go_loop [34] (fun i => ∃ k : Nat, i = .int .i64 k ∧ k ≤ len0) (fun i => len0 - (intOf i).toNat)
    case atStart => exact ⟨0, rfl, Nat.zero_le _⟩
    case round =>
      obtain ⟨k, rfl, hk⟩ := hrel
      by_cases hlt : k < len0
      · obtain ⟨b5, o5, x, rfl, hb5, hc5, hx⟩ := hrd.at_ hlt
        obtain ⟨b6, o6, y, rfl, hb6, hc6, hy⟩ := hg4.at_ hlt
        have hxy : y ≤ x := by
          have := HR.out.sums k hlt
          rw [hx.out, hy.out]
          omega
        have HU : Hid (∀ m, IsMax len0 g m → x ≤ m) := by
          intro m hm
          have := HR.out.upto hm.2 k hlt
          rw [hx.out]
          omega
        go_wp2_with (go_at_call 26; refine (max_any _ len0 _ g _ hg4 (by omega) (by omega)).mono ?_; rintro e w' ⟨m, rfl, hm, rfl⟩; have hxm := HU.out m hm; clear hm)
        go_round
        case rel => exact ⟨k + 1, by go_num, by omega⟩
        case measure => simp [intOf]; omega
      · go_wp2
        go_ret
        exact ⟨rfl, hb4⟩
  · have hr' : jRight len0 len1 f g = false := by simpa using hr
    clear hr
    go_enter Try.func10, Try.ntmps10
    go_wp2_with (first
      | (go_at_call 20; refine (jitter_alive _).mono ?_; rintro e w' ⟨rfl, os, dr, rfl⟩)
      | (go_at_call 21; refine (jpass_none a0 a1 len0 len1 cap0 cap1 f g _ (hf.more _ _) (hg.more _ _) (by omega) (by omega) hr').mono ?_; rintro e w' ⟨rfl, os1, dr1, rfl⟩)
      | (go_at_call 22; refine (jright_any a0 a1 len0 len1 cap0 cap1 f g _ ((hf.more _ _).more _ _) ((hg.more _ _).more _ _) (by omega) (by omega)).mono ?_; rintro e w' ⟨rfl, os2, dr2, rfl⟩))
    go_ret
    exact ⟨rfl, More.below (by repeat (first | (with_reducible exact More.refl _) | (with_reducible refine More.alloc ?_ _) | (with_reducible refine More.more ?_ _ _) | (with_reducible refine More.drewN ?_ _) | (with_reducible refine More.drew ?_)))⟩

theorem Row.made (w : World) (n : Nat) (t : TypeId) {g : Nat} (hg : g = w.heap.size) : Row (w.alloc (.cells (madeCells #[.int .i64 0] n) t)) (some ⟨g, 0, none⟩) n (fun _ => 0) := by
  subst hg
  intro _
  refine ⟨_, _, rfl, by simp, fun k hk => ?_⟩
  rw [World.cell?_alloc_at _ _ _ _ rfl]
  simp [madeCells, hk, Nat.mod_one]

set_option maxHeartbeats 2000000 in
theorem jitterTwice_walk (a0 : Option Addr) (len0 cap0 : Nat) (z0 : List Int) (a1 : Option Addr) (len1 cap1 : Nat) (z1 : List Int) (a2 : Option Addr) (len2 cap2 : Nat) (z2 : List Int) (w : World) (f0 : IsFlat w a0 len0 cap0 1 z0) (r0 : cap0 * 8 ≤ 140737488351232) (f1 : IsFlat w a1 len1 cap1 1 z1) (r1 : cap1 * 8 ≤ 140737488351232) (f2 : IsFlat w a2 len2 cap2 1 z2) (r2 : cap2 * 8 ≤ 140737488351232) :
    Calls Try.prog 8 #[.slice a0 len0 cap0, .slice a1 len1 cap1, .slice a2 len2 cap2] w fun e w' => e = .returned (.bool true) ∧ Below w.heap.size w w' := by
  have hle := f0.le
  have hle1 := f1.le
  have hle2 := f2.le
  have hf := f0.row
  have hg := f1.row
  have hh := f2.row
  generalize (fun k => z0.getD k 0) = f at hf
  generalize (fun k => z1.getD k 0) = g at hg
  generalize (fun k => z2.getD k 0) = h at hh
  clear f0 f1 f2
  by_cases hr : jRight len0 len1 f g = true
  · have hR := jRight_iff.1 hr
    obtain ⟨hn, h1, h2, h3⟩ := jRight_iff.1 hr
    subst hn
    have HR := Lib.hid hR
    have HT := Lib.hid (jPass_bounds h1 h2)
    have HP := Lib.hid (jPass_sorted len0 f g)
    clear hR h1 h2 h3
    go_enter Try.func8, Try.ntmps8
    go_wp2_with (go_at_call 20; refine (jitter_alive _).mono ?_; rintro e w' ⟨rfl, os, dr, rfl⟩)
    refine (jpass_any a0 a1 len0 cap0 cap1 f g _ (hf.more _ _) (hg.more _ _) (by omega) HR.out).mono ?_
    rintro e w1 ⟨ap, cp, rfl, hcp, hrp, hb1⟩
    have hb0 := ((Below.refl w.heap.size w).more (Nat.le_refl _) os dr).trans (hb1.mono (by simp))
    generalize w.more os dr = w0 at *
    have hf1 := hf.below hb0 (Nat.le_refl _)
    have hg1 := hg.below hb0 (Nat.le_refl _)
    have hh1 := hh.below hb0 (Nat.le_refl _)
    by_cases hr2 : jRight len0 len2 (jPass f g) h = true
    · have hR2 := jRight_iff.1 hr2
      obtain ⟨hn2, h4, h5, h6⟩ := jRight_iff.1 hr2
      subst hn2
      have HR2 := Lib.hid hR2
      have HZ : Hid (JRight len0 len0 (jPass f g) (fun _ => 0)) := ⟨rfl, h4, fun _ _ => ⟨by show (0 : Int) ≤ 0; omega, by show (0 : Int) ≤ _; omega⟩, h6⟩
      have HE := Lib.hid (eqRows_true (n := len0) (m := len0) ⟨rfl, jPass_still (g := fun _ => 0) h4 h6 (fun _ _ => rfl)⟩)
      clear hR2 h4 h5 h6
      go_wp2_with fail
      refine (jpass_any ap a2 len0 cp cap2 _ h _ hrp hh1 (by omega) HR2.out).mono ?_
      rintro e w2 ⟨aq, cq, rfl, hcq, hrq, hb2⟩
      have hf2 := hf1.below hb2 (Nat.le_refl _)
      have hg2 := hg1.below hb2 (Nat.le_refl _)
      have hh2 := hh1.below hb2 (Nat.le_refl _)
      have hp2 := hrp.below hb2 (Nat.le_refl _)
      have hb3 := hb0.trans (hb2.mono hb0.size)
      go_wp2_with fail
      refine (jright_any a0 a1 len0 len0 cap0 cap1 f g _ hf2 hg2 (by omega) (by omega)).mono ?_
      rintro e w3 ⟨rfl, os2, d2, rfl⟩
      go_wp2_with fail
      refine (jright_any ap a2 len0 len0 cp cap2 _ h _ (hp2.more _ _) (hh2.more _ _) (by omega) (by omega)).mono ?_
      rintro e w3 ⟨rfl, os3, d3, rfl⟩
      have hmk := fun W => run_make_row' (P := Try.prog) 22 3 (.int .i64 0) 8 Try.underlying22 intInfo rfl .i64 .i64 len0 (by omega) (by omega) W
      go_wp2_with fail
      refine (jpass_any ap _ len0 cp len0 _ (fun _ => 0) _ (((hp2.more _ _).more _ _).alloc _) (Row.made _ _ _ (by simp [Nat.add_assoc])) (by omega) HZ.out).mono ?_
      rintro e w4 ⟨az, cz, rfl, hcz, hrz, hb4⟩
      have hp4 := (((hp2.more os2 d2).more os3 d3).alloc (.cells (madeCells #[.int .i64 0] len0) 3)).below hb4 (Nat.le_refl _)
      have hf4 := (((hf2.more os2 d2).more os3 d3).alloc (.cells (madeCells #[.int .i64 0] len0) 3)).below hb4 (Nat.le_refl _)
      have hg4 := (((hg2.more os2 d2).more os3 d3).alloc (.cells (madeCells #[.int .i64 0] len0) 3)).below hb4 (Nat.le_refl _)
      have hh4 := (((hh2.more os2 d2).more os3 d3).alloc (.cells (madeCells #[.int .i64 0] len0) 3)).below hb4 (Nat.le_refl _)
      have hq4 := (((hrq.more os2 d2).more os3 d3).alloc (.cells (madeCells #[.int .i64 0] len0) 3)).below hb4 (Nat.le_refl _)
      have hb5 : Below w.heap.size w w4 := ((((hb3.more hb3.size os2 d2).more (by have := hb3.size; simp; omega) os3 d3).alloc (by have := hb3.size; simp; omega) (.cells (madeCells #[.int .i64 0] len0) 3))).trans (hb4.mono (by have := hb3.size; simp; omega))
      clear hmk
      go_wp2_with fail
      refine (equal_any az ap len0 len0 cz cp _ _ _ hrz hp4 (by omega) (by omega)).mono ?_
      rintro e w5 ⟨rfl, os5, d5, rfl⟩
      have he := HE.out
      have hb6 := hb5.more hb5.size os5 d5
      have hf6 := hf4.more os5 d5
      have hg6 := hg4.more os5 d5
      have hh6 := hh4.more os5 d5
      have hq6 := hq4.more os5 d5
      generalize w4.more os5 d5 = w6 at *
      go_wp2
      go_loopw [45] (fun i wr => ∃ (k d : Nat), i = .int .i64 k ∧ k ≤ len0 ∧ wr = w6.drewN d) (fun i _ => len0 - (intOf i).toNat)
      case atStart => exact ⟨0, 0, rfl, Nat.zero_le _, rfl⟩
      case round =>
        obtain ⟨k, d, rfl, hk, rfl⟩ := hrel
        by_cases hlt : k < len0
        · obtain ⟨bf, of, x, rfl, hbf, hcf, hx⟩ := hf6.at_ hlt
          obtain ⟨bg, og, y, rfl, hbg, hcg, hy⟩ := hg6.at_ hlt
          obtain ⟨bh, oh, z, rfl, hbh, hch, hz⟩ := hh6.at_ hlt
          obtain ⟨bq, oq, v, rfl, hbq, hcq2, hv⟩ := hq6.at_ hlt
          have hx1 : 0 ≤ x ∧ x ≤ 1099511627776 := by rw [hx.out]; exact HR.out.2.1 k hlt
          have hy1 : 0 ≤ y ∧ y ≤ 1099511627776 := by rw [hy.out]; exact HR.out.2.2.1 k hlt
          have hz1 : 0 ≤ z ∧ z ≤ 1099511627776 := by rw [hz.out]; exact HR2.out.2.2.1 k hlt
          have hsum : x + y + z ≤ v := by
            have h1 := HR.out.sums k hlt
            have h2 := HR2.out.sums k hlt
            rw [hx.out, hy.out, hz.out, hv.out]
            omega
          have w1 : IntKind.i64.wrap (x + y) = x + y := IntWalk.i64_in _ (by omega)
          have w2 : IntKind.i64.wrap (x + y + z) = x + y + z := IntWalk.i64_in _ (by omega)
          go_wp2
          go_quiet (fail)
          go_wp2
          go_roundw
          case rel => exact ⟨k + 1, _, by go_num, by omega, rfl⟩
          case measure => simp [intOf]; omega
        · go_wp2
          go_ret
          exact ⟨rfl, hb6.drewN _⟩
    · have hr3 : jRight len0 len2 (jPass f g) h = false := by simpa using hr2
      clear hr2
      go_wp2_with fail
      refine (jpass_none ap a2 len0 len2 cp cap2 _ h _ hrp hh1 (by omega) (by omega) hr3).mono ?_
      rintro e w2 ⟨rfl, os2, d2, rfl⟩
      go_wp2_with fail
      refine (jright_any a0 a1 len0 len0 cap0 cap1 f g _ (hf1.more _ _) (hg1.more _ _) (by omega) (by omega)).mono ?_
      rintro e w3 ⟨rfl, os3, d3, rfl⟩
      go_wp2_with fail
      refine (jright_any ap a2 len0 len2 cp cap2 _ h _ ((hrp.more _ _).more _ _) ((hh1.more _ _).more _ _) (by omega) (by omega)).mono ?_
      rintro e w3 ⟨rfl, os4, d4, rfl⟩
      go_wp2
      go_ret
      exact ⟨rfl, ((hb0.more hb0.size os2 d2).more (by have := hb0.size; simp; omega) os3 d3).more (by have := hb0.size; simp; omega) os4 d4⟩
  · have hr' : jRight len0 len1 f g = false := by simpa using hr
    clear hr
    go_enter Try.func8, Try.ntmps8
    go_wp2_with (go_at_call 20; refine (jitter_alive _).mono ?_; rintro e w' ⟨rfl, os, dr, rfl⟩)
    refine (jpass_none a0 a1 len0 len1 cap0 cap1 f g _ (hf.more _ _) (hg.more _ _) (by omega) (by omega) hr').mono ?_
    rintro e w1 ⟨rfl, os1, d1, rfl⟩
    go_wp2_with fail
    by_cases hr2 : jRight 0 len2 (fun _ => 0) h = true
    · have h2 := jRight_iff.1 hr2
      obtain ⟨hn, _⟩ := jRight_iff.1 hr2
      subst hn
      refine (jpass_any none a2 0 0 cap2 (fun _ => 0) h _ Row.nil ((hh.more _ _).more _ _) (by omega) h2).mono ?_
      rintro e w2 ⟨aq, cq, rfl, hcq, hrq, hb2⟩
      have hb3 : Below w.heap.size w w2 := ((((Below.refl w.heap.size w).more (Nat.le_refl _) os dr).more (by simp) os1 d1)).trans (hb2.mono (by simp; omega))
      have hf2 := ((hf.more os dr).more os1 d1).below hb2 (Nat.le_refl _)
      have hg2 := ((hg.more os dr).more os1 d1).below hb2 (Nat.le_refl _)
      go_wp2_with (go_at_call 22; refine (jright_any a0 a1 len0 len1 cap0 cap1 f g _ hf2 hg2 (by omega) (by omega)).mono ?_; rintro e w' ⟨rfl, os3, d3, rfl⟩)
      go_ret
      exact ⟨rfl, hb3.more hb3.size _ _⟩
    · refine (jpass_none none a2 0 len2 0 cap2 (fun _ => 0) h _ Row.nil ((hh.more _ _).more _ _) (by omega) (by omega) (by simpa using hr2)).mono ?_
      rintro e w2 ⟨rfl, os2, d2, rfl⟩
      go_wp2_with (go_at_call 22; refine (jright_any a0 a1 len0 len1 cap0 cap1 f g _ (((hf.more _ _).more _ _).more _ _) (((hg.more _ _).more _ _).more _ _) (by omega) (by omega)).mono ?_; rintro e w' ⟨rfl, os3, d3, rfl⟩)
      go_ret
      exact ⟨rfl, More.below (by repeat (first | (with_reducible exact More.refl _) | (with_reducible refine More.alloc ?_ _) | (with_reducible refine More.more ?_ _ _) | (with_reducible refine More.drewN ?_ _) | (with_reducible refine More.drew ?_)))⟩

theorem mv_eq {len0 : Nat} {f : Nat → Int} {a2 : Int} (h1 : AllIn len0 f 0 1099511627776) (h0 : 0 ≤ a2) (h2 : a2 ≤ 549755813888) : ∀ k, k < len0 → wrap64 (f k + a2) = f k + a2 := by
  intro k hk
  have := h1 k hk
  exact IntWalk.wrap64_in _ (by omega)

set_option maxHeartbeats 2000000 in
theorem jitterLater_walk (a0 : Option Addr) (len0 cap0 : Nat) (z0 : List Int) (a1 : Option Addr) (len1 cap1 : Nat) (z1 : List Int) (a2 : Int) (w : World) (f0 : IsFlat w a0 len0 cap0 1 z0) (r0 : cap0 * 8 ≤ 140737488351232) (f1 : IsFlat w a1 len1 cap1 1 z1) (r1 : cap1 * 8 ≤ 140737488351232) (b2 : InI64 a2) :
    Calls Try.prog 9 #[.slice a0 len0 cap0, .slice a1 len1 cap1, .int .i64 a2] w fun e w' => e = .returned (.bool true) ∧ Below w.heap.size w w' := by
  have hle := f0.le
  have hle1 := f1.le
  have hf := f0.row
  have hg := f1.row
  generalize (fun k => z0.getD k 0) = f at hf
  generalize (fun k => z1.getD k 0) = g at hg
  clear f0 f1
  obtain ⟨i0, hi, hz0, hz1, hz2⟩ := info_parts intInfo
  go_enter Try.func9, Try.ntmps9
  go_wp2_with (go_at_call 20; refine (jitter_alive _).mono ?_; rintro e w' ⟨rfl, os, n, rfl⟩)
  have hb0 := (Below.refl w.heap.size w).more (Nat.le_refl _) os n
  generalize w.more os n = w0 at *
  go_loopw [7, 17] (fun out i wr => ∃ k : Nat, i = .int .i64 k ∧ k ≤ len0 ∧ wr.ownsRow w0.heap.size 3 1 out k (cellsOf k (fun k => wrap64 (f k + a2))) ∧ Below w0.heap.size w0 wr) (fun _ i _ => len0 - (intOf i).toNat)
  case atStart => exact ⟨0, rfl, Nat.zero_le _, World.ownsRow_nil _ _ _ _, Below.refl _ _⟩
  case round =>
    rename_i out _ _
    obtain ⟨k, rfl, hk, hown, hbe⟩ := hrel
    have hsz := hbe.size
    by_cases hlt : k < len0
    · obtain ⟨b, off, xv, rfl, hb, hc, hx⟩ := ((hf.below hb0 (Nat.le_refl _)).below hbe (Nat.le_refl _)).at_ hlt
      go_wp2_with (at_builtin; refine wpList_append_own _ rfl _ _ 22 rfl _ 3 i0 (.int .i64 0) 1 8 Try.underlying22 hi hz0 hz1 hz2 rfl (by decide) _ _ _ rfl (hown.alloc _) _ _ _ [.int .i64 _] rfl rfl (cell_one _ _ _) (oneCell_int _ _) (by simp only [maxLen]; omega) (by omega) (by simp; omega) ?_; intro v' w1 hown' hgrow hnil; clear hnil)
      go_roundw
      case rel =>
        refine ⟨k + 1, by go_num, by omega, ?_, below_append hbe hsz hown hgrow⟩
        rw [cellsOf_succ, ← hx.out]
        exact hown'
      case measure => simp [intOf]; omega
    · obtain rfl : k = len0 := by omega
      obtain ⟨am, cm, hv, hcm⟩ := own_slice hown
      subst hv
      have hm := Row.of_own hown
      have hf1 := (hf.below hb0 (Nat.le_refl _)).below hbe (Nat.le_refl _)
      have hg1 := (hg.below hb0 (Nat.le_refl _)).below hbe (Nat.le_refl _)
      have hbt := hb0.trans (hbe.mono hb0.size)
      clear hown hf hg hbe
      by_cases hby : 0 ≤ a2 ∧ a2 ≤ 549755813888
      · obtain ⟨hy0, hy1⟩ := hby
        go_wp2_with fail
        refine (jright_any a0 a1 k len1 cap0 cap1 f g _ hf1 hg1 (by omega) (by omega)).mono ?_
        rintro e w2 ⟨rfl, os2, d2, rfl⟩
        by_cases hr : jRight k len1 f g = true
        · have hR := jRight_iff.1 hr
          obtain ⟨hn, h1, h2, h3⟩ := jRight_iff.1 hr
          subst hn
          have HL := Lib.hid (jPass_later (f' := fun k => wrap64 (f k + a2)) h1 h2 hy0 (mv_eq h1 hy0 hy1))
          have HB := Lib.hid (jPass_bounds h1 h2)
          have HR := Lib.hid hR
          clear hR h1 h2 h3
          go_wp2_with fail
          refine (jright_any am a1 k k cm cap1 _ g _ (hm.more _ _) (hg1.more _ _) (by omega) (by omega)).mono ?_
          rintro e w3 ⟨rfl, os3, d3, rfl⟩
          by_cases hr2 : jRight k k (fun k => wrap64 (f k + a2)) g = true
          · have HR2 := Lib.hid (jRight_iff.1 hr2)
            go_wp2_with fail
            refine (jpass_any a0 a1 k cap0 cap1 f g _ ((hf1.more _ _).more _ _) ((hg1.more _ _).more _ _) (by omega) HR.out).mono ?_
            rintro e w4 ⟨ap, cp, rfl, hcp, hrp, hb4⟩
            go_wp2_with fail
            refine (jpass_any am a1 k cm cap1 _ g _ ((((hm.more _ _).more _ _)).below hb4 (Nat.le_refl _)) ((((hg1.more _ _).more _ _)).below hb4 (Nat.le_refl _)) (by omega) HR2.out).mono ?_
            rintro e w5 ⟨aq, cq, rfl, hcq, hrq, hb5⟩
            have hrp5 := hrp.below hb5 (Nat.le_refl _)
            have hb6 : Below w.heap.size w w5 := ((hbt.more hbt.size os2 d2).more (by have := hbt.size; simp; omega) os3 d3).trans ((hb4.mono (by have := hbt.size; simp; omega)).trans (hb5.mono (by have := hbt.size; have := hb4.size; simp at this ⊢; omega)))
            go_wp2_with fail
            go_loopw [54] (fun i wr => ∃ (j d : Nat), i = .int .i64 j ∧ j ≤ k ∧ wr = w5.drewN d) (fun i _ => k - (intOf i).toNat)
            case atStart => exact ⟨0, 0, rfl, Nat.zero_le _, rfl⟩
            case round =>
              obtain ⟨j, d, rfl, hj, rfl⟩ := hrel
              by_cases hlt2 : j < k
              · obtain ⟨b4, o4, xs, rfl, hb4', hc4, hx4⟩ := hrp5.at_ hlt2
                obtain ⟨b5, o5, xt, rfl, hb5', hc5, hx5⟩ := hrq.at_ hlt2
                have hle3 : xt = xs + a2 ∧ 0 ≤ xs ∧ xs ≤ 2199023255552 := by
                  rw [hx4.out, hx5.out]
                  exact ⟨HL.out j hlt2, HB.out j hlt2⟩
                obtain ⟨rfl, hs0, hs1⟩ := hle3
                have w1 : IntKind.i64.wrap (xs + a2) = xs + a2 := IntWalk.i64_in _ (by omega)
                go_wp2
                go_quiet (fail)
                go_wp2
                go_roundw
                case rel => exact ⟨j + 1, _, by go_num, by omega, rfl⟩
                case measure => simp [intOf]; omega
              · go_wp2
                go_ret
                exact ⟨rfl, hb6.drewN _⟩
          · have hr' : jRight k k (fun k => wrap64 (f k + a2)) g = false := by simpa using hr2
            go_wp2
            go_ret
            exact ⟨rfl, (hbt.more hbt.size os2 d2).more (by have := hbt.size; simp; omega) os3 d3⟩
        · have hr' : jRight k len1 f g = false := by simpa using hr
          go_wp2
          go_ret
          exact ⟨rfl, hbt.more hbt.size os2 d2⟩
      · have hby' : a2 < 0 ∨ 549755813888 < a2 := by omega
        rcases hby' with h | h
        · go_wp2
          go_ret
          exact ⟨rfl, hbt⟩
        · go_wp2
          go_ret
          exact ⟨rfl, hbt⟩
end Go.Proofs.Ytoicokgocmhnhaa
