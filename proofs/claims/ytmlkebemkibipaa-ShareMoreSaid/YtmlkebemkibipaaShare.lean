/- What share.Right, filled, Share, gcd and Even answer, for every input. Conditions: lengths within the form's reach. -/
import Derived.Test.YtmlkebemkibipaaShLaw
import Derived.Test.YtmlkebemkibipaaKit3
import Derived.Deep.RegionHeld3
set_option linter.unusedVariables false
set_option linter.unusedSimpArgs false
namespace Go.Proofs.Ytmlkebemkibipaa
open Go.RowKit Go.Tide
set_option linter.unusedVariables false
set_option linter.unusedSimpArgs false

theorem sbad_looks : Looks 41 (fun x => decide (x < 0) || decide (1048576 < x)) := by
  refine ⟨fun x w => ?_, fun _ _ => rfl⟩
  go_enter Try.func41, Try.ntmps41
  go_wp2
  all_goals
    go_ret
    refine ⟨ret_bool_iff ?_, rfl⟩
    simp only [Bool.or_eq_true, decide_eq_true_eq, true_iff, iff_true, Bool.true_eq, Bool.false_eq_true] <;> omega

set_option maxHeartbeats 400000 in
theorem sright_any (a : Option Addr) (n c : Nat) (x : Nat → Int) (w : World) (hx : Row w a n x) (hn : n ≤ 1152921504606846976) :
    Calls Try.prog 25 #[.slice a n c] w fun e w' => e = .returned (.bool (sRight n x)) ∧ w = w' := by
  have hns' := not_someIn (n := n) (f := x) (lo := 0) (hi := 1048576)
  obtain ⟨s, hs⟩ : ∃ s, Hid (someIn n x (fun x => decide (x < 0) || decide (1048576 < x)) = s) := ⟨_, rfl⟩
  rw [hs.out] at hns'
  by_cases h3 : n ≤ 300
  · have hv : sRight n x = !s := by
      rw [Bool.eq_iff_iff, sRight_iff, hns', allIn_iff]
      exact ⟨fun h => h.2, fun h => ⟨h3, h⟩⟩
    have k3 : decide ((n : Int) ≤ 300) = true := by simp; omega
    have HV := Lib.hid hv
    clear hns' hv
    go_enter Try.func25, Try.ntmps25
    go_wp2_with fail
    refine (contains_any _ _ sbad_looks a n c x _ (by repeat (first | (with_reducible assumption) | (with_reducible exact Row.nil) | (with_reducible apply Row.drewN) | (with_reducible apply Row.drew) | (with_reducible apply Row.more) | (with_reducible apply Row.alloc))) hn).mono ?_
    rintro e w' ⟨rfl, rfl⟩
    rw [hs.out]
    go_wp2
    go_ret
    exact ⟨ret_bool HV.out.symm, rfl⟩
  · have hv : sRight n x = false := sRight_false fun h => h3 h.1
    have k3 : decide ((n : Int) ≤ 300) = false := by simp; omega
    have k4 : decide (n ≤ 300) = false := by simp; omega
    have HV := Lib.hid hv
    clear hns' hv h3 hn hx hs
    go_enter Try.func25, Try.ntmps25
    go_wp2_with fail
    go_ret
    exact ⟨ret_bool HV.out.symm, rfl⟩

set_option maxHeartbeats 400000 in
theorem filled_any (L : Int) (a : Option Addr) (n c : Nat) (x : Nat → Int) (w : World) (hx : Row w a n x) (h : SRight n x) (hL : 0 ≤ L ∧ L ≤ 2097152) :
    Calls Try.prog 39 #[.slice a n c, .int .i64 L] w fun e w' => e = .returned (.int .i64 (filledTo x L n)) ∧ w = w' := by
  go_enter Try.func39, Try.ntmps39
  go_wp2
  go_loop [5, 10] (fun s i => ∃ k : Nat, i = .int .i64 k ∧ k ≤ n ∧ s = .int .i64 (filledTo x L k)) (fun _ i => n - (intOf i).toNat)
  case atStart => exact ⟨0, rfl, Nat.zero_le _, rfl⟩
  case round =>
    obtain ⟨k, rfl, hk, rfl⟩ := hrel
    by_cases hlt : k < n
    · obtain ⟨b, off, xv, rfl, hb, hc, hxv⟩ := hx.at_ hlt
      have h1 := h.filled hL.1 k hk
      have h2 := h.2 k hlt
      have h3 : Hid (filledTo x L (k + 1) = filledTo x L k + min xv L) := by rw [hxv.out]; rfl
      rw [← hxv.out] at h2
      have hn := h.1
      generalize filledTo x L k = S at *
      have hmn : (if L < xv then L else xv) = min xv L := by omega
      have kw : IntKind.i64.wrap (S + min xv L) = S + min xv L := IntWalk.i64_in _ (by omega)
      go_wp2
      go_round
      case rel => exact ⟨k + 1, by go_num, by omega, by rw [h3.out]⟩
      case measure => simp [intOf]; omega
    · obtain rfl : k = n := by omega
      go_wp2
      go_ret
      exact ⟨rfl, rfl⟩

theorem ssum_any (a : Option Addr) (n c : Nat) (x : Nat → Int) (w : World) (hx : Row w a n x) (h : ∀ k, k < n → 0 ≤ x k ∧ x k ≤ 1048577) (hn : n ≤ 300) :
    Calls Try.prog 26 #[.slice a n c] w fun e w' => e = .returned (.int .i64 (isum x n)) ∧ w = w' := by
  go_enter Try.func26, Try.ntmps26
  go_wp2
  go_loop [3, 8] (fun s i => ∃ k : Nat, i = .int .i64 k ∧ k ≤ n ∧ s = .int .i64 (isum x k)) (fun _ i => n - (intOf i).toNat)
  case atStart => exact ⟨0, rfl, Nat.zero_le _, rfl⟩
  case round =>
    obtain ⟨k, rfl, hk, rfl⟩ := hrel
    by_cases hlt : k < n
    · obtain ⟨b, off, xv, rfl, hb, hc, hxv⟩ := hx.at_ hlt
      have h1 := isum_bd h k hk
      have h2 := h k hlt
      have h3 : Hid (isum x (k + 1) = isum x k + xv) := by rw [hxv.out]; rfl
      rw [← hxv.out] at h2
      generalize isum x k = S at *
      have kw : IntKind.i64.wrap (S + xv) = S + xv := IntWalk.i64_in _ (by omega)
      go_wp2
      go_round
      case rel => exact ⟨k + 1, by go_num, by omega, by rw [h3.out]⟩
      case measure => simp [intOf]; omega
    · obtain rfl : k = n := by omega
      go_wp2
      go_ret
      exact ⟨rfl, rfl⟩

theorem drewN_two (w : World) (a b : Nat) : (w.drewN a).drewN b = w.drewN (a + b) := by simp [World.drewN, Nat.add_assoc]

theorem gcd_any (p q : Nat) (w : World) (hp : p ≤ 1152921504606846976) (hq : q ≤ 1152921504606846976) :
    Calls Try.prog 42 #[.int .i64 p, .int .i64 q] w fun e w' => e = .returned (.int .i64 ((Nat.gcd p q : Nat) : Int)) ∧ ∃ m, w' = w.drewN m := by
  go_enter Try.func42, Try.ntmps42
  go_wp2
  go_loopw [0, 1] (fun a b wr => ∃ s t dr : Nat, a = .int .i64 s ∧ b = .int .i64 t ∧ Nat.gcd s t = Nat.gcd p q ∧ s ≤ 1152921504606846976 ∧ t ≤ 1152921504606846976 ∧ wr = w.drewN dr) (fun _ b _ => (intOf b).toNat)
  case atStart => exact ⟨p, q, 0, rfl, rfl, rfl, hp, hq, rfl⟩
  case round =>
    obtain ⟨s, t, dr, rfl, rfl, hg, hs, ht, rfl⟩ := hrel
    have HG := Lib.hid hg
    clear hg
    rcases Nat.eq_zero_or_pos t with h0 | h0
    · subst h0
      go_wp2
      go_ret
      exact ⟨ret_int (by rw [← HG.out, Nat.gcd_zero_right]), _, rfl⟩
    · have hne : ((t : Int) != 0) = true := by simp; omega
      have hz : ((t : Int) == 0) = false := by simp; omega
      have hm : (s : Int).tmod (t : Int) = ((s % t : Nat) : Int) := (Int.ofNat_tmod s t).symm
      have hlt := Nat.mod_lt s h0
      have HN : Hid (Nat.gcd t (s % t) = Nat.gcd p q) := by
        show _ = _
        rw [← HG.out, Nat.gcd_comm t, ← Nat.gcd_rec, Nat.gcd_comm]
      generalize s % t = u at *
      go_wp2_with fail
      go_quiet (fail)
      go_wp2
      go_roundw
      case rel => exact ⟨t, u, dr + _, rfl, rfl, HN.out, ht, by omega, drewN_two w dr _⟩
      case measure => simp [intOf]; omega

set_option maxHeartbeats 1000000 in
theorem share_any (all : Int) (a : Option Addr) (n c : Nat) (x : Nat → Int) (w : World) (hx : Row w a n x) (h : SRight n x) :
    Calls Try.prog 24 #[.int .i64 all, .slice a n c] w fun e w' => ∃ a' c', e = .returned (.slice a' n c') ∧ n ≤ c' ∧ Row w' a' n (shareOf (fit all) n x) ∧ Below w.heap.size w w' := by
  have E := Lib.hid (sRight_iff.2 h)
  have hn := h.1
  obtain ⟨i0, hi, hz0, hz1, hz2⟩ := info_parts intInfo
  go_enter Try.func24, Try.ntmps24
  go_wp2_with fail
  refine (sright_any a n c x _ (by repeat (first | (with_reducible assumption) | (with_reducible exact Row.nil) | (with_reducible apply Row.drewN) | (with_reducible apply Row.drew) | (with_reducible apply Row.more) | (with_reducible apply Row.alloc))) (by omega)).mono ?_
  rintro e w1 ⟨rfl, rfl⟩
  rw [E.out]
  go_wp2_with (go_at_call 27; refine (fit_any _ _).mono ?_; rintro e w' ⟨rfl, rfl⟩)
  have hF0 : filledTo x 0 n ≤ fit all := by
    rw [filled_zero h]
    unfold fit
    omega
  have hfa : 0 ≤ fit all ∧ fit all ≤ 1152921504606846976 := by unfold fit; omega
  obtain ⟨al, hal⟩ : ∃ al, Hid (fit all = al) := ⟨_, rfl⟩
  rw [hal.out] at hF0 hfa ⊢
  have HL : Hid (∀ j, j < 21 → 0 ≤ levAt (fun L => filledTo x L n) al j ∧ levAt (fun L => filledTo x L n) al j ≤ 1048576) := fun j hj => by
    have h1 := (lev_inv (F := fun L => filledTo x L n) (all := al) hF0 j hj).1
    exact ⟨h1.1, h1.2.1⟩
  have HEnd := Lib.hid (lev_end (F := fun L => filledTo x L n) (all := al) hF0)
  go_loop [5, 6] (fun lv bit => ∃ j : Nat, j ≤ 21 ∧ bit = .int .i64 (bitAt j) ∧ lv = .int .i64 (levAt (fun L => filledTo x L n) al j)) (fun _ bit => (intOf bit).toNat)
  case atStart => exact ⟨0, Nat.zero_le _, rfl, rfl⟩
  case round =>
    obtain ⟨j, hj, rfl, rfl⟩ := hrel
    by_cases hlt : j < 21
    · have hl := HL.out j hlt
      have hb := bit_bounds j hlt
      have hbn : Hid (bitAt (j + 1) = bitAt j / 2) := rfl
      have hls := Lib.hid (lev_succ (fun L => filledTo x L n) al j)
      generalize bitAt j = b at *
      generalize levAt (fun L => filledTo x L n) al j = l at *
      have hd : b.tdiv 2 = b / 2 := Int.tdiv_eq_ediv_of_nonneg (by omega)
      have kw : IntKind.i64.wrap (l + b) = l + b := IntWalk.i64_in _ (by omega)
      have kw2 : IntKind.i64.wrap (b / 2) = b / 2 := IntWalk.i64_in _ (by omega)
      have kx2 : wrap64 (b / 2) = b / 2 := IntWalk.wrap64_in _ (by omega)
      have d1 : decide (0 < b) = true := by simp; omega
      by_cases hc1 : l + b ≤ 1048576
      · have d2 : decide (l + b ≤ 1048576) = true := by simpa using hc1
        by_cases hc2 : filledTo x (l + b) n ≤ al
        · have d3 : decide (filledTo x (l + b) n ≤ al) = true := by simpa using hc2
          have hne : Hid (levAt (fun L => filledTo x L n) al (j + 1) = l + b) := by show _ = _; rw [hls.out, if_pos (fits_iff.2 ⟨hc1, hc2⟩)]
          clear hc2
          go_wp2_with fail
          refine (filled_any (l + b) a n c x _ (by repeat (first | (with_reducible assumption) | (with_reducible exact Row.nil) | (with_reducible apply Row.drewN) | (with_reducible apply Row.drew) | (with_reducible apply Row.more) | (with_reducible apply Row.alloc))) h (by omega)).mono ?_
          rintro e w1 ⟨rfl, rfl⟩
          go_wp2_with fail
          go_round
          case rel => exact ⟨j + 1, by omega, by rw [hbn.out], by rw [hne.out]⟩
          case measure => simp [intOf]; omega
        · have d3 : decide (filledTo x (l + b) n ≤ al) = false := by simpa using hc2
          have hne : Hid (levAt (fun L => filledTo x L n) al (j + 1) = l) := by show _ = _; rw [hls.out, if_neg (fun hc => hc2 (fits_iff.1 hc).2)]
          clear hc2
          go_wp2_with fail
          refine (filled_any (l + b) a n c x _ (by repeat (first | (with_reducible assumption) | (with_reducible exact Row.nil) | (with_reducible apply Row.drewN) | (with_reducible apply Row.drew) | (with_reducible apply Row.more) | (with_reducible apply Row.alloc))) h (by omega)).mono ?_
          rintro e w1 ⟨rfl, rfl⟩
          go_wp2_with fail
          go_round
          case rel => exact ⟨j + 1, by omega, by rw [hbn.out], by rw [hne.out]⟩
          case measure => simp [intOf]; omega
      · have d2 : decide (l + b ≤ 1048576) = false := by simpa using hc1
        have hne : Hid (levAt (fun L => filledTo x L n) al (j + 1) = l) := by show _ = _; rw [hls.out, if_neg (fun hc => hc1 (fits_iff.1 hc).1)]
        go_wp2_with fail
        go_round
        case rel => exact ⟨j + 1, by omega, by rw [hbn.out], by rw [hne.out]⟩
        case measure => simp [intOf]; omega
    · obtain rfl : j = 21 := by omega
      have hb21 : bitAt 21 = 0 := by decide +kernel
      rw [hb21]
      have hend := HEnd.out.1
      clear HEnd HL
      have hsh : Hid (shareOf al n x = shOf x (levAt (fun L => filledTo x L n) al 21) (al - filledTo x (levAt (fun L => filledTo x L n) al 21) n)) := rfl
      generalize levAt (fun L => filledTo x L n) al 21 = l at *
      obtain ⟨e1, e2, e3⟩ := hend
      have e4 := h.filled e1 n (Nat.le_refl _)
      go_wp2_with fail
      refine (filled_any l a n c x _ (by repeat (first | (with_reducible assumption) | (with_reducible exact Row.nil) | (with_reducible apply Row.drewN) | (with_reducible apply Row.drew) | (with_reducible apply Row.more) | (with_reducible apply Row.alloc))) h (by omega)).mono ?_
      rintro e w1 ⟨rfl, rfl⟩
      generalize filledTo x l n = G at *
      have kw : IntKind.i64.wrap (al - G) = al - G := IntWalk.i64_in _ (by omega)
      go_wp2_with fail
      have hr0 : 0 ≤ al - G := by omega
      obtain ⟨r0, hr0e⟩ : ∃ r0, Hid (al - G = r0) := ⟨_, rfl⟩
      rw [hr0e.out] at hr0 hsh ⊢
      have HSH : Hid (∀ k, shareOf al n x k = shOf x l r0 k) := fun k => by rw [hsh.out]
      clear hsh hb21 kw
      go_loopw [7, 8, 44] (fun rs out i wr => ∃ k : Nat, i = .int .i64 k ∧ k ≤ n ∧ rs = .int .i64 (restTo x l r0 k) ∧ wr.ownsRow w.heap.size 3 1 out k (cellsOf k (shareOf al n x)) ∧ Below w.heap.size w wr) (fun _ _ i _ => n - (intOf i).toNat)
      case atStart => exact ⟨0, rfl, Nat.zero_le _, rfl, World.ownsRow_nil _ _ _ _, Below.refl _ _⟩
      case round =>
        obtain ⟨k, rfl, hk, rfl, hown, hbe⟩ := hrel
        have hsz := hbe.size
        by_cases hlt : k < n
        · obtain ⟨b, off, xv, rfl, hb, hc, hxv⟩ := (hx.below hbe (Nat.le_refl _)).at_ hlt
          have h2 := h.2 k hlt
          have hrb := rest_mono (x := x) (L := l) hr0 0 k
          rw [Nat.zero_add] at hrb
          have hr00 : restTo x l r0 0 = r0 := rfl
          rw [hr00] at hrb
          have hrn : Hid (restTo x l r0 (k + 1) = if 0 < restTo x l r0 k ∧ l < xv then restTo x l r0 k - 1 else restTo x l r0 k) := by rw [hxv.out]; rfl
          have hsn : Hid (shareOf al n x k = if 0 < restTo x l r0 k ∧ l < xv then min xv l + 1 else min xv l) := by show _ = _; rw [HSH.out, hxv.out]; rfl
          rw [← hxv.out] at h2
          have hr0b : r0 ≤ 1152921504606846976 := by have := hr0e.out; omega
          generalize restTo x l r0 k = r at *
          have hmn : (if l < xv then l else xv) = min xv l := by omega
          have kw1 : IntKind.i64.wrap (min xv l + 1) = min xv l + 1 := IntWalk.i64_in _ (by omega)
          have kw2 : IntKind.i64.wrap (r - 1) = r - 1 := IntWalk.i64_in _ (by omega)
          by_cases hr1 : 0 < r
          · have d1 : decide (0 < r) = true := by simpa using hr1
            by_cases hl1 : l < xv
            · have d2 : decide (min xv l < xv) = true := by simp; omega
              have HN1 : Hid (restTo x l r0 (k + 1) = r - 1) := by show _ = _; rw [hrn.out, if_pos ⟨hr1, hl1⟩]
              have HN2 : Hid (shareOf al n x k = min xv l + 1) := by show _ = _; rw [hsn.out, if_pos ⟨hr1, hl1⟩]
              clear hr1 hl1 hmn
              have hmn : (if l < xv then l else xv) = min xv l := by omega
              go_wp2_with (at_builtin; refine wpList_append_own _ rfl _ _ 22 rfl _ 3 i0 (.int .i64 0) 1 8 Try.underlying22 hi hz0 hz1 hz2 rfl (by decide) _ _ _ rfl (hown.alloc _) _ _ _ [.int .i64 _] rfl rfl (cell_one _ _ _) (oneCell_int _ _) (by simp only [maxLen]; omega) (by omega) (by simp; omega) ?_; intro v' w1 hown' hgrow hnil; clear hnil)
              go_roundw
              case rel => exact ⟨k + 1, by go_num, by omega, by rw [HN1.out], by rw [cellsOf_succ, HN2.out]; exact hown', below_append hbe hsz hown hgrow⟩
              case measure => simp [intOf]; omega
            · have d2 : decide (min xv l < xv) = false := by simp; omega
              have HN1 : Hid (restTo x l r0 (k + 1) = r) := by show _ = _; rw [hrn.out, if_neg (fun hc => hl1 hc.2)]
              have HN2 : Hid (shareOf al n x k = min xv l) := by show _ = _; rw [hsn.out, if_neg (fun hc => hl1 hc.2)]
              clear hr1 hl1
              go_wp2_with (at_builtin; refine wpList_append_own _ rfl _ _ 22 rfl _ 3 i0 (.int .i64 0) 1 8 Try.underlying22 hi hz0 hz1 hz2 rfl (by decide) _ _ _ rfl (hown.alloc _) _ _ _ [.int .i64 _] rfl rfl (cell_one _ _ _) (oneCell_int _ _) (by simp only [maxLen]; omega) (by omega) (by simp; omega) ?_; intro v' w1 hown' hgrow hnil; clear hnil)
              go_roundw
              case rel => exact ⟨k + 1, by go_num, by omega, by rw [HN1.out], by rw [cellsOf_succ, HN2.out]; exact hown', below_append hbe hsz hown hgrow⟩
              case measure => simp [intOf]; omega
          · have d1 : decide (0 < r) = false := by simpa using hr1
            have HN1 : Hid (restTo x l r0 (k + 1) = r) := by show _ = _; rw [hrn.out, if_neg (fun hc => hr1 hc.1)]
            have HN2 : Hid (shareOf al n x k = min xv l) := by show _ = _; rw [hsn.out, if_neg (fun hc => hr1 hc.1)]
            clear hr1
            go_wp2_with (at_builtin; refine wpList_append_own _ rfl _ _ 22 rfl _ 3 i0 (.int .i64 0) 1 8 Try.underlying22 hi hz0 hz1 hz2 rfl (by decide) _ _ _ rfl (hown.alloc _) _ _ _ [.int .i64 _] rfl rfl (cell_one _ _ _) (oneCell_int _ _) (by simp only [maxLen]; omega) (by omega) (by simp; omega) ?_; intro v' w1 hown' hgrow hnil; clear hnil)
            go_roundw
            case rel => exact ⟨k + 1, by go_num, by omega, by rw [HN1.out], by rw [cellsOf_succ, HN2.out]; exact hown', below_append hbe hsz hown hgrow⟩
            case measure => simp [intOf]; omega
        · obtain rfl : k = n := by omega
          obtain ⟨a', c', hv, hc'⟩ := own_slice hown
          subst hv
          go_wp2
          go_ret
          refine ⟨a', c', rfl, hc', ?_, hbe⟩
          rw [hal.out]
          exact Row.of_own hown

set_option maxHeartbeats 1000000 in
theorem even_none (a : Option Addr) (n c : Nat) (x : Nat → Int) (w : World) (hx : Row w a n x) (hn : n ≤ 1152921504606846976) (h : sRight n x = false) :
    Calls Try.prog 31 #[.slice a n c] w fun e w' => e = .returned (.tuple #[.agg #[.int .i64 0, .int .i64 0], .int .i64 2]) ∧ More w w' := by
  have E := Lib.hid h
  go_enter Try.func31, Try.ntmps31
  go_wp2_with fail
  refine (sright_any a n c x _ (by repeat (first | (with_reducible assumption) | (with_reducible exact Row.nil) | (with_reducible apply Row.drewN) | (with_reducible apply Row.drew) | (with_reducible apply Row.more) | (with_reducible apply Row.alloc))) hn).mono ?_
  rintro e w1 ⟨rfl, rfl⟩
  rw [E.out]
  go_wp2_with fail
  exact bodyPost_ret (v := .tuple #[.agg #[.int .i64 0, .int .i64 0], .int .i64 2]) (by simp [results, Try.results31, go_sem]) rfl ⟨rfl, (by repeat (first | (with_reducible exact More.refl _) | (with_reducible refine More.alloc ?_ _) | (with_reducible refine More.more ?_ _ _) | (with_reducible refine More.drewN ?_ _) | (with_reducible refine More.drew ?_)))⟩
end Go.Proofs.Ytmlkebemkibipaa
