/- What bound.High, Far, Serves and Keeps answer, for every input. Conditions: lengths within the form's reach. -/
import Derived.Test.YtdilmnpoicdkhaaBdLaw
import Derived.Test.YtdilmnpoicdkhaaBucket
set_option linter.unusedVariables false
set_option linter.unusedSimpArgs false
namespace Go.Proofs.Ytdilmnpoicdkhaa
open Go.RowKit Go.Tide
set_option linter.unusedVariables false
set_option linter.unusedSimpArgs false

set_option maxHeartbeats 1000000 in
theorem high_any (a b : Option Addr) (n m c d : Nat) (f g : Nat → Int) (w : World) (hf : Row w a n f) (hg : Row w b m g) (hn : n ≤ 17592186044416) (hm : m ≤ 17592186044416) :
    Calls Try.prog 53 #[.slice a n c, .slice b m d] w fun e w' => e = .returned (.int .i64 (hiTo f g (min n m))) ∧ More w w' := by
  have hmin : (if m < n then (m : Int) else (n : Int)) = ((min n m : Nat) : Int) := by split <;> omega
  obtain ⟨q, hq⟩ : ∃ q, Hid (min n m = q) := ⟨_, rfl⟩
  rw [hq.out] at hmin ⊢
  have hqn : q ≤ n := by have := hq.out; omega
  have hqm : q ≤ m := by have := hq.out; omega
  go_enter Try.func53, Try.ntmps53
  go_wp2
  go_loopw [5, 12] (fun l i wr => ∃ k dr : Nat, i = .int .i64 k ∧ k ≤ q ∧ l = .int .i64 (hiTo f g k) ∧ wr = w.drewN dr) (fun _ i _ => q - (intOf i).toNat)
  case atStart => exact ⟨0, 0, rfl, Nat.zero_le _, rfl, rfl⟩
  case round =>
    obtain ⟨k, dr, rfl, hk, rfl, rfl⟩ := hrel
    by_cases hlt : k < q
    · obtain ⟨b1, o1, x, rfl, hb1, hc1, hx⟩ := hf.at_ (show k < n by omega)
      obtain ⟨b2, o2, y, rfl, hb2, hc2, hy⟩ := hg.at_ (show k < m by omega)
      have hnew : Hid (hiTo f g (k + 1) = max (hiTo f g k) (less x y)) := by show _ = _; rw [hx.out, hy.out]; rfl
      have k1 : (k : Int) < (n : Int) := by omega
      have k2 : (k : Int) < (m : Int) := by omega
      generalize hiTo f g k = L at *
      go_wp2_with fail
      go_quiet ((go_at_call 62; first | exact quiet_left (less_any _ _ _) | exact quiet_add_left (less_any _ _ _)))
      go_wp2
      go_roundw
      case rel => exact ⟨k + 1, _, by go_num, by omega, by rw [hnew.out]; congr 1; omega, rfl⟩
      case measure => simp [intOf]; omega
    · obtain rfl : k = q := by omega
      go_wp2
      go_ret
      exact ⟨rfl, (by repeat (first | (with_reducible exact More.refl _) | (with_reducible refine More.alloc ?_ _) | (with_reducible refine More.more ?_ _ _) | (with_reducible refine More.drewN ?_ _) | (with_reducible refine More.drew ?_)))⟩

set_option maxHeartbeats 1000000 in
theorem far_any (a b : Option Addr) (n m c d : Nat) (f g : Nat → Int) (w : World) (hf : Row w a n f) (hg : Row w b m g) (hn : n ≤ 17592186044416) (hm : m ≤ 17592186044416) :
    Calls Try.prog 54 #[.slice a n c, .slice b m d] w fun e w' => ∃ (r : Nat) (ok : Bool), e = .returned (.tuple #[.int .i64 r, .bool ok]) ∧ (ok = true ↔ FarOk n m f g) ∧ (ok = true → FarAt n m f g r) ∧ More w w' := by
  go_enter Try.func54, Try.ntmps54
  go_wp2
  go_loopw [6, 12] (fun l i wr => ∃ k D dr : Nat, i = .int .i64 k ∧ k ≤ n ∧ l = .int .i64 D ∧ D ≤ m ∧ FarAt k m f g D ∧ wr = w.drewN dr) (fun _ i _ => n - (intOf i).toNat)
  case atStart => exact ⟨0, 0, 0, rfl, Nat.zero_le _, rfl, Nat.zero_le _, ⟨fun t h => by omega, .inl rfl⟩, rfl⟩
  case round =>
    obtain ⟨k, D, dr, rfl, hk, rfl, hD, hat, rfl⟩ := hrel
    have HA := Lib.hid hat
    clear hat
    by_cases hlt : k < n
    · obtain ⟨b1, o1, x, rfl, hb1, hc1, hx⟩ := hf.at_ hlt
      have k1 : (k : Int) < (n : Int) := by omega
      go_wp2_with fail
      go_loopw [9] (fun d wi => ∃ E dj : Nat, d = .int .i64 E ∧ (E = 0 ∨ k + E ≤ m) ∧ (∀ u, k ≤ u → u < k + E → fit (g u) < fit x) ∧ wi = w.drewN dj) (fun d _ => m - (intOf d).toNat)
      case atStart => exact ⟨0, dr, rfl, .inl rfl, fun u h1 h2 => by omega, rfl⟩
      case round =>
        obtain ⟨E, dj, rfl, hE, hin, rfl⟩ := hrel
        have HI := Lib.hid hin
        clear hin
        obtain ⟨r, hr⟩ : ∃ r, Hid (k + E = r) := ⟨_, rfl⟩
        have hts : (k : Int) + (E : Int) = ((r : Nat) : Int) := by have := hr.out; omega
        have kw : IntKind.i64.wrap ((r : Nat) : Int) = ((r : Nat) : Int) := IntWalk.i64_in _ (by have := hr.out; omega)
        by_cases hlr : r < m
        · obtain ⟨b2, o2, y, rfl, hb2, hc2, hy⟩ := hg.at_ hlr
          have k2 : (r : Int) < (m : Int) := by omega
          have k3 : ((m : Int) ≤ (r : Int)) = False := by simp; omega
          have k4 : decide ((m : Int) ≤ (r : Int)) = false := by simp; omega
          have k5 : decide ((r : Int) < (m : Int)) = true := by simp; omega
          by_cases hv : fit y < fit x
          · have hd : decide (fit y < fit x) = true := by simpa using hv
            go_wp2_with (go_at_call 31; refine (fit_any _ _).mono ?_; rintro e w' ⟨rfl, rfl⟩)
            go_roundw
            case rel =>
              refine ⟨E + 1, _, by go_num, .inr (by have := hr.out; omega), fun u h1 h2 => ?_, rfl⟩
              rcases Nat.lt_succ_iff_lt_or_eq.1 h2 with h | h
              · exact HI.out u h1 h
              · have h' : u = k + E := h
                rw [h', hr.out, ← hy.out]; exact hv
            case measure => simp [intOf]; have := hr.out; omega
          · have hd : decide (fit y < fit x) = false := by simpa using hv
            have hmx : (if (D : Int) < (E : Int) then (E : Int) else (D : Int)) = ((max D E : Nat) : Int) := by split <;> omega
            have hmx2 : (if D < E then (E : Int) else (D : Int)) = ((max D E : Nat) : Int) := by split <;> omega
            have HF : Hid (FarAt (k + 1) m f g (max D E)) := by
              have h1 := HA.out
              have h2 := HI.out
              have h3 := hr.out
              refine ⟨fun t ht => ?_, ?_⟩
              · rcases Nat.lt_succ_iff_lt_or_eq.1 ht with h | h
                · obtain ⟨u, a1, a2, a3, a4⟩ := h1.1 t h
                  exact ⟨u, a1, by omega, a3, a4⟩
                · subst h
                  exact ⟨r, by omega, by omega, hlr, by rw [← hx.out, ← hy.out]; omega⟩
              · by_cases hED : D < E
                · exact .inr ⟨k, by omega, by omega, fun u a1 a2 => by rw [← hx.out]; exact h2 u a1 (by omega)⟩
                · rcases h1.2 with h | ⟨t, a1, a2, a3⟩
                  · exact .inl (by omega)
                  · exact .inr ⟨t, by omega, by omega, fun u b1 b2 => a3 u b1 (by omega)⟩
            have hDm : max D E ≤ m := by have := hr.out; omega
            generalize max D E = G at *
            go_wp2_with (go_at_call 31; refine (fit_any _ _).mono ?_; rintro e w' ⟨rfl, rfl⟩)
            go_roundw
            case rel => exact ⟨k + 1, G, _, by go_num, by omega, rfl, hDm, HF.out, rfl⟩
            case measure => simp [intOf]; omega
        · have k4 : decide ((m : Int) ≤ (r : Int)) = true := by simp; omega
          have k5 : decide ((r : Int) < (m : Int)) = false := by simp; omega
          have hno : ¬ FarOk n m f g := by
            intro h
            obtain ⟨u, a1, a2, a3⟩ := h k hlt
            have h2 := HI.out u a1 (by have := hr.out; omega)
            rw [← hx.out] at a3
            omega
          go_wp2_with (go_at_call 31; refine (fit_any _ _).mono ?_; rintro e w' ⟨rfl, rfl⟩)
          exact bodyPost_ret (v := .tuple #[.int .i64 ((0 : Nat) : Int), .bool false]) (by simp [results, Try.results54, go_sem]) rfl ⟨0, false, rfl, ⟨(fun h => by cases h), fun h => absurd h hno⟩, (fun h => by cases h), (by repeat (first | (with_reducible exact More.refl _) | (with_reducible refine More.alloc ?_ _) | (with_reducible refine More.more ?_ _ _) | (with_reducible refine More.drewN ?_ _) | (with_reducible refine More.drew ?_)))⟩
    · obtain rfl : k = n := by omega
      go_wp2
      exact bodyPost_ret (v := .tuple #[.int .i64 D, .bool true]) (by simp [results, Try.results54, go_sem]) rfl ⟨D, true, rfl, ⟨fun _ t ht => by
        obtain ⟨u, a1, a2, a3, a4⟩ := HA.out.1 t ht
        exact ⟨u, a1, a3, a4⟩, fun _ => rfl⟩, fun _ => HA.out, (by repeat (first | (with_reducible exact More.refl _) | (with_reducible refine More.alloc ?_ _) | (with_reducible refine More.more ?_ _ _) | (with_reducible refine More.drewN ?_ _) | (with_reducible refine More.drew ?_)))⟩

theorem bnsmall_any (x : Int) (w : World) : Calls Try.prog 70 #[.int .i64 x] w fun e w' => e = .returned (.bool (smallB x)) ∧ w = w' := by
  go_enter Try.func70, Try.ntmps70
  go_wp2
  all_goals
    go_ret
    refine ⟨ret_bool_iff ?_, rfl⟩
    simp only [smallB, Bool.and_eq_true, decide_eq_true_eq, true_iff, iff_true, Bool.true_eq, Bool.false_eq_true, false_iff] <;> omega

set_option maxHeartbeats 1000000 in
theorem serves_any (R late : Int) (n : Nat) (w : World) (hR : 0 ≤ R ∧ R ≤ 1099511627776) (hl : 0 ≤ late) (hl2 : late ≤ 1099511627776) (hn : n ≤ 300) :
    Calls Try.prog 59 #[.int .i64 R, .int .i64 late, .int .i64 n] w fun e w' => ∃ a' c', e = .returned (.slice a' n c') ∧ n ≤ c' ∧ Row w' a' n (servOf R late) ∧ Below w.heap.size w w' := by
  have E0 := Lib.hid (smallB_iff.2 hR)
  obtain ⟨i0, hi, hz0, hz1, hz2⟩ := info_parts intInfo
  go_enter Try.func59, Try.ntmps59
  go_wp2_with fail
  refine (bnsmall_any _ _).mono ?_
  rintro e w' ⟨rfl, rfl⟩
  rw [E0.out]
  go_wp2
  go_loopw [7, 19] (fun out i wr => ∃ k : Nat, i = .int .i64 k ∧ k ≤ n ∧ wr.ownsRow w.heap.size 3 1 out k (cellsOf k (servOf R late)) ∧ Below w.heap.size w wr) (fun _ i _ => n - (intOf i).toNat)
  case atStart => exact ⟨0, rfl, Nat.zero_le _, World.ownsRow_nil _ _ _ _, Below.refl _ _⟩
  case round =>
    obtain ⟨t, rfl, hk, hown, hbe⟩ := hrel
    have hsz := hbe.size
    by_cases hlt : t < n
    · obtain ⟨X, hX⟩ : ∃ X, Hid (max ((t : Int) - late) 0 = X) := ⟨_, rfl⟩
      have hmx : (if (t : Int) - late < 0 then 0 else (t : Int) - late) = X := by have := hX.out; omega
      have hb := serv_bounds hR hl (t := t) (by omega)
      obtain ⟨P, hP⟩ : ∃ P, R * X = P := ⟨_, rfl⟩
      have HS : Hid (servOf R late t = P) := by show _ = _; unfold servOf; rw [hX.out]; exact hP
      rw [HS.out] at hb
      have kw1 : IntKind.i64.wrap ((t : Int) - late) = (t : Int) - late := IntWalk.i64_in _ (by omega)
      have kw2 : IntKind.i64.wrap P = P := IntWalk.i64_in _ (by omega)
      have kx2 : wrap64 P = P := IntWalk.wrap64_in _ (by omega)
      have k1 : (t : Int) < (n : Int) := by omega
      go_wp2_with (at_builtin; refine wpList_append_own _ rfl _ _ 22 rfl _ 3 i0 (.int .i64 0) 1 8 Try.underlying22 hi hz0 hz1 hz2 rfl (by decide) _ _ _ rfl (hown.alloc _) _ _ _ [.int .i64 _] rfl rfl (cell_one _ _ _) (oneCell_int _ _) (by simp only [maxLen]; omega) (by omega) (by simp; omega) ?_; intro v' w1 hown' hgrow hnil; clear hnil)
      go_roundw
      case rel => exact ⟨t + 1, by go_num, by omega, by rw [cellsOf_succ, HS.out]; exact hown', below_append hbe hsz hown hgrow⟩
      case measure => simp [intOf]; omega
    · obtain rfl : t = n := by omega
      obtain ⟨a', c', hv, hc'⟩ := own_slice hown
      subst hv
      go_wp2
      go_ret
      exact ⟨a', c', rfl, hc', Row.of_own hown, hbe⟩

set_option maxHeartbeats 1000000 in
theorem bkk_any (a b : Option Addr) (n m c d : Nat) (f row : Nat → Int) (w : World) (hf : Row w a n f) (hg : Row w b m row) (hn : n ≤ 17592186044416) (hm : m ≤ 17592186044416) :
    Calls Try.prog 56 #[.slice a n c, .slice b m d] w fun e w' => e = .returned (.bool (kKept n m f row)) ∧ More w w' := by
  go_enter Try.func56, Try.ntmps56
  go_wp2
  go_loopw [9] (fun i wr => ∃ k dr : Nat, i = .int .i64 k ∧ k ≤ n ∧ KKept k m f row ∧ wr = w.drewN dr) (fun i _ => n - (intOf i).toNat)
  case atStart => exact ⟨0, 0, rfl, Nat.zero_le _, fun t h => by omega, rfl⟩
  case round =>
    obtain ⟨k, dr, rfl, hk, hat, rfl⟩ := hrel
    have HA := Lib.hid hat
    clear hat
    by_cases hlt : k < n
    · obtain ⟨b1, o1, x, rfl, hb1, hc1, hx⟩ := hf.at_ hlt
      have k1 : (k : Int) < (n : Int) := by omega
      go_wp2_with fail
      go_loopw [14] (fun i wi => ∃ j dj : Nat, i = .int .i64 j ∧ j ≤ k + 1 ∧ (∀ s, s < j → less (f k) (f s) ≤ atOf m row ((k : Int) - s)) ∧ wi = w.drewN dj) (fun i _ => k + 1 - (intOf i).toNat)
      case atStart => exact ⟨0, dr, rfl, Nat.zero_le _, fun s h => by omega, rfl⟩
      case round =>
        obtain ⟨j, dj, rfl, hj, hin, rfl⟩ := hrel
        have HI := Lib.hid hin
        clear hin
        by_cases hlj : j < k + 1
        · obtain ⟨b2, o2, y, he, hb2, hc2, hy⟩ := hf.at_ (show j < n by omega)
          injection he with he
          injection he with he1 he2
          subst he1 he2
          have k2 : (j : Int) < (n : Int) := by omega
          have k3 : (j : Int) < (k : Int) + 1 := by omega
          have kw : IntKind.i64.wrap ((k : Int) - (j : Int)) = (k : Int) - (j : Int) := IntWalk.i64_in _ (by omega)
          have hgm : m ≤ 1152921504606846976 := by omega
          obtain ⟨A, hA⟩ : ∃ A, Hid (atOf m row ((k : Int) - (j : Int)) = A) := ⟨_, rfl⟩
          have HC : Hid (∀ W : World, Row W b m row → Calls Try.prog 61 #[.slice b m d, .int .i64 ((k : Int) - (j : Int))] W fun e w' => e = .returned (.int .i64 A) ∧ W = w') := fun W hW => by
            rw [← hA.out]
            exact cat_any b m d row _ W hW hgm
          by_cases hv : less x y ≤ A
          · have hd : decide (A < less x y) = false := by simpa using hv
            go_wp2_with fail
            go_quiet ((first | (go_at_call 62; first | exact quiet_left (less_any _ _ _) | exact quiet_add_left (less_any _ _ _)) | (go_at_call 61; first | exact quiet_left (HC.out _ (by repeat (first | (with_reducible assumption) | (with_reducible exact Row.nil) | (with_reducible apply Row.drewN) | (with_reducible apply Row.drew) | (with_reducible apply Row.more) | (with_reducible apply Row.alloc)))) | exact quiet_add_left (HC.out _ (by repeat (first | (with_reducible assumption) | (with_reducible exact Row.nil) | (with_reducible apply Row.drewN) | (with_reducible apply Row.drew) | (with_reducible apply Row.more) | (with_reducible apply Row.alloc)))))))
            go_wp2
            go_roundw
            case rel =>
              refine ⟨j + 1, _, by go_num, by omega, fun s h => ?_, rfl⟩
              rcases Nat.lt_succ_iff_lt_or_eq.1 h with h | h
              · exact HI.out s h
              · subst h; rw [hA.out, ← hx.out, ← hy.out]; exact hv
            case measure => simp [intOf]; omega
          · have hd : decide (A < less x y) = true := by simp; omega
            have hno : ¬ KKept n m f row := fun h => by
              have := h k hlt j (by omega)
              rw [hA.out, ← hx.out, ← hy.out] at this
              omega
            go_wp2_with fail
            go_quiet ((first | (go_at_call 62; first | exact quiet_left (less_any _ _ _) | exact quiet_add_left (less_any _ _ _)) | (go_at_call 61; first | exact quiet_left (HC.out _ (by repeat (first | (with_reducible assumption) | (with_reducible exact Row.nil) | (with_reducible apply Row.drewN) | (with_reducible apply Row.drew) | (with_reducible apply Row.more) | (with_reducible apply Row.alloc)))) | exact quiet_add_left (HC.out _ (by repeat (first | (with_reducible assumption) | (with_reducible exact Row.nil) | (with_reducible apply Row.drewN) | (with_reducible apply Row.drew) | (with_reducible apply Row.more) | (with_reducible apply Row.alloc)))))))
            go_wp2
            go_ret
            exact ⟨ret_bool (kKept_false hno).symm, (by repeat (first | (with_reducible exact More.refl _) | (with_reducible refine More.alloc ?_ _) | (with_reducible refine More.more ?_ _ _) | (with_reducible refine More.drewN ?_ _) | (with_reducible refine More.drew ?_)))⟩
        · obtain rfl : j = k + 1 := by omega
          go_wp2
          go_roundw
          case rel =>
            refine ⟨k + 1, _, by go_num, by omega, fun t ht s hs => ?_, rfl⟩
            rcases Nat.lt_succ_iff_lt_or_eq.1 ht with h | h
            · exact HA.out t h s hs
            · subst h; exact HI.out s (by omega)
          case measure => simp [intOf]; omega
    · obtain rfl : k = n := by omega
      go_wp2
      go_ret
      exact ⟨ret_bool (kKept_true HA.out).symm, (by repeat (first | (with_reducible exact More.refl _) | (with_reducible refine More.alloc ?_ _) | (with_reducible refine More.more ?_ _ _) | (with_reducible refine More.drewN ?_ _) | (with_reducible refine More.drew ?_)))⟩
end Go.Proofs.Ytdilmnpoicdkhaa
