/- What clock.Right, Ways and Waits answer, for every input. Conditions: lengths within the form's reach. -/
import Derived.Test.YtmlkebemkibipaaBase
import Derived.Test.YtmlkebemkibipaaKitC
import Derived.Laws.EntriesVeiled
set_option linter.unusedVariables false
set_option linter.unusedSimpArgs false
namespace Go.Tide
def pbad (x : Int) : Bool := decide (x < -1099511627776) || decide (1099511627776 < x)
/-- What clock.Right asks. -/
def PRight (n : Nat) (f : Nat → Nat → Int) : Prop := ∀ k, k < n → (-1099511627776 ≤ f k 0 ∧ f k 0 ≤ 1099511627776) ∧ (-1099511627776 ≤ f k 1 ∧ f k 1 ≤ 1099511627776)
noncomputable def pRight (n : Nat) (f : Nat → Nat → Int) : Bool := @decide (PRight n f) (Classical.propDecidable _)
theorem pRight_iff {n : Nat} {f : Nat → Nat → Int} : pRight n f = true ↔ PRight n f := by simp [pRight]
theorem pRight_true {n : Nat} {f : Nat → Nat → Int} (h : PRight n f) : pRight n f = true := pRight_iff.2 h
theorem pRight_false {n : Nat} {f : Nat → Nat → Int} (h : ¬ PRight n f) : pRight n f = false := by simp [pRight, h]
theorem pbad_iff {x : Int} : pbad x = false ↔ -1099511627776 ≤ x ∧ x ≤ 1099511627776 := by simp [pbad]
def pways (f : Nat → Nat → Int) (k : Nat) : Int := f k 1 - f k 0
def pwaits (f : Nat → Nat → Int) (part keep : Int) (k : Nat) : Int := pways f k - baseOf (pways f) part keep k
theorem pways_bounds {n : Nat} {f : Nat → Nat → Int} (h : PRight n f) {k : Nat} (hk : k < n) : -2199023255552 ≤ pways f k ∧ pways f k ≤ 2199023255552 := by
  have := h k hk
  unfold pways
  omega
theorem base_bounds {x : Nat → Int} {part keep : Int} {n k : Nat} {lo hi : Int} (hp : 1 ≤ part) (hk : 1 ≤ keep) (hkn : k < n) (hx : ∀ k, k < n → lo ≤ x k ∧ x k ≤ hi) : lo ≤ baseOf x part keep k ∧ baseOf x part keep k ≤ hi := by
  obtain ⟨⟨i, _, h2, h3⟩, _⟩ := baseOf_spec (x := x) hp hk k
  rw [← h3]
  exact hx i (by omega)
end Go.Tide
namespace Go.Proofs.Ytmlkebemkibipaa
open Go.RowKit Go.Tide
set_option linter.unusedVariables false
set_option linter.unusedSimpArgs false

theorem pbad_any (x : Int) (w : World) : Calls Try.prog 36 #[.int .i64 x] w fun e w' => e = .returned (.bool (pbad x)) ∧ w = w' := by
  go_enter Try.func36, Try.ntmps36
  go_wp2
  all_goals
    go_ret
    refine ⟨ret_bool_iff ?_, rfl⟩
    unfold pbad
    simp only [Bool.or_eq_true, decide_eq_true_eq, true_iff, iff_true, Bool.true_eq, Bool.false_eq_true] <;> omega

theorem plook_any (x y : Int) (H : Nat) (w : World) (hH : Blk w H 54 #[.func (.func 36) #[] #[]]) :
    Calls Try.prog 38 #[.agg #[.int .i64 x, .int .i64 y], .pointer (some ⟨H, 0, none⟩)] w fun e w' => e = .returned (.bool (pbad x || pbad y)) ∧ More w w' := by
  have hc := hH.cell 0
  have hl := hH.lt
  simp at hc
  by_cases hx : pbad x = true
  · go_enter Try.func38, Try.ntmps38
    go_wp2_with (go_at_call 36; refine (pbad_any _ _).mono ?_; rintro e w' ⟨rfl, rfl⟩)
    go_ret
    exact ⟨ret_bool (by rw [hx]; rfl), (by repeat (first | (with_reducible assumption) | (with_reducible exact More.refl _) | (with_reducible refine More.alloc ?_ _) | (with_reducible refine More.more ?_ _ _) | (with_reducible refine More.drewN ?_ _) | (with_reducible refine More.drew ?_)))⟩
  · have hx' : pbad x = false := by simpa using hx
    go_enter Try.func38, Try.ntmps38
    go_wp2_with (go_at_call 36; refine (pbad_any _ _).mono ?_; rintro e w' ⟨rfl, rfl⟩)
    go_ret
    exact ⟨ret_bool (by rw [hx']; rfl), (by repeat (first | (with_reducible assumption) | (with_reducible exact More.refl _) | (with_reducible refine More.alloc ?_ _) | (with_reducible refine More.more ?_ _ _) | (with_reducible refine More.drewN ?_ _) | (with_reducible refine More.drew ?_)))⟩

set_option maxHeartbeats 400000 in
theorem pindex_any (H : Nat) (a : Option Addr) (n c : Nat) (f : Nat → Nat → Int) (w : World) (hf : RowC w 2 a n f) (hH : Blk w H 54 #[.func (.func 36) #[] #[]]) (hn : n ≤ 1152921504606846976) :
    Calls Try.prog 45 #[.slice a n c, .func (.func 38) #[] #[.pointer (some ⟨H, 0, none⟩)]] w fun e w' => ∃ r : Int, e = .returned (.int .i64 r) ∧ (0 ≤ r ↔ ¬ PRight n f) ∧ More w w' := by
  go_enter Try.func45, Try.ntmps45
  go_wp2
  go_loopw [8] (fun i wr => ∃ (k : Nat) (os : Array Obj) (d : Nat), i = .int .i64 k ∧ k ≤ n ∧ wr = w.more os d ∧ Hid (PRight k f)) (fun i _ => n - (intOf i).toNat)
  case atStart => exact ⟨0, #[], w.drawn, rfl, Nat.zero_le _, by simp [World.more], fun j hj => absurd hj (by omega)⟩
  case round =>
    obtain ⟨k, os, d, rfl, hk, rfl, hall⟩ := hrel
    by_cases hlt : k < n
    · obtain ⟨b, off, x, y, rfl, hb, hcx, hcy, hx, hy⟩ := (hf.more os d).at2 hlt
      have hHm := hH.more os d
      by_cases hp : (pbad x || pbad y) = true
      · have HP := Lib.hid hp
        go_wp2_with fail
        refine (plook_any x y H _ hHm).mono ?_
        rintro e w1 ⟨rfl, os1, d1, rfl⟩
        rw [hp]
        go_wp2_with fail
        go_ret
        refine ⟨_, rfl, ⟨fun _ hc => ?_, fun _ => by omega⟩, (by repeat (first | (with_reducible assumption) | (with_reducible exact More.refl _) | (with_reducible refine More.alloc ?_ _) | (with_reducible refine More.more ?_ _ _) | (with_reducible refine More.drewN ?_ _) | (with_reducible refine More.drew ?_)))⟩
        have h1 := hc k hlt
        have h2 := HP.out
        rw [hx.out, hy.out, Bool.or_eq_true] at h2
        rcases h2 with h2 | h2
        · rw [pbad_iff.2 h1.1] at h2; cases h2
        · rw [pbad_iff.2 h1.2] at h2; cases h2
      · have hp' : (pbad x || pbad y) = false := by simpa using hp
        have HP := Lib.hid hp'
        clear hp hp'
        go_wp2_with fail
        refine (plook_any x y H _ hHm).mono ?_
        rintro e w1 ⟨rfl, os1, d1, rfl⟩
        rw [HP.out]
        go_wp2_with fail
        go_roundw
        case rel =>
          refine ⟨k + 1, os ++ os1, d1, by go_num, by omega, by simp [World.more], fun j hj => ?_⟩
          rcases Nat.lt_succ_iff_lt_or_eq.1 hj with h | h
          · exact hall.out j h
          · subst h
            have h2 := HP.out
            rw [Bool.or_eq_false_iff, hx.out, hy.out] at h2
            exact ⟨pbad_iff.1 h2.1, pbad_iff.1 h2.2⟩
        case measure => simp [intOf]; omega
    · obtain rfl : k = n := by omega
      go_wp2
      go_ret
      exact ⟨_, rfl, ⟨fun h => by omega, fun h => absurd hall.out h⟩, (by repeat (first | (with_reducible assumption) | (with_reducible exact More.refl _) | (with_reducible refine More.alloc ?_ _) | (with_reducible refine More.more ?_ _ _) | (with_reducible refine More.drewN ?_ _) | (with_reducible refine More.drew ?_)))⟩

theorem pcontains_any (H : Nat) (a : Option Addr) (n c : Nat) (f : Nat → Nat → Int) (w : World) (hf : RowC w 2 a n f) (hH : Blk w H 54 #[.func (.func 36) #[] #[]]) (hn : n ≤ 1152921504606846976) :
    Calls Try.prog 37 #[.slice a n c, .func (.func 38) #[] #[.pointer (some ⟨H, 0, none⟩)]] w fun e w' => e = .returned (.bool !(pRight n f)) ∧ More w w' := by
  go_enter Try.func37, Try.ntmps37
  go_wp2_with fail
  refine (pindex_any H a n c f _ hf hH hn).mono ?_
  rintro e w' ⟨r, rfl, hr, os, d, rfl⟩
  have HR := Lib.hid hr
  clear hr
  go_wp2
  go_ret
  refine ⟨ret_bool_iff ?_, (by repeat (first | (with_reducible assumption) | (with_reducible exact More.refl _) | (with_reducible refine More.alloc ?_ _) | (with_reducible refine More.more ?_ _ _) | (with_reducible refine More.drewN ?_ _) | (with_reducible refine More.drew ?_)))⟩
  rw [Bool.not_eq_true', ← Bool.not_eq_true, pRight_iff, ← HR.out]
  simp

theorem pright_any (a : Option Addr) (n c : Nat) (f : Nat → Nat → Int) (w : World) (hf : RowC w 2 a n f) (hn : n ≤ 1152921504606846976) :
    Calls Try.prog 19 #[.slice a n c] w fun e w' => e = .returned (.bool (pRight n f)) ∧ More w w' := by
  go_enter Try.func19, Try.ntmps19
  go_wp2_with fail
  refine (pcontains_any _ a n c f _ (hf.alloc _) (Blk.new _ _ _) hn).mono ?_
  rintro e w' ⟨rfl, os, d, rfl⟩
  go_wp2
  go_ret
  exact ⟨ret_bool (by simp), (by repeat (first | (with_reducible assumption) | (with_reducible exact More.refl _) | (with_reducible refine More.alloc ?_ _) | (with_reducible refine More.more ?_ _ _) | (with_reducible refine More.drewN ?_ _) | (with_reducible refine More.drew ?_)))⟩

theorem pways_none (a : Option Addr) (n c : Nat) (f : Nat → Nat → Int) (w : World) (hf : RowC w 2 a n f) (hn : n ≤ 1152921504606846976) (hr : pRight n f = false) :
    Calls Try.prog 21 #[.slice a n c] w fun e w' => e = .returned (.slice none 0 0) ∧ More w w' := by
  have HR := Lib.hid hr
  clear hr
  go_enter Try.func21, Try.ntmps21
  go_wp2_with fail
  refine (pright_any a n c f _ hf hn).mono ?_
  rintro e w' ⟨rfl, os, d, rfl⟩
  rw [HR.out]
  go_wp2
  go_ret
  exact ⟨rfl, (by repeat (first | (with_reducible assumption) | (with_reducible exact More.refl _) | (with_reducible refine More.alloc ?_ _) | (with_reducible refine More.more ?_ _ _) | (with_reducible refine More.drewN ?_ _) | (with_reducible refine More.drew ?_)))⟩

set_option maxHeartbeats 1000000 in
theorem pways_any (a : Option Addr) (n c : Nat) (f : Nat → Nat → Int) (w : World) (hf : RowC w 2 a n f) (hn : n ≤ 17592186044300) (hr : PRight n f) :
    Calls Try.prog 21 #[.slice a n c] w fun e w' => ∃ a' c', e = .returned (.slice a' n c') ∧ n ≤ c' ∧ Row w' a' n (pways f) ∧ Below w.heap.size w w' := by
  obtain ⟨i0_, hi, hz0, hz1, hz2⟩ := info_parts intInfo
  have HR := Lib.hid (pRight_true hr)
  have HB := Lib.hid hr
  clear hr
  go_enter Try.func21, Try.ntmps21
  go_wp2_with fail
  refine (pright_any a n c f _ hf (by omega)).mono ?_
  rintro e w' ⟨rfl, os, d, rfl⟩
  rw [HR.out]
  go_wp2_with fail
  go_loopw [3, 11] (fun out i wr => ∃ k : Nat, i = .int .i64 k ∧ k ≤ n ∧ wr.ownsAt w.heap.size 3 out k (cellsOf k (pways f)) ∧ Below w.heap.size w wr) (fun _ i _ => n - (intOf i).toNat)
  case atStart => exact ⟨0, rfl, Nat.zero_le _, ownsAt_nil _ _ _, More.below (by repeat (first | (with_reducible assumption) | (with_reducible exact More.refl _) | (with_reducible refine More.alloc ?_ _) | (with_reducible refine More.more ?_ _ _) | (with_reducible refine More.drewN ?_ _) | (with_reducible refine More.drew ?_)))⟩
  case round =>
    obtain ⟨k, rfl, hk, hown, hbe⟩ := hrel
    obtain ⟨ao, co, rfl, hco, hco'⟩ := hown.shape
    have hsz := hbe.size
    by_cases hlt : k < n
    · obtain ⟨b, off, x, y, rfl, hb, hcx, hcy, hx, hy⟩ := (hf.below hbe (Nat.le_refl _)).at2 hlt
      have hxb := HB.out k hlt
      rw [← hx.out, ← hy.out] at hxb
      obtain ⟨⟨x1, x2⟩, y1, y2⟩ := hxb
      have HW : Hid (y - x = pways f k) := by rw [hx.out, hy.out]; exact rfl
      go_wp2_with (at_builtin; refine wpList_append_at rfl (.tmp 15) (.tmp 21) 22 rfl w.heap.size 3 i0_ (.int .i64 0) 8 Try.underlying22 hi hz0 hz1 hz2 rfl (.slice ao k co) k (cellsOf k (pways f)) rfl ((hown.alloc _).alloc _) _ _ (.int .i64 (y - x)) rfl (Blk.cell (cs := #[.int .i64 (y - x)]) (t := 3) (by repeat (first | (with_reducible assumption) | ((with_reducible refine Blk.new' ?_); (simp [Nat.add_assoc]; done)) | (with_reducible refine Blk.alloc ?_ _) | (with_reducible refine Blk.more ?_ _ _) | (with_reducible refine Blk.drew ?_) | (with_reducible refine Blk.drewN ?_ _))) 0) rfl (by simp only [maxLen]; omega) (by omega) (by simp; omega) ?_; intro g5 o5 c5 w5 hown5 hgrow5 hlie5 hlt5)
      go_roundw
      case rel => exact ⟨k + 1, by go_num, by omega, by rw [cellsOf_succ, ← HW.out]; exact hown5, (((hbe.alloc hsz _).alloc (by simp; omega) _).grown hgrow5 (by simp; omega) fun b hb => (hown.lt b hb).1)⟩
      case measure => simp [intOf]; omega
    · obtain rfl : k = n := by omega
      go_wp2
      go_ret
      exact ⟨ao, co, rfl, hco, Row.of_at hown, hbe⟩
end Go.Proofs.Ytmlkebemkibipaa
