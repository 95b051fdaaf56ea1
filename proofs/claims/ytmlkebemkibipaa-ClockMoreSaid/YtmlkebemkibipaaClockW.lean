/- What clock.Waits answers, for every input; alive10. Conditions: lengths within the form's reach. -/
import Derived.Test.YtmlkebemkibipaaClock
import Derived.Test.YtmlkebemkibipaaSlEqual
set_option linter.unusedVariables false
set_option linter.unusedSimpArgs false
namespace Go.Proofs.Ytmlkebemkibipaa
open Go.RowKit Go.Tide
set_option linter.unusedVariables false
set_option linter.unusedSimpArgs false

set_option maxHeartbeats 1000000 in
theorem pwaits_any (a : Option Addr) (n c : Nat) (f : Nat → Nat → Int) (w : World) (hf : RowC w 2 a n f) (hn : n ≤ 17592186044300) (hr : PRight n f) (part keep : Int) (hp : 1 ≤ part) (hpb : part ≤ 9223372036854775807) (hk : 1 ≤ keep) (hkb : keep ≤ 9223372036854775807) :
    Calls Try.prog 20 #[.slice a n c, .int .i64 part, .int .i64 keep] w fun e w' => ∃ a' c', e = .returned (.slice a' n c') ∧ n ≤ c' ∧ Row w' a' n (pwaits f part keep) ∧ Below w.heap.size w w' := by
  obtain ⟨i0_, hi, hz0, hz1, hz2⟩ := info_parts intInfo
  have HB : Hid (∀ k, k < n → (-2199023255552 ≤ pways f k ∧ pways f k ≤ 2199023255552) ∧ -2199023255552 ≤ baseOf (pways f) part keep k ∧ baseOf (pways f) part keep k ≤ 2199023255552) := fun k h => ⟨pways_bounds hr h, base_bounds hp hk h fun j hj => pways_bounds hr hj⟩
  go_enter Try.func20, Try.ntmps20
  go_wp2_with fail
  refine (pways_any a n c f _ hf hn hr).mono ?_
  rintro e w1 ⟨a_1, c_1, rfl, hc_1, hr_1, hb_1⟩
  obtain ⟨os_1, d_1, rfl⟩ := More.of_below hb_1
  go_wp2_with fail
  refine (base_any _ n _ (pways f) _ (by repeat (first | (with_reducible assumption) | (with_reducible exact Row.nil) | (with_reducible apply Row.drewN) | (with_reducible apply Row.drew) | (with_reducible apply Row.more) | (with_reducible apply Row.alloc))) hn part keep hp hpb hk hkb).mono ?_
  rintro e w1 ⟨a_2, c_2, rfl, hc_2, hr_2, hb_2⟩
  obtain ⟨os_2, d_2, rfl⟩ := More.of_below hb_2
  have hmz : More w ((w.more os_1 d_1).more os_2 d_2) := (by repeat (first | (with_reducible assumption) | (with_reducible exact More.refl _) | (with_reducible refine More.alloc ?_ _) | (with_reducible refine More.more ?_ _ _) | (with_reducible refine More.drewN ?_ _) | (with_reducible refine More.drew ?_)))
  have hWz : Row ((w.more os_1 d_1).more os_2 d_2) a_1 n (pways f) := (by repeat (first | (with_reducible assumption) | (with_reducible exact Row.nil) | (with_reducible apply Row.drewN) | (with_reducible apply Row.drew) | (with_reducible apply Row.more) | (with_reducible apply Row.alloc)))
  have hBz : Row ((w.more os_1 d_1).more os_2 d_2) a_2 n (baseOf (pways f) part keep) := (by repeat (first | (with_reducible assumption) | (with_reducible exact Row.nil) | (with_reducible apply Row.drewN) | (with_reducible apply Row.drew) | (with_reducible apply Row.more) | (with_reducible apply Row.alloc)))
  clear hr_1 hr_2 hb_1 hb_2
  generalize (w.more os_1 d_1).more os_2 d_2 = wz at *
  have hbz := hmz.below
  go_wp2_with fail
  go_loopw [8, 18] (fun out i wr => ∃ k : Nat, i = .int .i64 k ∧ k ≤ n ∧ wr.ownsAt wz.heap.size 3 out k (cellsOf k (pwaits f part keep)) ∧ Below wz.heap.size wz wr) (fun _ i _ => n - (intOf i).toNat)
  case atStart => exact ⟨0, rfl, Nat.zero_le _, ownsAt_nil _ _ _, Below.refl _ _⟩
  case round =>
    obtain ⟨k, rfl, hk', hown, hbe⟩ := hrel
    obtain ⟨ao, co, rfl, hco, hco'⟩ := hown.shape
    have hsz := hbe.size
    by_cases hlt : k < n
    · obtain ⟨b1, o1, x, rfl, hb1, hc1, hx⟩ := (hWz.below hbe (Nat.le_refl _)).at_ hlt
      obtain ⟨b2, o2, y, rfl, hb2, hc2, hy⟩ := (hBz.below hbe (Nat.le_refl _)).at_ hlt
      have hxb := HB.out k hlt
      rw [← hx.out, ← hy.out] at hxb
      obtain ⟨⟨x1, x2⟩, y1, y2⟩ := hxb
      have HW : Hid (x - y = pwaits f part keep k) := by rw [hx.out, hy.out]; exact rfl
      go_wp2_with (at_builtin; refine wpList_append_at rfl (.tmp 23) (.tmp 30) 22 rfl wz.heap.size 3 i0_ (.int .i64 0) 8 Try.underlying22 hi hz0 hz1 hz2 rfl (.slice ao k co) k (cellsOf k (pwaits f part keep)) rfl (hown.alloc _) _ _ (.int .i64 (x - y)) rfl (Blk.cell (cs := #[.int .i64 (x - y)]) (t := 3) (by repeat (first | (with_reducible assumption) | ((with_reducible refine Blk.new' ?_); (simp [Nat.add_assoc]; done)) | (with_reducible refine Blk.alloc ?_ _) | (with_reducible refine Blk.more ?_ _ _) | (with_reducible refine Blk.drew ?_) | (with_reducible refine Blk.drewN ?_ _))) 0) rfl (by simp only [maxLen]; omega) (by omega) (by simp; omega) ?_; intro g5 o5 c5 w5 hown5 hgrow5 hlie5 hlt5)
      go_roundw
      case rel => exact ⟨k + 1, by go_num, by omega, by rw [cellsOf_succ, ← HW.out]; exact hown5, ((hbe.alloc hsz _).grown hgrow5 (by simp; omega) fun b hb => (hown.lt b hb).1)⟩
      case measure => simp [intOf]; omega
    · obtain rfl : k = n := by omega
      have hs0 := hbz.size
      go_wp2
      go_ret
      exact ⟨ao, co, rfl, hco, Row.of_at hown, hbz.trans (hbe.mono hs0)⟩

set_option maxHeartbeats 400000 in
theorem pwaits_off (a : Option Addr) (n c : Nat) (f : Nat → Nat → Int) (w : World) (hf : RowC w 2 a n f) (hn : n ≤ 17592186044300) (hr : PRight n f) (part keep : Int) (hp : part < 1 ∨ keep < 1) :
    Calls Try.prog 20 #[.slice a n c, .int .i64 part, .int .i64 keep] w fun e w' => e = .returned (.slice none 0 0) ∧ More w w' := by
  go_enter Try.func20, Try.ntmps20
  go_wp2_with fail
  refine (pways_any a n c f _ hf hn hr).mono ?_
  rintro e w1 ⟨a_1, c_1, rfl, hc_1, hr_1, hb_1⟩
  obtain ⟨os_1, d_1, rfl⟩ := More.of_below hb_1
  have HP := Lib.hid hp
  clear hp hb_1 hr_1
  go_wp2_with fail
  refine (base_none _ _ _ part keep HP.out _).mono ?_
  rintro e w1 ⟨rfl, rfl⟩
  go_wp2_with fail
  have hmz : More w (w.more os_1 d_1) := (by repeat (first | (with_reducible assumption) | (with_reducible exact More.refl _) | (with_reducible refine More.alloc ?_ _) | (with_reducible refine More.more ?_ _ _) | (with_reducible refine More.drewN ?_ _) | (with_reducible refine More.drew ?_)))
  generalize w.more os_1 d_1 = wz at *
  go_loopw [8, 18] (fun out i wr => out = .slice none 0 0 ∧ i = .int .i64 0 ∧ wr = wz) (fun _ i _ => 0)
  case atStart => exact ⟨rfl, rfl, rfl⟩
  case round =>
    obtain ⟨rfl, rfl, rfl⟩ := hrel
    go_wp2
    go_ret
    exact ⟨rfl, hmz⟩

set_option maxHeartbeats 400000 in
theorem pwaits_bad (a : Option Addr) (n c : Nat) (f : Nat → Nat → Int) (w : World) (hf : RowC w 2 a n f) (hn : n ≤ 17592186044300) (hr : pRight n f = false) (part keep : Int) (hpb : part ≤ 9223372036854775807) (hkb : keep ≤ 9223372036854775807) :
    Calls Try.prog 20 #[.slice a n c, .int .i64 part, .int .i64 keep] w fun e w' => e = .returned (.slice none 0 0) ∧ More w w' := by
  have HR := Lib.hid hr
  clear hr
  by_cases hp : part < 1 ∨ keep < 1
  · have HP := Lib.hid hp
    clear hp
    go_enter Try.func20, Try.ntmps20
    go_wp2_with fail
    refine (pways_none a n c f _ hf (by omega) HR.out).mono ?_
    rintro e w1 ⟨rfl, os_1, d_1, rfl⟩
    go_wp2_with fail
    refine (base_none _ _ _ part keep HP.out _).mono ?_
    rintro e w1 ⟨rfl, rfl⟩
    go_wp2_with fail
    have hmz : More w (w.more os_1 d_1) := (by repeat (first | (with_reducible assumption) | (with_reducible exact More.refl _) | (with_reducible refine More.alloc ?_ _) | (with_reducible refine More.more ?_ _ _) | (with_reducible refine More.drewN ?_ _) | (with_reducible refine More.drew ?_)))
    generalize w.more os_1 d_1 = wz at *
    go_loopw [8, 18] (fun out i wr => out = .slice none 0 0 ∧ i = .int .i64 0 ∧ wr = wz) (fun _ i _ => 0)
    case atStart => exact ⟨rfl, rfl, rfl⟩
    case round =>
      obtain ⟨rfl, rfl, rfl⟩ := hrel
      go_wp2
      go_ret
      exact ⟨rfl, hmz⟩
  · go_enter Try.func20, Try.ntmps20
    go_wp2_with fail
    refine (pways_none a n c f _ hf (by omega) HR.out).mono ?_
    rintro e w1 ⟨rfl, os_1, d_1, rfl⟩
    go_wp2_with fail
    refine (base_any none 0 0 (fun _ => 0) _ Row.nil (by omega) part keep (by omega) hpb (by omega) hkb).mono ?_
    rintro e w1 ⟨a_2, c_2, rfl, hc_2, hr_2, hb_2⟩
    obtain ⟨os_2, d_2, rfl⟩ := More.of_below hb_2
    clear hb_2 hr_2 hp
    go_wp2_with fail
    have hmz : More w ((w.more os_1 d_1).more os_2 d_2) := (by repeat (first | (with_reducible assumption) | (with_reducible exact More.refl _) | (with_reducible refine More.alloc ?_ _) | (with_reducible refine More.more ?_ _ _) | (with_reducible refine More.drewN ?_ _) | (with_reducible refine More.drew ?_)))
    generalize (w.more os_1 d_1).more os_2 d_2 = wz at *
    go_loopw [8, 18] (fun out i wr => out = .slice none 0 0 ∧ i = .int .i64 0 ∧ wr = wz) (fun _ i _ => 0)
    case atStart => exact ⟨rfl, rfl, rfl⟩
    case round =>
      obtain ⟨rfl, rfl, rfl⟩ := hrel
      go_wp2
      go_ret
      exact ⟨rfl, hmz⟩
end Go.Proofs.Ytmlkebemkibipaa
