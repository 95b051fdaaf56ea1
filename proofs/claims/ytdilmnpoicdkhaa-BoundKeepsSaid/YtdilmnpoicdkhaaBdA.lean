/- What the laws of bounds use: alive8, premise. Conditions: none. -/
import Derived.Test.YtdilmnpoicdkhaaBound
import Derived.Test.YtdilmnpoicdkhaaMp
import Derived.Test.YtdilmnpoicdkhaaIsFlat
set_option linter.unusedVariables false
set_option linter.unusedSimpArgs false
namespace Go.Tide
theorem far_yes : FarOk 3 4 (rowOf [0, 3, 4]) (rowOf [0, 0, 3, 5]) := by
  intro t ht
  match t, ht with
  | 0, _ => exact ⟨0, by omega, by omega, by decide +kernel⟩
  | 1, _ => exact ⟨2, by omega, by omega, by decide +kernel⟩
  | 2, _ => exact ⟨3, by omega, by omega, by decide +kernel⟩
theorem far_one {r : Nat} (h : FarAt 3 4 (rowOf [0, 3, 4]) (rowOf [0, 0, 3, 5]) r) : r = 1 := by
  obtain ⟨h1, h2⟩ := h
  have a0 : ¬ (fit (rowOf [0, 3, 4] 1) ≤ fit (rowOf [0, 0, 3, 5] 1)) := by decide +kernel
  have a1 : ¬ (fit (rowOf [0, 0, 3, 5] 0) < fit (rowOf [0, 3, 4] 0)) := by decide +kernel
  have a2 : ¬ (fit (rowOf [0, 0, 3, 5] 2) < fit (rowOf [0, 3, 4] 1)) := by decide +kernel
  have hr : 0 < r := by
    obtain ⟨u, b1, b2, b3, b4⟩ := h1 1 (by omega)
    rcases Nat.eq_zero_or_pos r with h | h
    · obtain rfl : u = 1 := by omega
      exact absurd b4 a0
    · exact h
  rcases h2 with h | ⟨t, b1, b2, b3⟩
  · omega
  · match t, b1 with
    | 0, _ => exact absurd (b3 0 (by omega) (by omega)) a1
    | 1, _ =>
      rcases Nat.lt_or_ge r 2 with h | h
      · omega
      · exact absurd (b3 2 (by omega) (by omega)) a2
    | 2, _ => omega
theorem far_no : ¬ FarOk 1 1 (rowOf [9]) (rowOf [3]) := by
  intro h
  obtain ⟨u, b1, b2, b3⟩ := h 0 (by omega)
  obtain rfl : u = 0 := by omega
  revert b3
  decide +kernel
theorem kk_yes : KKept 3 3 (rowOf [0, 3, 5]) (rowOf [0, 3, 5]) := by
  have h : ∀ t, t < 3 → ∀ s, s < 3 → s ≤ t → less (rowOf [0, 3, 5] t) (rowOf [0, 3, 5] s) ≤ atOf 3 (rowOf [0, 3, 5]) ((t : Int) - s) := by decide +kernel
  exact fun t ht s hs => h t ht s (by omega) hs
theorem kk_no : ¬ KKept 3 3 (rowOf [0, 3, 9]) (rowOf [0, 3, 5]) := by
  intro h
  have := h 2 (by omega) 0 (by omega)
  revert this
  decide +kernel
/-- What tidewaitkeep.premise asks. -/
def Premise (n no nr ns : Nat) (i o row serve : Nat → Int) : Prop := CRight n i ∧ CRight no o ∧ no = n ∧ nr = n ∧ ns = n ∧ (AllIn n i 0 1099511627776 ∧ AllIn n o 0 1099511627776 ∧ AllIn n row 0 1099511627776 ∧ AllIn n serve 0 1099511627776) ∧
  KKept n n i row ∧ CWithin n n (conv i serve) o
def pick4 {α : Type} (k : Nat) (x y z u : α) : α := match k with
  | 0 => x
  | 1 => y
  | 2 => z
  | _ => u
end Go.Tide
namespace Go.Proofs.Ytdilmnpoicdkhaa
open Go.RowKit Go.Tide
set_option linter.unusedVariables false
set_option linter.unusedSimpArgs false

set_option maxHeartbeats 1000000 in
theorem bound_alive (w : World) : Calls Try.prog 51 #[] w fun e w' => e = .returned (.bool true) ∧ More w w' := by
  have E3 : Hid (hiTo (rowOf [0, 3, 4]) (rowOf [0, 0, 3]) (min 3 3) = 3) := by show _ = _; decide +kernel
  have E4 := Lib.hid (eqLit (n := 4) (m := 4) (f := servOf 2 1) (g := rowOf [0, 0, 2, 4]) rfl (by decide +kernel))
  have E5 := Lib.hid (kKept_true kk_yes)
  have E6 := Lib.hid (kKept_false kk_no)
  go_enter Try.func51, Try.ntmps51
  go_wp2_with fail
  refine (far_any _ _ 3 4 _ _ _ _ _ (by repeat (first | (with_reducible apply Row.drewN) | (with_reducible apply Row.more) | (refine Row.litR [0, 3, 4] (by simp [Nat.add_assoc]; done) (by rfl) (by rfl)) | (with_reducible apply Row.alloc))) (by repeat (first | (with_reducible apply Row.drewN) | (with_reducible apply Row.more) | (refine Row.litR [0, 0, 3, 5] (by simp [Nat.add_assoc]; done) (by rfl) (by rfl)) | (with_reducible apply Row.alloc))) (by omega) (by omega)).mono ?_
  rintro e w1 ⟨r_1, ok_1, rfl, hi_1, ha_1, os_1, d_1, rfl⟩
  obtain rfl : ok_1 = true := hi_1.2 far_yes
  obtain rfl : r_1 = 1 := far_one (ha_1 rfl)
  clear hi_1 ha_1
  go_wp2_with fail
  refine (far_any _ _ 1 1 _ _ _ _ _ (by repeat (first | (with_reducible apply Row.drewN) | (with_reducible apply Row.more) | (refine Row.litR [9] (by simp [Nat.add_assoc]; done) (by rfl) (by rfl)) | (with_reducible apply Row.alloc))) (by repeat (first | (with_reducible apply Row.drewN) | (with_reducible apply Row.more) | (refine Row.litR [3] (by simp [Nat.add_assoc]; done) (by rfl) (by rfl)) | (with_reducible apply Row.alloc))) (by omega) (by omega)).mono ?_
  rintro e w1 ⟨r_2, ok_2, rfl, hi_2, ha_2, os_2, d_2, rfl⟩
  obtain rfl : ok_2 = false := by cases ok_2 with | false => rfl | true => exact absurd (hi_2.1 rfl) far_no
  clear hi_2 ha_2
  go_wp2_with fail
  refine (high_any _ _ 3 3 _ _ _ _ _ (by repeat (first | (with_reducible apply Row.drewN) | (with_reducible apply Row.more) | (refine Row.litR [0, 3, 4] (by simp [Nat.add_assoc]; done) (by rfl) (by rfl)) | (with_reducible apply Row.alloc))) (by repeat (first | (with_reducible apply Row.drewN) | (with_reducible apply Row.more) | (refine Row.litR [0, 0, 3] (by simp [Nat.add_assoc]; done) (by rfl) (by rfl)) | (with_reducible apply Row.alloc))) (by omega) (by omega)).mono ?_
  rintro e w1 ⟨rfl, os_3, d_3, rfl⟩
  rw [E3.out]
  go_wp2_with fail
  refine (serves_any 2 1 4 _ (by omega) (by omega) (by omega) (by omega)).mono ?_
  rintro e w1 ⟨a_4, c_4, rfl, hc_4, hr_4, hb_4⟩
  obtain ⟨os_4, d_4, rfl⟩ := More.of_below hb_4
  go_wp2_with fail
  refine (equal_any _ _ 4 4 _ _ _ _ _ (by repeat (first | (with_reducible assumption) | (with_reducible exact Row.nil) | (with_reducible apply Row.drewN) | (with_reducible apply Row.drew) | (with_reducible apply Row.more) | (with_reducible apply Row.alloc))) (by repeat (first | (with_reducible apply Row.drewN) | (with_reducible apply Row.more) | (refine Row.litR [0, 0, 2, 4] (by simp [Nat.add_assoc]; done) (by rfl) (by rfl)) | (with_reducible apply Row.alloc))) (by omega) (by omega)).mono ?_
  rintro e w1 ⟨rfl, os_5, d_5, rfl⟩
  rw [E4.out]
  go_wp2_with fail
  refine (bkk_any _ _ 3 3 _ _ _ _ _ (Row.alloc (Row.litR [0, 3, 5] (by simp [Nat.add_assoc]) (by rfl) (by rfl)) _) (Row.litR [0, 3, 5] (by simp [Nat.add_assoc]) (by rfl) (by rfl)) (by omega) (by omega)).mono ?_
  rintro e w1 ⟨rfl, os_6, d_6, rfl⟩
  rw [E5.out]
  go_wp2_with fail
  refine (bkk_any _ _ 3 3 _ _ _ _ _ (by repeat (first | (with_reducible apply Row.drewN) | (with_reducible apply Row.more) | (refine Row.litR [0, 3, 9] (by simp [Nat.add_assoc]; done) (by rfl) (by rfl)) | (with_reducible apply Row.alloc))) (by repeat (first | (with_reducible apply Row.drewN) | (with_reducible apply Row.more) | (refine Row.litR [0, 3, 5] (by simp [Nat.add_assoc]; done) (by rfl) (by rfl)) | (with_reducible apply Row.alloc))) (by omega) (by omega)).mono ?_
  rintro e w1 ⟨rfl, os_7, d_7, rfl⟩
  rw [E6.out]
  go_wp2
  go_ret
  exact ⟨rfl, (by repeat (first | (with_reducible assumption) | (with_reducible exact More.refl _) | (with_reducible refine More.alloc ?_ _) | (with_reducible refine More.more ?_ _ _) | (with_reducible refine More.drewN ?_ _) | (with_reducible refine More.drew ?_)))⟩

theorem pbad_looks : Looks 67 (fun x => decide (x < 0) || decide (1099511627776 < x)) := by
  refine ⟨fun x w => ?_, fun _ _ => rfl⟩
  go_enter Try.func67, Try.ntmps67
  go_wp2
  all_goals
    go_ret
    refine ⟨ret_bool_iff ?_, rfl⟩
    simp only [Bool.or_eq_true, decide_eq_true_eq, true_iff, iff_true, Bool.true_eq, Bool.false_eq_true] <;> omega

set_option maxHeartbeats 2000000 in
theorem premise_any (a b c d : Option Addr) (n no nr ns ca cb cc cd : Nat) (i o row serve : Nat → Int) (w : World) (hi : Row w a n i) (ho : Row w b no o) (hr : Row w c nr row) (hs : Row w d ns serve) (hn : n ≤ 17592186044400) (hno : no ≤ 17592186044400) :
    Calls Try.prog 52 #[.slice a n ca, .slice b no cb, .slice c nr cc, .slice d ns cd] w fun e w' => ∃ ok : Bool, e = .returned (.bool ok) ∧ (ok = true → Premise n no nr ns i o row serve) ∧ More w w' := by
  by_cases c1 : cRight n i = true
  · by_cases c2 : cRight no o = true
    · by_cases hl : no = n ∧ nr = n ∧ ns = n
      · obtain ⟨rfl, rfl, rfl⟩ := hl
        have E1 := Lib.hid c1
        have E2 := Lib.hid c2
        clear c1 c2
        go_enter Try.func52, Try.ntmps52
        go_wp2_with fail
        refine (cright_any _ ns _ (i) _ (by repeat (first | (with_reducible assumption) | (with_reducible exact Row.nil) | (with_reducible apply Row.drewN) | (with_reducible apply Row.drew) | (with_reducible apply Row.more) | (with_reducible apply Row.alloc))) (by omega)).mono ?_
        rintro e w1 ⟨rfl, os_1, d_1, rfl⟩
        rw [E1.out]
        go_wp2_with fail
        refine (cright_any _ ns _ (o) _ (by repeat (first | (with_reducible assumption) | (with_reducible exact Row.nil) | (with_reducible apply Row.drewN) | (with_reducible apply Row.drew) | (with_reducible apply Row.more) | (with_reducible apply Row.alloc))) (by omega)).mono ?_
        rintro e w1 ⟨rfl, os_2, d_2, rfl⟩
        rw [E2.out]
        go_wp2_with fail
        have hm1 : More w ((((w.more os_1 d_1).more os_2 d_2)).alloc (.cells #[.slice a ns ca, .slice b ns cb, .slice c ns cc, .slice d ns cd] 22)) := (by repeat (first | (with_reducible exact More.refl _) | (with_reducible refine More.alloc ?_ _) | (with_reducible refine More.more ?_ _ _) | (with_reducible refine More.drewN ?_ _) | (with_reducible refine More.drew ?_)))
        have hi1 : Row ((((w.more os_1 d_1).more os_2 d_2)).alloc (.cells #[.slice a ns ca, .slice b ns cb, .slice c ns cc, .slice d ns cd] 22)) a ns i := (by repeat (first | (with_reducible assumption) | (with_reducible exact Row.nil) | (with_reducible apply Row.drewN) | (with_reducible apply Row.drew) | (with_reducible apply Row.more) | (with_reducible apply Row.alloc)))
        have ho1 : Row ((((w.more os_1 d_1).more os_2 d_2)).alloc (.cells #[.slice a ns ca, .slice b ns cb, .slice c ns cc, .slice d ns cd] 22)) b ns o := (by repeat (first | (with_reducible assumption) | (with_reducible exact Row.nil) | (with_reducible apply Row.drewN) | (with_reducible apply Row.drew) | (with_reducible apply Row.more) | (with_reducible apply Row.alloc)))
        have hr1 : Row ((((w.more os_1 d_1).more os_2 d_2)).alloc (.cells #[.slice a ns ca, .slice b ns cb, .slice c ns cc, .slice d ns cd] 22)) c ns row := (by repeat (first | (with_reducible assumption) | (with_reducible exact Row.nil) | (with_reducible apply Row.drewN) | (with_reducible apply Row.drew) | (with_reducible apply Row.more) | (with_reducible apply Row.alloc)))
        have hs1 : Row ((((w.more os_1 d_1).more os_2 d_2)).alloc (.cells #[.slice a ns ca, .slice b ns cb, .slice c ns cc, .slice d ns cd] 22)) d ns serve := (by repeat (first | (with_reducible assumption) | (with_reducible exact Row.nil) | (with_reducible apply Row.drewN) | (with_reducible apply Row.drew) | (with_reducible apply Row.more) | (with_reducible apply Row.alloc)))
        have hbk : Blk ((((w.more os_1 d_1).more os_2 d_2)).alloc (.cells #[.slice a ns ca, .slice b ns cb, .slice c ns cc, .slice d ns cd] 22)) (w.heap.size + (os_1.size + os_2.size)) 22 #[.slice a ns ca, .slice b ns cb, .slice c ns cc, .slice d ns cd] := (by repeat (first | (with_reducible assumption) | ((with_reducible refine Blk.new' ?_); (simp [Nat.add_assoc]; done)) | (with_reducible refine Blk.alloc ?_ _) | (with_reducible refine Blk.more ?_ _ _) | (with_reducible refine Blk.drew ?_) | (with_reducible refine Blk.drewN ?_ _)))
        have hblt := hbk.lt
        have hp0 : ((((w.more os_1 d_1).more os_2 d_2)).alloc (.cells #[.slice a ns ca, .slice b ns cb, .slice c ns cc, .slice d ns cd] 22)).cell? ⟨(w.heap.size + (os_1.size + os_2.size)), 0, none⟩ = some (.slice a ns ca) := hbk.cell 0
        have hp1 : ((((w.more os_1 d_1).more os_2 d_2)).alloc (.cells #[.slice a ns ca, .slice b ns cb, .slice c ns cc, .slice d ns cd] 22)).cell? ⟨(w.heap.size + (os_1.size + os_2.size)), 1, none⟩ = some (.slice b ns cb) := hbk.cell 1
        have hp2 : ((((w.more os_1 d_1).more os_2 d_2)).alloc (.cells #[.slice a ns ca, .slice b ns cb, .slice c ns cc, .slice d ns cd] 22)).cell? ⟨(w.heap.size + (os_1.size + os_2.size)), 2, none⟩ = some (.slice c ns cc) := hbk.cell 2
        have hp3 : ((((w.more os_1 d_1).more os_2 d_2)).alloc (.cells #[.slice a ns ca, .slice b ns cb, .slice c ns cc, .slice d ns cd] 22)).cell? ⟨(w.heap.size + (os_1.size + os_2.size)), 3, none⟩ = some (.slice d ns cd) := hbk.cell 3
        clear hi ho hr hs hbk
        generalize ((((w.more os_1 d_1).more os_2 d_2)).alloc (.cells #[.slice a ns ca, .slice b ns cb, .slice c ns cc, .slice d ns cd] 22)) = w1 at *
        generalize (w.heap.size + (os_1.size + os_2.size)) = gb at *
        have hpick : ∀ k, k < 4 → ∃ a c x, w1.cell? ⟨gb, k, none⟩ = some (.slice a ns c) ∧ Row w1 a ns x ∧ x = pick4 k i o row serve := by
          intro k hk
          match k, hk with
          | 0, _ => exact ⟨a, ca, i, hp0, hi1, rfl⟩
          | 1, _ => exact ⟨b, cb, o, hp1, ho1, rfl⟩
          | 2, _ => exact ⟨c, cc, row, hp2, hr1, rfl⟩
          | 3, _ => exact ⟨d, cd, serve, hp3, hs1, rfl⟩
        have HP := Lib.hid hpick
        clear hpick hp0 hp1 hp2 hp3
        go_loopw [46] (fun j wr => ∃ k dr : Nat, j = .int .i64 k ∧ k ≤ 4 ∧ (∀ q, q < k → AllIn ns (pick4 q i o row serve) 0 1099511627776) ∧ wr = w1.drewN dr) (fun j _ => 4 - (intOf j).toNat)
        case atStart => exact ⟨0, 0, rfl, Nat.zero_le _, fun q h => by omega, rfl⟩
        case round =>
          obtain ⟨k, dr, rfl, hk, hall, rfl⟩ := hrel
          have HA := Lib.hid hall
          clear hall
          by_cases hlt : k < 4
          · obtain ⟨a', c', x, hc, hx, he⟩ := HP.out k hlt
            have HE := Lib.hid he
            clear he
            have q2 : (k : Int) < 4 := by omega
            by_cases hA : allIn ns x 0 1099511627776 = true
            · have hS : someIn ns x (fun x => decide (x < 0) || decide (1099511627776 < x)) = false := by
                rw [← not_someIn, Bool.not_eq_true'] at hA
                exact hA
              have HS := Lib.hid hS
              have HAL := Lib.hid (allIn_iff.1 hA)
              clear hA hS
              go_wp2_with fail
              refine (contains_any _ _ pbad_looks _ ns _ x _ (by repeat (first | (with_reducible assumption) | (with_reducible exact Row.nil) | (with_reducible apply Row.drewN) | (with_reducible apply Row.drew) | (with_reducible apply Row.more) | (with_reducible apply Row.alloc))) (by omega)).mono ?_
              rintro e w' ⟨rfl, rfl⟩
              rw [HS.out]
              go_wp2_with fail
              go_roundw
              case rel =>
                refine ⟨k + 1, _, by go_num, by omega, fun q h => ?_, rfl⟩
                rcases Nat.lt_succ_iff_lt_or_eq.1 h with h | h
                · exact HA.out q h
                · subst h; rw [← HE.out]; exact HAL.out
              case measure => simp [intOf]; omega
            · have hS : someIn ns x (fun x => decide (x < 0) || decide (1099511627776 < x)) = true := by
                rw [← not_someIn, Bool.not_eq_true', Bool.not_eq_false] at hA
                exact hA
              have HS := Lib.hid hS
              clear hA hS
              go_wp2_with fail
              refine (contains_any _ _ pbad_looks _ ns _ x _ (by repeat (first | (with_reducible assumption) | (with_reducible exact Row.nil) | (with_reducible apply Row.drewN) | (with_reducible apply Row.drew) | (with_reducible apply Row.more) | (with_reducible apply Row.alloc))) (by omega)).mono ?_
              rintro e w' ⟨rfl, rfl⟩
              rw [HS.out]
              go_wp2_with fail
              go_ret
              exact ⟨false, rfl, (fun h => by cases h), hm1.drewN _⟩
          · obtain rfl : k = 4 := by omega
            have hm2 : More w (w1.drewN dr) := hm1.drewN _
            have hi2 : Row (w1.drewN dr) a ns i := hi1.drewN _
            have ho2 : Row (w1.drewN dr) b ns o := ho1.drewN _
            have hr2 : Row (w1.drewN dr) c ns row := hr1.drewN _
            have hs2 : Row (w1.drewN dr) d ns serve := hs1.drewN _
            clear hm1 hi1 ho1 hr1 hs1
            generalize w1.drewN dr = w2 at *
            by_cases c3 : kKept ns ns i row = true
            · have E3 := Lib.hid c3
              by_cases c4 : cWithin ns ns (conv i serve) o = true
              · have hP : Hid (Premise ns ns ns ns i o row serve) := ⟨cRight_iff.1 E1.out, cRight_iff.1 E2.out, rfl, rfl, rfl, ⟨HA.out 0 (by omega), HA.out 1 (by omega), HA.out 2 (by omega), HA.out 3 (by omega)⟩, kKept_iff.1 c3, cWithin_iff.1 c4⟩
                have E4 := Lib.hid c4
                clear c3 c4
                go_wp2_with fail
                refine (bkk_any _ _ ns ns _ _ i row _ (by repeat (first | (with_reducible assumption) | (with_reducible exact Row.nil) | (with_reducible apply Row.drewN) | (with_reducible apply Row.drew) | (with_reducible apply Row.more) | (with_reducible apply Row.alloc))) (by repeat (first | (with_reducible assumption) | (with_reducible exact Row.nil) | (with_reducible apply Row.drewN) | (with_reducible apply Row.drew) | (with_reducible apply Row.more) | (with_reducible apply Row.alloc))) (by omega) (by omega)).mono ?_
                rintro e w' ⟨rfl, os3, d3, rfl⟩
                rw [E3.out]
                go_wp2_with fail
                refine (conv_any _ _ ns ns _ _ i serve _ (by repeat (first | (with_reducible assumption) | (with_reducible exact Row.nil) | (with_reducible apply Row.drewN) | (with_reducible apply Row.drew) | (with_reducible apply Row.more) | (with_reducible apply Row.alloc))) (by repeat (first | (with_reducible assumption) | (with_reducible exact Row.nil) | (with_reducible apply Row.drewN) | (with_reducible apply Row.drew) | (with_reducible apply Row.more) | (with_reducible apply Row.alloc))) (by omega) (by omega)).mono ?_
                rw [Nat.min_self]
                rintro e w' ⟨a4, c4, rfl, hc4, hr4, hb4⟩
                obtain ⟨os4, d4, rfl⟩ := More.of_below hb4
                go_wp2_with fail
                refine (cwithin_any _ _ ns ns _ _ (conv i serve) o _ (by repeat (first | (with_reducible assumption) | (with_reducible exact Row.nil) | (with_reducible apply Row.drewN) | (with_reducible apply Row.drew) | (with_reducible apply Row.more) | (with_reducible apply Row.alloc))) (by repeat (first | (with_reducible assumption) | (with_reducible exact Row.nil) | (with_reducible apply Row.drewN) | (with_reducible apply Row.drew) | (with_reducible apply Row.more) | (with_reducible apply Row.alloc))) (by omega) (by omega)).mono ?_
                rintro e w' ⟨rfl, os5, d5, rfl⟩
                rw [E4.out]
                go_wp2
                go_ret
                exact ⟨true, rfl, fun _ => hP.out, (by repeat (first | (with_reducible assumption) | (with_reducible exact More.refl _) | (with_reducible refine More.alloc ?_ _) | (with_reducible refine More.more ?_ _ _) | (with_reducible refine More.drewN ?_ _) | (with_reducible refine More.drew ?_)))⟩
              · have c4' : cWithin ns ns (conv i serve) o = false := by simpa using c4
                have E4 := Lib.hid c4'
                clear c3 c4 c4'
                go_wp2_with fail
                refine (bkk_any _ _ ns ns _ _ i row _ (by repeat (first | (with_reducible assumption) | (with_reducible exact Row.nil) | (with_reducible apply Row.drewN) | (with_reducible apply Row.drew) | (with_reducible apply Row.more) | (with_reducible apply Row.alloc))) (by repeat (first | (with_reducible assumption) | (with_reducible exact Row.nil) | (with_reducible apply Row.drewN) | (with_reducible apply Row.drew) | (with_reducible apply Row.more) | (with_reducible apply Row.alloc))) (by omega) (by omega)).mono ?_
                rintro e w' ⟨rfl, os3, d3, rfl⟩
                rw [E3.out]
                go_wp2_with fail
                refine (conv_any _ _ ns ns _ _ i serve _ (by repeat (first | (with_reducible assumption) | (with_reducible exact Row.nil) | (with_reducible apply Row.drewN) | (with_reducible apply Row.drew) | (with_reducible apply Row.more) | (with_reducible apply Row.alloc))) (by repeat (first | (with_reducible assumption) | (with_reducible exact Row.nil) | (with_reducible apply Row.drewN) | (with_reducible apply Row.drew) | (with_reducible apply Row.more) | (with_reducible apply Row.alloc))) (by omega) (by omega)).mono ?_
                rw [Nat.min_self]
                rintro e w' ⟨a4, c4, rfl, hc4, hr4, hb4⟩
                obtain ⟨os4, d4, rfl⟩ := More.of_below hb4
                go_wp2_with fail
                refine (cwithin_any _ _ ns ns _ _ (conv i serve) o _ (by repeat (first | (with_reducible assumption) | (with_reducible exact Row.nil) | (with_reducible apply Row.drewN) | (with_reducible apply Row.drew) | (with_reducible apply Row.more) | (with_reducible apply Row.alloc))) (by repeat (first | (with_reducible assumption) | (with_reducible exact Row.nil) | (with_reducible apply Row.drewN) | (with_reducible apply Row.drew) | (with_reducible apply Row.more) | (with_reducible apply Row.alloc))) (by omega) (by omega)).mono ?_
                rintro e w' ⟨rfl, os5, d5, rfl⟩
                rw [E4.out]
                go_wp2
                go_ret
                exact ⟨false, rfl, (fun h => by cases h), (by repeat (first | (with_reducible assumption) | (with_reducible exact More.refl _) | (with_reducible refine More.alloc ?_ _) | (with_reducible refine More.more ?_ _ _) | (with_reducible refine More.drewN ?_ _) | (with_reducible refine More.drew ?_)))⟩
            · have c3' : kKept ns ns i row = false := by simpa using c3
              have E3 := Lib.hid c3'
              clear c3 c3'
              go_wp2_with fail
              refine (bkk_any _ _ ns ns _ _ i row _ (by repeat (first | (with_reducible assumption) | (with_reducible exact Row.nil) | (with_reducible apply Row.drewN) | (with_reducible apply Row.drew) | (with_reducible apply Row.more) | (with_reducible apply Row.alloc))) (by repeat (first | (with_reducible assumption) | (with_reducible exact Row.nil) | (with_reducible apply Row.drewN) | (with_reducible apply Row.drew) | (with_reducible apply Row.more) | (with_reducible apply Row.alloc))) (by omega) (by omega)).mono ?_
              rintro e w' ⟨rfl, os3, d3, rfl⟩
              rw [E3.out]
              go_wp2
              go_ret
              exact ⟨false, rfl, (fun h => by cases h), (by repeat (first | (with_reducible assumption) | (with_reducible exact More.refl _) | (with_reducible refine More.alloc ?_ _) | (with_reducible refine More.more ?_ _ _) | (with_reducible refine More.drewN ?_ _) | (with_reducible refine More.drew ?_)))⟩
      · have E1 := Lib.hid c1
        have E2 := Lib.hid c2
        clear c1 c2
        go_enter Try.func52, Try.ntmps52
        go_wp2_with fail
        refine (cright_any _ n _ (i) _ (by repeat (first | (with_reducible assumption) | (with_reducible exact Row.nil) | (with_reducible apply Row.drewN) | (with_reducible apply Row.drew) | (with_reducible apply Row.more) | (with_reducible apply Row.alloc))) (by omega)).mono ?_
        rintro e w1 ⟨rfl, os_1, d_1, rfl⟩
        rw [E1.out]
        go_wp2_with fail
        refine (cright_any _ no _ (o) _ (by repeat (first | (with_reducible assumption) | (with_reducible exact Row.nil) | (with_reducible apply Row.drewN) | (with_reducible apply Row.drew) | (with_reducible apply Row.more) | (with_reducible apply Row.alloc))) (by omega)).mono ?_
        rintro e w1 ⟨rfl, os_2, d_2, rfl⟩
        rw [E2.out]
        go_wp2_with fail
        all_goals
          go_ret
          exact ⟨false, rfl, (fun h => by cases h), (by repeat (first | (with_reducible assumption) | (with_reducible exact More.refl _) | (with_reducible refine More.alloc ?_ _) | (with_reducible refine More.more ?_ _ _) | (with_reducible refine More.drewN ?_ _) | (with_reducible refine More.drew ?_)))⟩
    · have c2' : cRight no o = false := by simpa using c2
      have E1 := Lib.hid c1
      have E2 := Lib.hid c2'
      clear c1 c2 c2'
      go_enter Try.func52, Try.ntmps52
      go_wp2_with fail
      refine (cright_any _ n _ (i) _ (by repeat (first | (with_reducible assumption) | (with_reducible exact Row.nil) | (with_reducible apply Row.drewN) | (with_reducible apply Row.drew) | (with_reducible apply Row.more) | (with_reducible apply Row.alloc))) (by omega)).mono ?_
      rintro e w1 ⟨rfl, os_1, d_1, rfl⟩
      rw [E1.out]
      go_wp2_with fail
      refine (cright_any _ no _ (o) _ (by repeat (first | (with_reducible assumption) | (with_reducible exact Row.nil) | (with_reducible apply Row.drewN) | (with_reducible apply Row.drew) | (with_reducible apply Row.more) | (with_reducible apply Row.alloc))) (by omega)).mono ?_
      rintro e w1 ⟨rfl, os_2, d_2, rfl⟩
      rw [E2.out]
      go_wp2
      go_ret
      exact ⟨false, rfl, (fun h => by cases h), (by repeat (first | (with_reducible assumption) | (with_reducible exact More.refl _) | (with_reducible refine More.alloc ?_ _) | (with_reducible refine More.more ?_ _ _) | (with_reducible refine More.drewN ?_ _) | (with_reducible refine More.drew ?_)))⟩
  · have c1' : cRight n i = false := by simpa using c1
    have E1 := Lib.hid c1'
    clear c1 c1'
    go_enter Try.func52, Try.ntmps52
    go_wp2_with fail
    refine (cright_any _ n _ (i) _ (by repeat (first | (with_reducible assumption) | (with_reducible exact Row.nil) | (with_reducible apply Row.drewN) | (with_reducible apply Row.drew) | (with_reducible apply Row.more) | (with_reducible apply Row.alloc))) (by omega)).mono ?_
    rintro e w1 ⟨rfl, os_1, d_1, rfl⟩
    rw [E1.out]
    go_wp2
    go_ret
    exact ⟨false, rfl, (fun h => by cases h), (by repeat (first | (with_reducible assumption) | (with_reducible exact More.refl _) | (with_reducible refine More.alloc ?_ _) | (with_reducible refine More.more ?_ _ _) | (with_reducible refine More.drewN ?_ _) | (with_reducible refine More.drew ?_)))⟩
end Go.Proofs.Ytdilmnpoicdkhaa
