/- DuelAlike: for every input the law returns true. Conditions: none. -/
import Derived.Test.YtnlglhfpcoicaabDuelA
import Derived.Test.YtnlglhfpcoicaabDuelW
import Derived.Test.YtnlglhfpcoicaabIsFlat
set_option linter.unusedVariables false
set_option linter.unusedSimpArgs false
namespace Go.Proofs.Ytnlglhfpcoicaab
open Go.RowKit Go.Tide
set_option linter.unusedVariables false
set_option linter.unusedSimpArgs false
theorem arr2Info : (Try.prog.info? 22).map (fun i => (i.zero, i.size, i.bytes)) = some (some (.agg #[.int .i64 0, .int .i64 0]), 2, 16) := by kernel_rfl
theorem alike {r : DRules} {f : Nat → Nat → Int} (hk : r.k0 = r.k1) (hf : ∀ k, f k 0 = f k 1) : ∀ n, (dRun r f n).a = (dRun r f n).b := by
  intro n
  induction n with
  | zero => show (⟨r.k0, 1, -1, 0, 0, 0⟩ : Ctl) = ⟨r.k1, 1, -1, 0, 0, 0⟩; rw [hk]
  | succ n ih =>
    show cNext r.k0 (dRun r f n).a _ = cNext r.k1 (dRun r f n).b _
    rw [hk, ih, hf n]
set_option maxRecDepth 20000 in
set_option maxHeartbeats 8000000 in
theorem duelAlike_walk (a0_0 a0_1 a0_2 a0_3 a0_4 : Int) (a1 : Option Addr) (len1 cap1 : Nat) (z1 : List Int) (w : World) (b0_0 : InI64 a0_0) (b0_1 : InI64 a0_1) (b0_2 : InI64 a0_2) (b0_3 : InI64 a0_3) (b0_4 : InI64 a0_4) (f1 : IsFlat w a1 len1 cap1 1 z1) (r1 : cap1 * 8 ≤ 140737488351232) (s1 : len1 ≤ 1048576) :
    Calls Try.prog 3 #[.agg #[.int .i64 a0_0, .int .i64 a0_1, .int .i64 a0_2, .int .i64 a0_3, .int .i64 a0_4], .slice a1 len1 cap1] w fun e w' => e = .returned (.bool true) ∧ Below w.heap.size w w' := by
  obtain ⟨i0_, hi, hz0, hz1, hz2⟩ := info_parts arr2Info
  have hle1 : len1 ≤ cap1 := f1.le'
  have hs := f1.row
  generalize (fun k => z1.getD k 0) = f at hs
  clear f1 b0_0 b0_1 b0_2 b0_3 b0_4
  by_cases hK : dKind a0_0 ∧ dNums a0_2 a0_3 a0_4
  · obtain ⟨k0, hn⟩ := hK
    have hnn := hn
    obtain ⟨n1, n2, n3, n4, n5, n6⟩ := hnn
    obtain ⟨rate, rfl⟩ : ∃ n : Nat, a0_2 = n := ⟨a0_2.toNat, by omega⟩
    obtain ⟨buf, rfl⟩ : ∃ n : Nat, a0_3 = n := ⟨a0_3.toNat, by omega⟩
    have HK := Lib.hid k0
    have HN := Lib.hid hn
    clear k0 hn n1 n2 n3 n4 n5 n6
    go_enter Try.func3, Try.ntmps3
    go_wp2_with (go_at_call 6; refine (duel_alive _).mono ?_; rintro e w' ⟨rfl, os0, d0, rfl⟩)
    go_wp2_with fail
    have hm : More w ((w.alloc (.cells #[.int .i64 a0_0, .int .i64 a0_0, .int .i64 rate, .int .i64 buf, .int .i64 a0_4] 24)).more os0 d0) := (by repeat (first | (with_reducible assumption) | (with_reducible exact More.refl _) | (with_reducible refine More.alloc ?_ _) | (with_reducible refine More.more ?_ _ _) | (with_reducible refine More.drewN ?_ _) | (with_reducible refine More.drew ?_)))
    have hB1 : Blk ((w.alloc (.cells #[.int .i64 a0_0, .int .i64 a0_0, .int .i64 rate, .int .i64 buf, .int .i64 a0_4] 24)).more os0 d0) w.heap.size 24 #[.int .i64 a0_0, .int .i64 a0_0, .int .i64 rate, .int .i64 buf, .int .i64 a0_4] := (by repeat (first | (with_reducible assumption) | ((with_reducible refine Blk.new' ?_); (simp [Nat.add_assoc]; done)) | (with_reducible refine Blk.alloc ?_ _) | (with_reducible refine Blk.more ?_ _ _) | (with_reducible refine Blk.drew ?_) | (with_reducible refine Blk.drewN ?_ _)))
    have hz : Row ((w.alloc (.cells #[.int .i64 a0_0, .int .i64 a0_0, .int .i64 rate, .int .i64 buf, .int .i64 a0_4] 24)).more os0 d0) a1 len1 f := (by repeat (first | (with_reducible assumption) | (with_reducible exact Row.nil) | (with_reducible apply Row.drewN) | (with_reducible apply Row.drew) | (with_reducible apply Row.more) | (with_reducible apply Row.alloc)))
    have hlg := hB1.lt
    generalize ((w.alloc (.cells #[.int .i64 a0_0, .int .i64 a0_0, .int .i64 rate, .int .i64 buf, .int .i64 a0_4] 24)).more os0 d0) = wz at *
    have hmb := hm.below
    have hms := hmb.size
    go_loopw [5, 20] (fun out i wr => ∃ k : Nat, i = .int .i64 k ∧ k ≤ len1 ∧ wr.ownsRow wz.heap.size 22 2 out k (cellsC 2 k (fun k _ => f k)) ∧ Below wz.heap.size wz wr) (fun _ i _ => len1 - (intOf i).toNat)
    case atStart => exact ⟨0, rfl, Nat.zero_le _, World.ownsRow_nil _ _ _ _, Below.refl _ _⟩
    case round =>
      obtain ⟨k, rfl, hk, hown, hbw⟩ := hrel
      obtain ⟨ao, co, hv, hco⟩ := own_sliceC hown
      subst hv
      have hsz := hbw.size
      by_cases hlt : k < len1
      · obtain ⟨b, off, x, rfl, hb, hcx, hx⟩ := (hz.below hbw (Nat.le_refl _)).at_ hlt
        have HC : Hid ([.int .i64 x, .int .i64 x] = (List.range 2).map fun j => Value.int .i64 ((fun k (_ : Nat) => f k) k j)) := by rw [hx.out]; rfl
        go_wp2_with (at_builtin; refine wpList_append_own _ rfl (.tmp 24) (.tmp 28) 27 rfl wz.heap.size 22 i0_ (.agg #[.int .i64 0, .int .i64 0]) 2 16 Try.underlying27 hi hz0 hz1 hz2 rfl (by decide) (.slice ao k co) k (cellsC 2 k (fun k _ => f k)) rfl (hown.alloc _) _ 1 1 [.int .i64 x, .int .i64 x] rfl rfl (Blk.news (cs := #[.int .i64 x, .int .i64 x]) (t := 22) (by repeat (first | (with_reducible assumption) | ((with_reducible refine Blk.new' ?_); (simp [Nat.add_assoc]; done)) | (with_reducible refine Blk.alloc ?_ _) | (with_reducible refine Blk.more ?_ _ _) | (with_reducible refine Blk.drew ?_) | (with_reducible refine Blk.drewN ?_ _)))) (by simp [Value.oneCell']) (by simp only [maxLen]; omega) (by omega) (by simp; omega) ?_; intro v' w5 hown5 hgrow5 hnil; clear hnil)
        go_roundw
        case rel => exact ⟨k + 1, by go_num, by omega, by rw [cellsC_succ, ← HC.out]; exact hown5, (hbw.alloc hsz _).grown hgrow5 (by simp; omega) (own_base hown)⟩
        case measure => simp [intOf]; omega
      · obtain rfl : k = len1 := by omega
        have hrow : RowC wr 2 ao k (fun k _ => f k) := RowC.of_own (by omega) hown
        have hC1 : Blk wr w.heap.size 24 #[.int .i64 a0_0, .int .i64 a0_0, .int .i64 rate, .int .i64 buf, .int .i64 a0_4] := hB1.below hbw (by omega)
        have hbr : Below w.heap.size w wr := hmb.trans (hbw.mono hms)
        have hsr : w.heap.size ≤ wr.heap.size := by omega
        have hlr := hC1.lt
        have e0 : wr.cell? ⟨w.heap.size, 0, none⟩ = some (.int .i64 a0_0) := hC1.cell 0
        have e1 : wr.cell? ⟨w.heap.size, 1, none⟩ = some (.int .i64 a0_0) := hC1.cell 1
        have e2 : wr.cell? ⟨w.heap.size, 2, none⟩ = some (.int .i64 rate) := hC1.cell 2
        have e3 : wr.cell? ⟨w.heap.size, 3, none⟩ = some (.int .i64 buf) := hC1.cell 3
        have e4 : wr.cell? ⟨w.heap.size, 4, none⟩ = some (.int .i64 a0_4) := hC1.cell 4
        clear hown hbw hz hB1 hC1
        have HR : Hid (DRules.ok ⟨a0_0, a0_0, rate, buf, a0_4⟩) := ⟨HK.out, HK.out, HN.out⟩
        by_cases hA : dAll ⟨a0_0, a0_0, rate, buf, a0_4⟩ (fun k _ => f k) k
        · have HA := Lib.hid hA
          clear hA
          have HL : Hid ((dRun ⟨a0_0, a0_0, rate, buf, a0_4⟩ (fun k _ => f k) k).a = (dRun ⟨a0_0, a0_0, rate, buf, a0_4⟩ (fun k _ => f k) k).b) := alike rfl (fun _ => rfl) k
          go_wp2_with fail
          refine (play_ok ⟨a0_0, a0_0, rate, buf, a0_4⟩ ao k co (fun k _ => f k) _ (by repeat (first | (with_reducible assumption) | (with_reducible exact RowC.nil) | (with_reducible apply RowC.drewN) | (with_reducible apply RowC.drew) | (with_reducible apply RowC.more) | (with_reducible apply RowC.alloc))) s1 HR.out HA.out).mono ?_
          rintro e w1 ⟨ao2, co2, he, _, hb2⟩
          obtain ⟨s, hs⟩ : ∃ s, Hid (dRun ⟨a0_0, a0_0, rate, buf, a0_4⟩ (fun k _ => f k) k = s) := ⟨_, rfl⟩
          rw [hs.out] at he HL
          obtain ⟨sa, sb, x0, x1⟩ := s
          obtain rfl : sa = sb := HL.out
          obtain ⟨u0, u1, u2, u3, u4, u5⟩ := sa
          have he' : e = .returned (.tuple #[.slice ao2 k co2, .agg #[.int .i64 u0, .int .i64 u1, .int .i64 u2, .int .i64 u3, .int .i64 u4, .int .i64 u5, .int .i64 u0, .int .i64 u1, .int .i64 u2, .int .i64 u3, .int .i64 u4, .int .i64 u5, .int .i64 x0, .int .i64 x1], .int .i64 0]) := he
          subst he'
          obtain ⟨os2, d2, rfl⟩ := More.of_below hb2
          clear hb2 hs HL
          go_wp2
          go_ret
          exact ⟨rfl, below_then hbr hsr (by repeat (first | (with_reducible assumption) | (with_reducible exact More.refl _) | (with_reducible refine More.alloc ?_ _) | (with_reducible refine More.more ?_ _ _) | (with_reducible refine More.drewN ?_ _) | (with_reducible refine More.drew ?_)))⟩
        · have HA := Lib.hid hA
          clear hA
          go_wp2_with fail
          refine (play_any ⟨a0_0, a0_0, rate, buf, a0_4⟩ ao k co (fun k _ => f k) _ (by repeat (first | (with_reducible assumption) | (with_reducible exact RowC.nil) | (with_reducible apply RowC.drewN) | (with_reducible apply RowC.drew) | (with_reducible apply RowC.more) | (with_reducible apply RowC.alloc))) s1 HR.out HA.out).mono ?_
          rintro e w1 ⟨rfl, os2, d2, rfl⟩
          go_wp2
          go_ret
          exact ⟨rfl, below_then hbr hsr (by repeat (first | (with_reducible assumption) | (with_reducible exact More.refl _) | (with_reducible refine More.alloc ?_ _) | (with_reducible refine More.more ?_ _ _) | (with_reducible refine More.drewN ?_ _) | (with_reducible refine More.drew ?_)))⟩
  · have HK := Lib.hid hK
    clear hK
    go_enter Try.func3, Try.ntmps3
    go_wp2_with (go_at_call 6; refine (duel_alive _).mono ?_; rintro e w' ⟨rfl, os0, d0, rfl⟩)
    go_wp2_with fail
    have hm : More w ((w.alloc (.cells #[.int .i64 a0_0, .int .i64 a0_0, .int .i64 a0_2, .int .i64 a0_3, .int .i64 a0_4] 24)).more os0 d0) := (by repeat (first | (with_reducible assumption) | (with_reducible exact More.refl _) | (with_reducible refine More.alloc ?_ _) | (with_reducible refine More.more ?_ _ _) | (with_reducible refine More.drewN ?_ _) | (with_reducible refine More.drew ?_)))
    have hB1 : Blk ((w.alloc (.cells #[.int .i64 a0_0, .int .i64 a0_0, .int .i64 a0_2, .int .i64 a0_3, .int .i64 a0_4] 24)).more os0 d0) w.heap.size 24 #[.int .i64 a0_0, .int .i64 a0_0, .int .i64 a0_2, .int .i64 a0_3, .int .i64 a0_4] := (by repeat (first | (with_reducible assumption) | ((with_reducible refine Blk.new' ?_); (simp [Nat.add_assoc]; done)) | (with_reducible refine Blk.alloc ?_ _) | (with_reducible refine Blk.more ?_ _ _) | (with_reducible refine Blk.drew ?_) | (with_reducible refine Blk.drewN ?_ _)))
    have hz : Row ((w.alloc (.cells #[.int .i64 a0_0, .int .i64 a0_0, .int .i64 a0_2, .int .i64 a0_3, .int .i64 a0_4] 24)).more os0 d0) a1 len1 f := (by repeat (first | (with_reducible assumption) | (with_reducible exact Row.nil) | (with_reducible apply Row.drewN) | (with_reducible apply Row.drew) | (with_reducible apply Row.more) | (with_reducible apply Row.alloc)))
    have hlg := hB1.lt
    generalize ((w.alloc (.cells #[.int .i64 a0_0, .int .i64 a0_0, .int .i64 a0_2, .int .i64 a0_3, .int .i64 a0_4] 24)).more os0 d0) = wz at *
    have hmb := hm.below
    have hms := hmb.size
    go_loopw [5, 20] (fun out i wr => ∃ k : Nat, i = .int .i64 k ∧ k ≤ len1 ∧ wr.ownsRow wz.heap.size 22 2 out k (cellsC 2 k (fun k _ => f k)) ∧ Below wz.heap.size wz wr) (fun _ i _ => len1 - (intOf i).toNat)
    case atStart => exact ⟨0, rfl, Nat.zero_le _, World.ownsRow_nil _ _ _ _, Below.refl _ _⟩
    case round =>
      obtain ⟨k, rfl, hk, hown, hbw⟩ := hrel
      obtain ⟨ao, co, hv, hco⟩ := own_sliceC hown
      subst hv
      have hsz := hbw.size
      by_cases hlt : k < len1
      · obtain ⟨b, off, x, rfl, hb, hcx, hx⟩ := (hz.below hbw (Nat.le_refl _)).at_ hlt
        have HC : Hid ([.int .i64 x, .int .i64 x] = (List.range 2).map fun j => Value.int .i64 ((fun k (_ : Nat) => f k) k j)) := by rw [hx.out]; rfl
        go_wp2_with (at_builtin; refine wpList_append_own _ rfl (.tmp 24) (.tmp 28) 27 rfl wz.heap.size 22 i0_ (.agg #[.int .i64 0, .int .i64 0]) 2 16 Try.underlying27 hi hz0 hz1 hz2 rfl (by decide) (.slice ao k co) k (cellsC 2 k (fun k _ => f k)) rfl (hown.alloc _) _ 1 1 [.int .i64 x, .int .i64 x] rfl rfl (Blk.news (cs := #[.int .i64 x, .int .i64 x]) (t := 22) (by repeat (first | (with_reducible assumption) | ((with_reducible refine Blk.new' ?_); (simp [Nat.add_assoc]; done)) | (with_reducible refine Blk.alloc ?_ _) | (with_reducible refine Blk.more ?_ _ _) | (with_reducible refine Blk.drew ?_) | (with_reducible refine Blk.drewN ?_ _)))) (by simp [Value.oneCell']) (by simp only [maxLen]; omega) (by omega) (by simp; omega) ?_; intro v' w5 hown5 hgrow5 hnil; clear hnil)
        go_roundw
        case rel => exact ⟨k + 1, by go_num, by omega, by rw [cellsC_succ, ← HC.out]; exact hown5, (hbw.alloc hsz _).grown hgrow5 (by simp; omega) (own_base hown)⟩
        case measure => simp [intOf]; omega
      · obtain rfl : k = len1 := by omega
        have hrow : RowC wr 2 ao k (fun k _ => f k) := RowC.of_own (by omega) hown
        have hC1 : Blk wr w.heap.size 24 #[.int .i64 a0_0, .int .i64 a0_0, .int .i64 a0_2, .int .i64 a0_3, .int .i64 a0_4] := hB1.below hbw (by omega)
        have hbr : Below w.heap.size w wr := hmb.trans (hbw.mono hms)
        have hsr : w.heap.size ≤ wr.heap.size := by omega
        have hlr := hC1.lt
        have e0 : wr.cell? ⟨w.heap.size, 0, none⟩ = some (.int .i64 a0_0) := hC1.cell 0
        have e1 : wr.cell? ⟨w.heap.size, 1, none⟩ = some (.int .i64 a0_0) := hC1.cell 1
        have e2 : wr.cell? ⟨w.heap.size, 2, none⟩ = some (.int .i64 a0_2) := hC1.cell 2
        have e3 : wr.cell? ⟨w.heap.size, 3, none⟩ = some (.int .i64 a0_3) := hC1.cell 3
        have e4 : wr.cell? ⟨w.heap.size, 4, none⟩ = some (.int .i64 a0_4) := hC1.cell 4
        clear hown hbw hz hB1 hC1
        obtain ⟨er, HE, hcw⟩ : ∃ er : Int, Hid (er ≠ 0) ∧ ∀ W, Calls Try.prog 14 #[.agg #[.int .i64 a0_0, .int .i64 a0_0, .int .i64 a0_2, .int .i64 a0_3, .int .i64 a0_4]] W fun e w' => e = .returned (.int .i64 er) ∧ More W w' := by
          by_cases hk : dKind a0_0
          · exact ⟨2, by show (2 : Int) ≠ 0; decide, fun W => wrong_nums a0_0 a0_0 a0_2 a0_3 a0_4 W hk hk (fun h => HK.out ⟨hk, h⟩)⟩
          · exact ⟨5, by show (5 : Int) ≠ 0; decide, fun W => wrong_kind0 a0_0 a0_0 a0_2 a0_3 a0_4 W hk⟩
        have HCW := Lib.hid hcw
        clear hcw
        have g1 : (er != 0) = true := by simpa using HE.out
        go_wp2_with fail
        refine (play_w a0_0 a0_0 a0_2 a0_3 a0_4 er ao k co _ HE HCW.out).mono ?_
        rintro e w1 ⟨rfl, os2, d2, rfl⟩
        go_wp2
        go_ret
        exact ⟨rfl, below_then hbr hsr (by repeat (first | (with_reducible assumption) | (with_reducible exact More.refl _) | (with_reducible refine More.alloc ?_ _) | (with_reducible refine More.more ?_ _ _) | (with_reducible refine More.drewN ?_ _) | (with_reducible refine More.drew ?_)))⟩
end Go.Proofs.Ytnlglhfpcoicaab
