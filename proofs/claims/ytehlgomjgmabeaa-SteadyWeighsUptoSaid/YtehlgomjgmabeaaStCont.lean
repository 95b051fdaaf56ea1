/- slices.Index and slices.Contains at api.State, where the state is there. Conditions: none. -/
import Derived.Test.YtehlgomjgmabeaaSq
import Derived.Test.YtehlgomjgmabeaaStCmp2
set_option linter.unusedVariables false
set_option linter.unusedSimpArgs false
namespace Go.Proofs.Ytehlgomjgmabeaa
open Go.RowKit Go.Shelf Go.Tide
set_option linter.unusedVariables false
set_option linter.unusedSimpArgs false
theorem box_st {w : World} (y : DSt) : Blk (w.alloc (.cells (stL y).toArray 32)) w.heap.size 32 (stL y).toArray := Blk.new w _ _
set_option maxRecDepth 20000 in
set_option maxHeartbeats 2000000 in
theorem sindex_any (s : Fnd DSt) (hs : Hid (∀ x ∈ s.l, x.inI)) (y : DSt) (ix : Nat) (hy : Hid (s.l[ix]? = some y)) (hn : s.l.length ≤ 300) (a : Option Addr) (c : Nat) (w : World) (hf : RowC w 14 a s.l.length (stF s)) :
    Calls Try.prog 37 #[.slice a s.l.length c, .agg (stL y).toArray] w fun e w' => (∃ r : Int, e = .returned (.int .i64 r) ∧ Hid (0 ≤ r)) ∧ More w w' := by
  have hyI : Hid y.inI := hs.out y (List.mem_of_getElem? hy.out)
  have hlt := get_lt hy.out
  have hF := hf.alloc (.cells (stL y).toArray 32)
  have hB := box_st (w := w) y
  have hM : More w (w.alloc (.cells (stL y).toArray 32)) := (More.refl w).alloc _
  go_enter Try.func37, Try.ntmps37
  go_wp2_with fail
  generalize (w.alloc (.cells (stL y).toArray 32)) = w1 at *
  have hl1 := hB.lt
  generalize hT : w.heap.size = T at *
  go_loopw [8] (fun i wr => ∃ k : Nat, i = .int .i64 k ∧ k ≤ ix ∧ More w1 wr) (fun i _ => s.l.length - (intOf i).toNat)
  case atStart => exact ⟨0, rfl, Nat.zero_le _, More.refl _⟩
  case round =>
    obtain ⟨k, rfl, hk, hm⟩ := hrel
    have hkl : k < s.l.length := by omega
    obtain ⟨x, hx⟩ : ∃ x, s.l[k]? = some x := ⟨_, List.getElem?_eq_getElem hkl⟩
    have HXI : Hid x.inI := hs.out x (List.mem_of_getElem? hx)
    obtain ⟨b, off, rfl, hb, hrg⟩ := rangeL (hF.below hm.below (Nat.le_refl _)) hkl hx
    have hBw := hB.below hm.below hl1
    have HX := Lib.hid hx
    clear hx
    have t1 : (k : Int) < (s.l.length : Int) := by omega
    have t2 : (0 : Int) ≤ (k : Int) := by omega
    have q1 : wr.drew.rangeAt T 0 (stL y) := blk_range (cs := stL y) hBw.drew
    have q2 : wr.drew.rangeAt b (off + k * 14) (stL x) := by rw [World.rangeAt_drew]; exact hrg
    clear hBw hrg
    go_wp2_with fail
    by_cases e : y = x
    · have HE : Hid (∀ w, (Op.equal 32 (.agg (stL y).toArray) (.agg (stL x).toArray)).run Try.prog w = .ok true w) := fun w => by
        have h := eq_st y x hyI.out HXI.out w
        rwa [decide_eq_true e] at h
      clear e
      refine wp_region_held_drew (S := (fun w' => w'.rangeAt T 0 (stL y) ∧ w'.rangeAt b (off + k * 14) (stL x))) (by kernel_rfl) ?_ (fun hHeld => ?_)
      · exact ⟨q1, q2⟩
      refine wpAnyH_take (i := 0) (v := .agg (stL y).toArray) rfl (by kernel_rfl) (by kernel_rfl) (by kernel_rfl) (fun _ _ _ h => h) (yieldsIf_load_mid (by rfl) _ _ rfl T (0) rfl (stL y) _ (fun w hw => hw.1) Try.underlying32 rfl (stL_info y)) (by assumption) ?_
      try simp only [lay]
      refine tk0 1 rfl ?_; try simp only [lay]
      refine tk0 2 rfl ?_; try simp only [lay]
      refine tk0 3 rfl ?_; try simp only [lay]
      refine wpAnyH_take (i := 4) (v := .agg (stL x).toArray) rfl (by kernel_rfl) (by kernel_rfl) (by kernel_rfl) (fun _ _ _ h => h) (yieldsIf_load_mid (by rfl) _ _ rfl b (off + k * 14) rfl (stL x) _ (fun w hw => hw.2) Try.underlying32 rfl (stL_info x)) (by assumption) ?_
      try simp only [lay]
      refine tk 5 (.bool true) rfl ⟨by rfl, fun w' _ => run_eql _ _ _ _ rfl (stL y).toArray (stL x).toArray rfl rfl guard_st true (HE.out w')⟩ ?_
      try simp only [lay]
      refine wpAnyH_done (by kernel_rfl) ?_ _
      go_wp2
      go_ret
      exact ⟨⟨_, rfl, by show (0 : Int) ≤ _; omega⟩, More.trans hM (by repeat (first | (with_reducible assumption) | (with_reducible exact More.refl _) | (with_reducible refine More.alloc ?_ _) | (with_reducible refine More.more ?_ _ _) | (with_reducible refine More.drewN ?_ _) | (with_reducible refine More.drew ?_)))⟩
    · have HE : Hid (∀ w, (Op.equal 32 (.agg (stL y).toArray) (.agg (stL x).toArray)).run Try.prog w = .ok false w) := fun w => by
        have h := eq_st y x hyI.out HXI.out w
        rwa [decide_eq_false e] at h
      have hne : k ≠ ix := fun h => e (by
        have h1 := HX.out
        rw [h, hy.out] at h1
        exact Option.some.inj h1)
      clear e
      refine wp_region_held_drew (S := (fun w' => w'.rangeAt T 0 (stL y) ∧ w'.rangeAt b (off + k * 14) (stL x))) (by kernel_rfl) ?_ (fun hHeld => ?_)
      · exact ⟨q1, q2⟩
      refine wpAnyH_take (i := 0) (v := .agg (stL y).toArray) rfl (by kernel_rfl) (by kernel_rfl) (by kernel_rfl) (fun _ _ _ h => h) (yieldsIf_load_mid (by rfl) _ _ rfl T (0) rfl (stL y) _ (fun w hw => hw.1) Try.underlying32 rfl (stL_info y)) (by assumption) ?_
      try simp only [lay]
      refine tk0 1 rfl ?_; try simp only [lay]
      refine tk0 2 rfl ?_; try simp only [lay]
      refine tk0 3 rfl ?_; try simp only [lay]
      refine wpAnyH_take (i := 4) (v := .agg (stL x).toArray) rfl (by kernel_rfl) (by kernel_rfl) (by kernel_rfl) (fun _ _ _ h => h) (yieldsIf_load_mid (by rfl) _ _ rfl b (off + k * 14) rfl (stL x) _ (fun w hw => hw.2) Try.underlying32 rfl (stL_info x)) (by assumption) ?_
      try simp only [lay]
      refine tk 5 (.bool false) rfl ⟨by rfl, fun w' _ => run_eql _ _ _ _ rfl (stL y).toArray (stL x).toArray rfl rfl guard_st false (HE.out w')⟩ ?_
      try simp only [lay]
      refine wpAnyH_done (by kernel_rfl) ?_ _
      go_wp2
      go_roundw
      case rel => exact ⟨k + 1, by go_num, by omega, (by repeat (first | (with_reducible assumption) | (with_reducible exact More.refl _) | (with_reducible refine More.alloc ?_ _) | (with_reducible refine More.more ?_ _ _) | (with_reducible refine More.drewN ?_ _) | (with_reducible refine More.drew ?_)))⟩
      case measure => simp [intOf]; omega
theorem scontains_any (s : Fnd DSt) (hs : Hid (∀ x ∈ s.l, x.inI)) (y : DSt) (ix : Nat) (hy : Hid (s.l[ix]? = some y)) (hn : s.l.length ≤ 300) (a : Option Addr) (c : Nat) (w : World) (hf : RowC w 14 a s.l.length (stF s)) :
    Calls Try.prog 20 #[.slice a s.l.length c, .agg (stL y).toArray] w fun e w' => e = .returned (.bool true) ∧ More w w' := by
  have hF := hf.alloc (.cells (stL y).toArray 32)
  have hB := box_st (w := w) y
  have hM : More w (w.alloc (.cells (stL y).toArray 32)) := (More.refl w).alloc _
  go_enter Try.func20, Try.ntmps20
  go_wp2_with (refine wpList_load_row rfl _ _ rfl w.heap.size rfl _ _ _ _ hB Try.underlying32 rfl (stL_info y) ?_)
  refine (sindex_any s hs y ix hy hn a c _ hF).mono ?_
  rintro e w' ⟨⟨r, rfl, hr⟩, hm⟩
  have t : decide (0 ≤ r) = true := by simpa using hr.out
  have HM := Lib.hid (hM.trans hm)
  clear hm hM hB hF hf
  go_wp2
  go_ret
  exact ⟨rfl, HM.out⟩
end Go.Proofs.Ytehlgomjgmabeaa
