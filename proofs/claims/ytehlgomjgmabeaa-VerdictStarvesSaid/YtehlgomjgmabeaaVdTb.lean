/- tidewaitref.TBrings: what one brings more in rounds. Conditions: numbers that fit. -/
import Derived.Test.YtehlgomjgmabeaaVdM
set_option linter.unusedVariables false
set_option linter.unusedSimpArgs false
namespace Go.Proofs.Ytehlgomjgmabeaa
open Go.RowKit Go.Shelf Go.Tide
set_option linter.unusedVariables false
set_option linter.unusedSimpArgs false
/-- A round's cells. -/
def rdL (q : Nat → Int) : List Value := [.int .i64 (q 0), .int .i64 (q 1), .int .i64 (q 2), .int .i64 (q 3), .int .i64 (q 4), .int .i64 (q 5)]
theorem rdL_one (q : Nat → Int) : (rdL q).toArray.all (·.oneCell') = true := by simp [rdL, Value.oneCell']
theorem rdL_info (q : Nat → Int) : (Try.prog.info? 38).map (·.size) = some (rdL q).length := by
  rw [show (rdL q).length = 6 from rfl]
  kernel_rfl
theorem rangeRow {w : World} {C : Nat} {a : Option Addr} {n k : Nat} {f : Nat → Nat → Int} (h : RowC w C a n f) (hk : k < n) : ∃ b off, a = some ⟨b, off, none⟩ ∧ b < w.heap.size ∧ w.rangeAt b (off + k * C) ((List.range C).map fun j => Value.int .i64 (f k j)) := by
  obtain ⟨b, off, rfl, hb, hc⟩ := h (by omega)
  refine ⟨b, off, rfl, hb, fun j v hv => ?_⟩
  have hj : j < C := by have := (List.getElem?_eq_some_iff.1 hv).1; simpa using this
  have h1 := hc k j hk hj
  rw [Nat.add_assoc, h1]
  simpa [List.getElem?_map, List.getElem?_range hj] using hv
theorem wt_num (ratio c0 c1 : Int) (hr : 1 ≤ ratio ∧ ratio ≤ 100) (h0 : 0 ≤ c0 ∧ c0 ≤ 100) (h1 : 0 ≤ c1 ∧ c1 ≤ 100) : IntKind.i64.wrap (c0 - IntKind.i64.wrap (ratio * c1)) = c0 - ratio * c1 := by
  have h3 : 0 ≤ ratio * c1 := Int.mul_nonneg (by omega) h1.1
  have h4 : ratio * c1 ≤ 100 * 100 := Int.mul_le_mul hr.2 h1.2 h1.1 (by omega)
  rw [IntWalk.i64_in (ratio * c1) (by omega), IntWalk.i64_in _ (by omega)]
section
variable {P : Program} {ops : Array Oper} {Q : Exit → Act → World → Prop} {md : Region.Mode} {oi : Oper} {fuel : Nat} {listed : Array Bool} {a : Act} {w : World}
/-- Operation i is taken, and walked, in a region that only reads. -/
theorem tkE (i : Nat) {v : Value} (hi : ops[i]? = some oi) (h : wpAnyH P md ops Q (fun w' => w' = w) fuel (listed.setIfInBounds i true) (a.put oi.dst v) w)
    (hg : Region.wanted oi (yielded ops a.tmps) = true := by rfl) (hy : (execOp a.eval oi).run P w = .ok (.value v) w := by go_simp; try (with_reducible rfl))
    (hs : Region.noSelect ops = true := by kernel_rfl) (hf : Region.free md ops listed i = true := by kernel_rfl) (hr : (Region.ready md ops listed).contains i = true := by kernel_rfl)
    (hQ : ∀ c a w, Q (.panic c) (a.put oi.dst v) w → Q (.panic c) a w := by exact fun _ _ _ h => h) : wpAnyH P md ops Q (fun w' => w' = w) (fuel + 1) listed a w :=
  wpAnyH_take hi hs hf hr hQ (Or.inl ⟨hg, fun w' hw => by rw [hw]; exact hy⟩) rfl h
end
def bSum (who : Nat) (ratio : Int) (g : Nat → Nat → Int) : Nat → Int
  | 0 => 0
  | k + 1 => bSum who ratio g k + eWt who ratio (g k)
theorem bsum_bound {who : Nat} {ratio : Int} {g : Nat → Nat → Int} (hra : 1 ≤ ratio ∧ ratio ≤ 100) : ∀ n, (∀ k, k < n → ∀ j, 0 ≤ g k j ∧ g k j ≤ 100) → -(10000 * (n : Int)) ≤ bSum who ratio g n ∧ bSum who ratio g n ≤ 100 * (n : Int) := by
  intro n
  induction n with
  | zero => intro _; show -(10000 * ((0 : Nat) : Int)) ≤ 0 ∧ (0 : Int) ≤ 100 * ((0 : Nat) : Int); omega
  | succ n ih =>
    intro h
    have h1 := ih fun k hk => h k (by omega)
    have h2 := ewt_bound (who := who) (h n (by omega)) hra
    show _ ≤ bSum who ratio g n + eWt who ratio (g n) ∧ bSum who ratio g n + eWt who ratio (g n) ≤ _
    omega
set_option maxRecDepth 20000 in
set_option maxHeartbeats 4000000 in
theorem tbrings_any (a : Option Addr) (n c : Nat) (g : Nat → Nat → Int) (who : Nat) (ratio : Int) (w : World) (hf : RowC w 6 a n g) (hn : n ≤ 1048576) (hw : Hid (who = 0 ∨ who = 1)) (hra : Hid (1 ≤ ratio ∧ ratio ≤ 100)) (hq : Hid (∀ k, k < n → ∀ j, 0 ≤ g k j ∧ g k j ≤ 100)) :
    Calls Try.prog 23 #[.slice a n c, .int .i64 (who : Nat), .int .i64 ratio] w fun e w' => e = .returned (.int .i64 (bSum who ratio g n)) ∧ More w w' := by
  go_enter Try.func23, Try.ntmps23
  go_wp2_with fail
  go_loopw [7, 12] (fun q i wr => ∃ k : Nat, i = .int .i64 k ∧ q = .int .i64 (bSum who ratio g k) ∧ k ≤ n ∧ Below w.heap.size w wr) (fun _ i _ => n - (intOf i).toNat)
  case atStart => exact ⟨0, rfl, rfl, Nat.zero_le _, Below.refl _ _⟩
  case round =>
    obtain ⟨k, rfl, rfl, hk, hbw⟩ := hrel
    have hsz := hbw.size
    by_cases hlt : k < n
    · have t1 : (k : Int) < (n : Int) := by omega
      have t2' : (0 : Int) ≤ (k : Int) := by omega
      obtain ⟨rb, ro, rfl, hrb, hrr⟩ := rangeRow (hf.below hbw (Nat.le_refl _)) hlt
      have hrr' : wr.rangeAt rb (ro + k * 6) (rdL (g k)) := hrr
      clear hrr
      go_upto_region 5 with (first | (refine wpList_load_mid rfl _ _ rfl rb (ro + k * 6) rfl (rdL (g k)) _ hrr' Try.underlying38 rfl (rdL_info (g k)) ?_) | (refine wpList_store_row rfl _ _ _ rfl wr.heap.size (rdL (g k)).toArray rfl rfl 38 #[.int .i64 0, .int .i64 0, .int .i64 0, .int .i64 0, .int .i64 0, .int .i64 0] (Blk.new wr _ _) (rdL_info (g k)) rfl (rdL_one (g k)) ?_))
      have hXB : Blk ((wr.alloc (.cells #[.int .i64 0, .int .i64 0, .int .i64 0, .int .i64 0, .int .i64 0, .int .i64 0] 38)).setRow wr.heap.size (rdL (g k)).toArray) wr.heap.size 38 (rdL (g k)).toArray := newRow
      have hnb : Below wr.heap.size wr ((wr.alloc (.cells #[.int .i64 0, .int .i64 0, .int .i64 0, .int .i64 0, .int .i64 0, .int .i64 0] 38)).setRow wr.heap.size (rdL (g k)).toArray) := newRow_below
      generalize ((wr.alloc (.cells #[.int .i64 0, .int .i64 0, .int .i64 0, .int .i64 0, .int .i64 0, .int .i64 0] 38)).setRow wr.heap.size (rdL (g k)).toArray) = wx at *
      have HB : Hid (Below w.heap.size w wx) := hbw.trans (hnb.mono hsz)
      have lX := hXB.lt
      clear hnb hbw hrr' hrb
      generalize wr.heap.size = X at *
      obtain ⟨c0, hc0⟩ : ∃ c0, Hid (g k 2 = c0) := ⟨_, rfl⟩
      obtain ⟨c1, hc1⟩ : ∃ c1, Hid (g k 3 = c1) := ⟨_, rfl⟩
      have m2 : wx.drew.cell? ⟨X, 2, none⟩ = some (.int .i64 c0) := by rw [← hc0.out]; exact hXB.cell 2
      have m3 : wx.drew.cell? ⟨X, 3, none⟩ = some (.int .i64 c1) := by rw [← hc1.out]; exact hXB.cell 3
      obtain ⟨d, hd⟩ : ∃ d, Hid (eWt who ratio (g k) = d) := ⟨_, rfl⟩
      obtain ⟨s0, hs0⟩ : ∃ s0, Hid (bSum who ratio g k = s0) := ⟨_, rfl⟩
      have HS : Hid (bSum who ratio g (k + 1) = s0 + d) := by show _ = _; rw [← hs0.out, ← hd.out]; rfl
      have wsum : IntKind.i64.wrap (s0 + d) = s0 + d := by
        have h1 := bsum_bound (who := who) hra.out (k + 1) (fun q hq' => hq.out q (by omega))
        rw [HS.out] at h1
        exact IntWalk.i64_in _ (by omega)
      have HW : Hid ((who = 0 ∧ IntKind.i64.wrap (c0 - IntKind.i64.wrap (ratio * c1)) = d) ∨ (who = 1 ∧ IntKind.i64.wrap (c1 - IntKind.i64.wrap (ratio * c0)) = d)) := by
        rw [← hd.out, ← hc0.out, ← hc1.out]
        rcases hw.out with h | h
        · subst h
          exact .inl ⟨rfl, wt_num ratio _ _ hra.out (hq.out k hlt 2) (hq.out k hlt 3)⟩
        · subst h
          exact .inr ⟨rfl, wt_num ratio _ _ hra.out (hq.out k hlt 3) (hq.out k hlt 2)⟩
      rw [hs0.out]
      have w1_ : IntKind.i64.wrap 1 = 1 := by decide
      have w0_ : IntKind.i64.wrap 0 = 0 := by decide
      clear hXB
      try simp only [Act.put]
      rcases HW.out with ⟨hwh, hwt⟩ | ⟨hwh, hwt⟩
      · obtain ⟨m1, hm1⟩ : ∃ m1, IntKind.i64.wrap (ratio * c1) = m1 := ⟨_, rfl⟩
        rw [hm1] at hwt
        subst hwh
        clear HW
        refine wp_region_held_drew (S := fun w' => w' = wx.drew) (by kernel_rfl) rfl (fun hHeld => ?_)
        refine tkE 0 rfl ?_; try simp only [lay]
        refine tkE 1 rfl ?_; try simp only [lay]
        refine tkE 2 rfl ?_; try simp only [lay]
        refine tkE 3 rfl ?_; try simp only [lay]
        refine tkE 4 rfl ?_; try simp only [lay]
        refine tkE 5 rfl ?_; try simp only [lay]
        refine tkE 6 rfl ?_; try simp only [lay]
        refine tkE 7 rfl ?_; try simp only [lay]
        refine tkE 8 rfl ?_; try simp only [lay]
        refine tkE 9 rfl ?_; try simp only [lay]
        refine tkE 10 rfl ?_; try simp only [lay]
        refine tkE 11 rfl ?_; try simp only [lay]
        refine tkE 12 rfl ?_; try simp only [lay]
        refine tkE 13 rfl ?_; try simp only [lay]
        refine tkE 14 rfl ?_; try simp only [lay]
        refine wpAnyH_done (by kernel_rfl) ?_ _
        go_wp2
        go_roundw
        case rel => exact ⟨k + 1, by go_num, by rw [HS.out], by omega, HB.out.drew⟩
        case measure => simp [intOf]; omega
      · obtain ⟨m1, hm1⟩ : ∃ m1, IntKind.i64.wrap (ratio * c0) = m1 := ⟨_, rfl⟩
        rw [hm1] at hwt
        subst hwh
        clear HW
        refine wp_region_held_drew (S := fun w' => w' = wx.drew) (by kernel_rfl) rfl (fun hHeld => ?_)
        refine tkE 0 rfl ?_; try simp only [lay]
        refine tkE 1 rfl ?_; try simp only [lay]
        refine tkE 2 rfl ?_; try simp only [lay]
        refine tkE 3 rfl ?_; try simp only [lay]
        refine tkE 4 rfl ?_; try simp only [lay]
        refine tkE 5 rfl ?_; try simp only [lay]
        refine tkE 6 rfl ?_; try simp only [lay]
        refine tkE 7 rfl ?_; try simp only [lay]
        refine tkE 8 rfl ?_; try simp only [lay]
        refine tkE 9 rfl ?_; try simp only [lay]
        refine tkE 10 rfl ?_; try simp only [lay]
        refine tkE 11 rfl ?_; try simp only [lay]
        refine tkE 12 rfl ?_; try simp only [lay]
        refine tkE 13 rfl ?_; try simp only [lay]
        refine tkE 14 rfl ?_; try simp only [lay]
        refine wpAnyH_done (by kernel_rfl) ?_ _
        go_wp2
        go_roundw
        case rel => exact ⟨k + 1, by go_num, by rw [HS.out], by omega, HB.out.drew⟩
        case measure => simp [intOf]; omega
    · obtain rfl : k = n := by omega
      have HB := Lib.hid hbw
      go_wp2
      go_ret
      exact ⟨rfl, More.of_below HB.out⟩
end Go.Proofs.Ytehlgomjgmabeaa
