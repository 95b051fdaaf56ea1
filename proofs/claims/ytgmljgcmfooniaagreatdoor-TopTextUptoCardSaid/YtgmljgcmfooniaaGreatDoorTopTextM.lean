/- Texts in one: VdTb, TtPl, TopA, TopText. Conditions: those of each law. -/
import Derived.Test.YtgmljgcmfooniaaGreatDoorVdM
import Derived.Test.YtgmljgcmfooniaaGreatDoorDuM
import Derived.Test.YtgmljgcmfooniaaGreatDoorBnTell
import Derived.Test.YtgmljgcmfooniaaGreatDoorQuT
/- VdTb -/
set_option linter.unusedVariables false
set_option linter.unusedSimpArgs false
namespace Go.Proofs.YtgmljgcmfooniaaGreatDoor
open Go.RowKit Go.Shelf Go.Tide
/-- A round's cells. -/
def rdL (q : Nat → Int) : List Value := [.int .i64 (q 0), .int .i64 (q 1), .int .i64 (q 2), .int .i64 (q 3), .int .i64 (q 4), .int .i64 (q 5)]
theorem rdL_one (q : Nat → Int) : (rdL q).toArray.all (·.oneCell') = true := by simp [rdL, Value.oneCell']
theorem rdL_info (q : Nat → Int) : (Tryz.prog.info? 93).map (·.size) = some (rdL q).length := by
  rw [show (rdL q).length = 6 from rfl]
  kernel_rfl
theorem rangeRow {w : World} {C : Nat} {a : Option Addr} {n k : Nat} {f : Nat → Nat → Int} (h : RowC w C a n f) (hk : k < n) : ∃ b off, a = some ⟨b, off, none⟩ ∧ b < w.heap.size ∧ w.rangeAt b (off + k * C) ((List.range C).map fun j => Value.int .i64 (f k j)) := by
  obtain ⟨b, off, rfl, hb, hc⟩ := h (by omega)
  refine ⟨b, off, rfl, hb, fun j v hv => ?_⟩
  have hj : j < C := by have := (List.getElem?_eq_some_iff.1 hv).1; simpa using this
  have h1 := hc k j hk hj
  rw [Nat.add_assoc, h1]
  simpa [List.getElem?_map, List.getElem?_range hj] using hv
theorem wt_num (ratio c0 c1 : Int) (hr : 1 ≤ ratio ∧ ratio ≤ 100) (h0 : 0 ≤ c0 ∧ c0 ≤ 100) (h1 : 0 ≤ c1 ∧ c1 ≤ 100) : IntKind.i64.wrap (c0 - IntKind.i64.wrap (ratio * c1)) = c0 - ratio * c1 := by
  have h3 : 0 ≤ ratio * c1 := Int.mul_nonneg (by omega) h1.1
  have h4 : ratio * c1 ≤ 100 * 100 := Int.mul_le_mul hr.2 h1.2 h1.1 (by omega)
  rw [IntWalk.i64_in (ratio * c1) (by omega), IntWalk.i64_in _ (by omega)]
section
variable {P : Program} {ops : Array Oper} {Q : Exit → Act → World → Prop} {md : Region.Mode} {oi : Oper} {fuel : Nat} {listed : Array Bool} {a : Act} {w : World}
/-- Operation i is taken, and walked, in a region that only reads. -/
theorem tkE (i : Nat) {v : Value} (hi : ops[i]? = some oi) (h : wpAnyH P md ops Q (fun w' => w' = w) fuel (listed.setIfInBounds i true) (a.put oi.dst v) w)
    (hg : Region.wanted oi (yielded ops a.tmps) = true := by rfl) (hy : (execOp a.eval oi).run P w = .ok (.value v) w := by go_simp; try (with_reducible rfl))
    (hs : Region.noSelect ops = true := by kernel_rfl) (hf : Region.free md ops listed i = true := by kernel_rfl) (hr : (Region.ready md ops listed).contains i = true := by kernel_rfl)
    (hQ : ∀ c a w, Q (.panic c) (a.put oi.dst v) w → Q (.panic c) a w := by exact fun _ _ _ h => h) : wpAnyH P md ops Q (fun w' => w' = w) (fuel + 1) listed a w :=
  wpAnyH_take hi hs hf hr hQ (Or.inl ⟨hg, fun w' hw => by rw [hw]; exact hy⟩) rfl h
end
def bSum (who : Nat) (ratio : Int) (g : Nat → Nat → Int) : Nat → Int
  | 0 => 0
  | k + 1 => bSum who ratio g k + eWt who ratio (g k)
theorem bsum_bound {who : Nat} {ratio : Int} {g : Nat → Nat → Int} (hra : 1 ≤ ratio ∧ ratio ≤ 100) : ∀ n, (∀ k, k < n → ∀ j, 0 ≤ g k j ∧ g k j ≤ 100) → -(10000 * (n : Int)) ≤ bSum who ratio g n ∧ bSum who ratio g n ≤ 100 * (n : Int) := by
  intro n
  induction n with
  | zero => intro _; show -(10000 * ((0 : Nat) : Int)) ≤ 0 ∧ (0 : Int) ≤ 100 * ((0 : Nat) : Int); omega
  | succ n ih =>
    intro h
    have h1 := ih fun k hk => h k (by omega)
    have h2 := ewt_bound (who := who) (h n (by omega)) hra
    show _ ≤ bSum who ratio g n + eWt who ratio (g n) ∧ bSum who ratio g n + eWt who ratio (g n) ≤ _
    omega
set_option maxRecDepth 20000 in
set_option maxHeartbeats 4000000 in
theorem tbrings_any (a : Option Addr) (n c : Nat) (g : Nat → Nat → Int) (who : Nat) (ratio : Int) (w : World) (hf : RowC w 6 a n g) (hn : n ≤ 1048576) (hw : Hid (who = 0 ∨ who = 1)) (hra : Hid (1 ≤ ratio ∧ ratio ≤ 100)) (hq : Hid (∀ k, k < n → ∀ j, 0 ≤ g k j ∧ g k j ≤ 100)) :
    Calls Tryz.prog 14 #[.slice a n c, .int .i64 (who : Nat), .int .i64 ratio] w fun e w' => e = .returned (.int .i64 (bSum who ratio g n)) ∧ More w w' := by
  go_enter Tryz.func14, Tryz.ntmps14
  go_wp2_with fail
  go_loopw [7, 12] (fun q i wr => ∃ k : Nat, i = .int .i64 k ∧ q = .int .i64 (bSum who ratio g k) ∧ k ≤ n ∧ Below w.heap.size w wr) (fun _ i _ => n - (intOf i).toNat)
  case atStart => exact ⟨0, rfl, rfl, Nat.zero_le _, Below.refl _ _⟩
  case round =>
    obtain ⟨k, rfl, rfl, hk, hbw⟩ := hrel
    have hsz := hbw.size
    by_cases hlt : k < n
    · have t1 : (k : Int) < (n : Int) := by omega
      have t2' : (0 : Int) ≤ (k : Int) := by omega
      obtain ⟨rb, ro, rfl, hrb, hrr⟩ := rangeRow (hf.below hbw (Nat.le_refl _)) hlt
      have hrr' : wr.rangeAt rb (ro + k * 6) (rdL (g k)) := hrr
      clear hrr
      go_upto_region 5 with (first | (refine wpList_load_mid rfl _ _ rfl rb (ro + k * 6) rfl (rdL (g k)) _ hrr' Tryz.underlying93 rfl (rdL_info (g k)) ?_) | (refine wpList_store_row rfl _ _ _ rfl wr.heap.size (rdL (g k)).toArray rfl rfl 93 #[.int .i64 0, .int .i64 0, .int .i64 0, .int .i64 0, .int .i64 0, .int .i64 0] (Blk.new wr _ _) (rdL_info (g k)) rfl (rdL_one (g k)) ?_))
      have hXB : Blk ((wr.alloc (.cells #[.int .i64 0, .int .i64 0, .int .i64 0, .int .i64 0, .int .i64 0, .int .i64 0] 93)).setRow wr.heap.size (rdL (g k)).toArray) wr.heap.size 93 (rdL (g k)).toArray := newRow
      have hnb : Below wr.heap.size wr ((wr.alloc (.cells #[.int .i64 0, .int .i64 0, .int .i64 0, .int .i64 0, .int .i64 0, .int .i64 0] 93)).setRow wr.heap.size (rdL (g k)).toArray) := newRow_below
      generalize ((wr.alloc (.cells #[.int .i64 0, .int .i64 0, .int .i64 0, .int .i64 0, .int .i64 0, .int .i64 0] 93)).setRow wr.heap.size (rdL (g k)).toArray) = wx at *
      have HB : Hid (Below w.heap.size w wx) := hbw.trans (hnb.mono hsz)
      have lX := hXB.lt
      clear hnb hbw hrr' hrb
      generalize wr.heap.size = X at *
      obtain ⟨c0, hc0⟩ : ∃ c0, Hid (g k 2 = c0) := ⟨_, rfl⟩
      obtain ⟨c1, hc1⟩ : ∃ c1, Hid (g k 3 = c1) := ⟨_, rfl⟩
      have m2 : wx.drew.cell? ⟨X, 2, none⟩ = some (.int .i64 c0) := by rw [← hc0.out]; exact hXB.cell 2
      have m3 : wx.drew.cell? ⟨X, 3, none⟩ = some (.int .i64 c1) := by rw [← hc1.out]; exact hXB.cell 3
      obtain ⟨d, hd⟩ : ∃ d, Hid (eWt who ratio (g k) = d) := ⟨_, rfl⟩
      obtain ⟨s0, hs0⟩ : ∃ s0, Hid (bSum who ratio g k = s0) := ⟨_, rfl⟩
      have HS : Hid (bSum who ratio g (k + 1) = s0 + d) := by show _ = _; rw [← hs0.out, ← hd.out]; rfl
      have wsum : IntKind.i64.wrap (s0 + d) = s0 + d := by
        have h1 := bsum_bound (who := who) hra.out (k + 1) (fun q hq' => hq.out q (by omega))
        rw [HS.out] at h1
        exact IntWalk.i64_in _ (by omega)
      have HW : Hid ((who = 0 ∧ IntKind.i64.wrap (c0 - IntKind.i64.wrap (ratio * c1)) = d) ∨ (who = 1 ∧ IntKind.i64.wrap (c1 - IntKind.i64.wrap (ratio * c0)) = d)) := by
        rw [← hd.out, ← hc0.out, ← hc1.out]
        rcases hw.out with h | h
        · subst h
          exact .inl ⟨rfl, wt_num ratio _ _ hra.out (hq.out k hlt 2) (hq.out k hlt 3)⟩
        · subst h
          exact .inr ⟨rfl, wt_num ratio _ _ hra.out (hq.out k hlt 3) (hq.out k hlt 2)⟩
      rw [hs0.out]
      have w1_ : IntKind.i64.wrap 1 = 1 := by decide
      have w0_ : IntKind.i64.wrap 0 = 0 := by decide
      clear hXB
      try simp only [Act.put]
      rcases HW.out with ⟨hwh, hwt⟩ | ⟨hwh, hwt⟩
      · obtain ⟨m1, hm1⟩ : ∃ m1, IntKind.i64.wrap (ratio * c1) = m1 := ⟨_, rfl⟩
        rw [hm1] at hwt
        subst hwh
        clear HW
        refine wp_region_held_drew (S := fun w' => w' = wx.drew) (by kernel_rfl) rfl (fun hHeld => ?_)
        refine tkE 0 rfl ?_; try simp only [lay]
        refine tkE 1 rfl ?_; try simp only [lay]
        refine tkE 2 rfl ?_; try simp only [lay]
        refine tkE 3 rfl ?_; try simp only [lay]
        refine tkE 4 rfl ?_; try simp only [lay]
        refine tkE 5 rfl ?_; try simp only [lay]
        refine tkE 6 rfl ?_; try simp only [lay]
        refine tkE 7 rfl ?_; try simp only [lay]
        refine tkE 8 rfl ?_; try simp only [lay]
        refine tkE 9 rfl ?_; try simp only [lay]
        refine tkE 10 rfl ?_; try simp only [lay]
        refine tkE 11 rfl ?_; try simp only [lay]
        refine tkE 12 rfl ?_; try simp only [lay]
        refine tkE 13 rfl ?_; try simp only [lay]
        refine tkE 14 rfl ?_; try simp only [lay]
        refine wpAnyH_done (by kernel_rfl) ?_ _
        go_wp2
        go_roundw
        case rel => exact ⟨k + 1, by go_num, by rw [HS.out], by omega, HB.out.drew⟩
        case measure => simp [intOf]; omega
      · obtain ⟨m1, hm1⟩ : ∃ m1, IntKind.i64.wrap (ratio * c0) = m1 := ⟨_, rfl⟩
        rw [hm1] at hwt
        subst hwh
        clear HW
        refine wp_region_held_drew (S := fun w' => w' = wx.drew) (by kernel_rfl) rfl (fun hHeld => ?_)
        refine tkE 0 rfl ?_; try simp only [lay]
        refine tkE 1 rfl ?_; try simp only [lay]
        refine tkE 2 rfl ?_; try simp only [lay]
        refine tkE 3 rfl ?_; try simp only [lay]
        refine tkE 4 rfl ?_; try simp only [lay]
        refine tkE 5 rfl ?_; try simp only [lay]
        refine tkE 6 rfl ?_; try simp only [lay]
        refine tkE 7 rfl ?_; try simp only [lay]
        refine tkE 8 rfl ?_; try simp only [lay]
        refine tkE 9 rfl ?_; try simp only [lay]
        refine tkE 10 rfl ?_; try simp only [lay]
        refine tkE 11 rfl ?_; try simp only [lay]
        refine tkE 12 rfl ?_; try simp only [lay]
        refine tkE 13 rfl ?_; try simp only [lay]
        refine tkE 14 rfl ?_; try simp only [lay]
        refine wpAnyH_done (by kernel_rfl) ?_ _
        go_wp2
        go_roundw
        case rel => exact ⟨k + 1, by go_num, by rw [HS.out], by omega, HB.out.drew⟩
        case measure => simp [intOf]; omega
    · obtain rfl : k = n := by omega
      have HB := Lib.hid hbw
      go_wp2
      go_ret
      exact ⟨rfl, More.of_below HB.out⟩
end Go.Proofs.YtgmljgcmfooniaaGreatDoor
/- TtPl -/
namespace Go.Proofs.YtgmljgcmfooniaaGreatDoor
open Go.RowKit Go.Shelf Go.Tide
def z14 : DSt := ⟨⟨0, 0, 0, 0, 0, 0⟩, ⟨0, 0, 0, 0, 0, 0⟩, 0, 0⟩
theorem play_v (k0 k1 rate buf jit : Int) (a3 : Option Addr) (len3 cap3 : Nat) (f : Nat → Nat → Int) (w : World) (hf : RowC w 2 a3 len3 f) (s3 : len3 ≤ 1048576) :
    Calls Tryz.prog 13 #[.agg #[.int .i64 k0, .int .i64 k1, .int .i64 rate, .int .i64 buf, .int .i64 jit], .slice a3 len3 cap3] w fun e w' => Below w.heap.size w w' ∧ ∃ (ao : Option Addr) (m co : Nat) (t : DSt) (er : Int), e = .returned (.tuple #[.slice ao m co, .agg (stL t).toArray, .int .i64 er]) ∧
      (er ≠ 0 ∨ (er = 0 ∧ m = len3 ∧ ∃ q b J : Nat, rate = q ∧ buf = b ∧ jit = J ∧ DRules.ok ⟨k0, k1, q, b, (J : Nat)⟩ ∧ dAll ⟨k0, k1, q, b, (J : Nat)⟩ f len3 ∧ RowC w' 6 ao m (dRows ⟨k0, k1, q, b, (J : Nat)⟩ f))) := by
  by_cases hK : dKind k0 ∧ dKind k1 ∧ dNums rate buf jit
  · obtain ⟨h0, h1, hn⟩ := hK
    have hnn := hn
    obtain ⟨n1, n2, n3, n4, n5, n6⟩ := hnn
    obtain ⟨q, rfl⟩ : ∃ n : Nat, rate = n := ⟨rate.toNat, by omega⟩
    obtain ⟨b, rfl⟩ : ∃ n : Nat, buf = n := ⟨buf.toNat, by omega⟩
    obtain ⟨J, rfl⟩ : ∃ n : Nat, jit = n := ⟨jit.toNat, by omega⟩
    have hr : DRules.ok ⟨k0, k1, q, b, (J : Nat)⟩ := ⟨h0, h1, hn⟩
    by_cases hA : dAll ⟨k0, k1, q, b, (J : Nat)⟩ f len3
    · refine (play_ok ⟨k0, k1, q, b, (J : Nat)⟩ a3 len3 cap3 f w hf s3 hr hA).mono ?_
      rintro e w5 ⟨ao, co, he, hown, hb5⟩
      exact ⟨hb5, ao, len3, co, dRun ⟨k0, k1, q, b, (J : Nat)⟩ f len3, 0, he, .inr ⟨rfl, rfl, q, b, J, rfl, rfl, rfl, hr, hA, RowC.of_own (by omega) hown⟩⟩
    · refine (dplay_any ⟨k0, k1, q, b, (J : Nat)⟩ a3 len3 cap3 f w hf s3 hr hA).mono ?_
      rintro e w5 ⟨he, hm5⟩
      exact ⟨More.below hm5, none, 0, 0, z14, 2, he, .inl (by decide)⟩
  · obtain ⟨er, HE, hcw⟩ := wrong_er k0 k1 rate buf jit hK
    refine (play_w k0 k1 rate buf jit er a3 len3 cap3 w HE hcw).mono ?_
    rintro e w5 ⟨he, hm5⟩
    exact ⟨More.below hm5, none, 0, 0, z14, er, he, .inl HE.out⟩
theorem jf_same {k0 k1 rate buf jit who ratio kd mo er KD MO : Int} (h : JFacts k0 k1 rate buf jit who ratio kd mo er) (H : JFacts k0 k1 rate buf jit who ratio KD MO 0) :
    er = 0 ∧ VdOk k0 k1 rate buf jit who ratio ∧ ((kd = 1 ∧ KD = 1 ∧ VB (vR k0 k1 rate buf jit) who.toNat ratio mo) ∨ (kd = 2 ∧ KD = 2)) := by
  rcases H with ⟨_, hv, hf, H⟩ | ⟨h0, _⟩ | ⟨h0, _⟩
  · rcases h with ⟨he, _, _, h⟩ | ⟨_, _, hn⟩ | ⟨_, hn⟩
    · refine ⟨he, hv, ?_⟩
      rcases h with ⟨h1, h2⟩ | ⟨h1, h2⟩
      · rcases H with ⟨H1, _⟩ | ⟨_, H2⟩
        · exact .inl ⟨h1, H1, h2⟩
        · exact absurd ⟨mo, h2⟩ H2
      · rcases H with ⟨_, H2⟩ | ⟨H1, _⟩
        · exact absurd ⟨MO, H2⟩ h2
        · exact .inr ⟨h1, H1⟩
    · exact absurd hn hf
    · exact absurd hv hn
  · cases h0
  · rcases h0 with h | h <;> cases h
theorem ppa_same {s : ByteArray} {x0 x1 x2 x3 x4 k0 k1 a b c er : Int} (H : PPa s x0 x1 x2 x3 x4 0) (h : PPa s k0 k1 a b c er) : er = 0 ∧ k0 = x0 ∧ k1 = x1 ∧ a = x2 ∧ b = x3 ∧ c = x4 := by
  rcases H with ⟨_, ho, ht⟩ | ⟨h0, _⟩
  · obtain ⟨o1, o2, o3⟩ := ho
    have hn := o3
    obtain ⟨n1, n2, n3, n4, n5, n6⟩ := hn
    obtain ⟨q, rfl⟩ : ∃ n : Nat, x2 = n := ⟨x2.toNat, by omega⟩
    obtain ⟨u, rfl⟩ : ∃ n : Nat, x3 = n := ⟨x3.toNat, by omega⟩
    obtain ⟨v, rfl⟩ : ∃ n : Nat, x4 = n := ⟨x4.toNat, by omega⟩
    rw [ht] at h
    exact ppa_text ⟨o1, o2, o3⟩ h
  · cases h0
theorem bsum_v (r : DRules) (who : Nat) (ratio : Int) (f : Nat → Nat → Int) : ∀ d, bSum who ratio (dRows r f) d = vSum r who ratio f 0 d := by
  intro d
  induction d with
  | zero => rfl
  | succ d ih =>
    rw [vsum_succ, ← ih]
    show bSum who ratio (dRows r f) d + eWt who ratio (dRows r f d) = _
    rw [show dRows r f d = dRow r (dRun r f (0 + d)) from by funext j; rw [Nat.zero_add]; rfl]
/-- What a line of one that starves is. -/
abbrev st0 : ByteArray := ⟨#[48, 32, 115, 116, 97, 114, 118, 101, 115]⟩
abbrev st1 : ByteArray := ⟨#[49, 32, 115, 116, 97, 114, 118, 101, 115]⟩
theorem line_st0 (mo : Int) : lineS (0 : Nat) 2 mo = st0 := by
  unfold lineS
  rw [if_pos rfl, itoa_nat, dec_two (n := 0) (by decide)]
  rfl
theorem line_st1 (mo : Int) : lineS (1 : Nat) 2 mo = st1 := by
  unfold lineS
  rw [if_pos rfl, itoa_nat, dec_two (n := 1) (by decide)]
  rfl
theorem line_no (j : Nat) (hj : j < 2) (mo : Int) : lineS (j : Nat) 1 mo ≠ st0 ∧ lineS (j : Nat) 1 mo ≠ st1 := by
  have key : ∀ (c : UInt8) (l : List UInt8) (c' : UInt8), (⟨((c :: [32, 98, 111, 117, 110, 100, 101, 100, 32]) ++ l).toArray⟩ : ByteArray) ≠ ⟨#[c', 32, 115, 116, 97, 114, 118, 101, 115]⟩ := by
    intro c l c' h
    have h2 := congrArg (fun b : ByteArray => b.data.toList) h
    simp at h2
  unfold lineS
  rw [if_neg (by decide), itoa_nat]
  rcases (show j = 0 ∨ j = 1 by omega) with rfl | rfl
  · rw [dec_two (n := 0) (by decide)]
    exact ⟨key _ _ _, key _ _ _⟩
  · rw [dec_two (n := 1) (by decide)]
    exact ⟨key _ _ _, key _ _ _⟩
end Go.Proofs.YtgmljgcmfooniaaGreatDoor
/- TopA -/
namespace Go.Proofs.YtgmljgcmfooniaaGreatDoor
open Go.RowKit Go.Shelf Go.Tide
abbrev topS : ByteArray := ⟨#[118, 101, 103, 97, 115, 32, 118, 101, 103, 97, 115, 32, 50, 32, 50, 32, 48]⟩
theorem top_text : (⟨(bnText 1 1 (2 : Nat) (2 : Nat) (0 : Nat)).toArray⟩ : ByteArray) = topS := by
  rw [bnText_eq, dec_two (n := 2) (by decide), dec_two (n := 0) (by decide)]
  rfl
theorem top_ok : BOk 1 1 (2 : Nat) (2 : Nat) (0 : Nat) := by unfold BOk dKind dNums; decide
theorem vok2 (j : Nat) (h : j < 2) : VdOk 1 1 2 2 0 (j : Nat) 3 := by
  rcases (show j = 0 ∨ j = 1 by omega) with rfl | rfl <;> (unfold VdOk dKind dNums; decide)
set_option maxRecDepth 20000 in
set_option maxHeartbeats 4000000 in
theorem top_alive (w : World) (hT : Hid (BTabs w)) : Calls Tryz.prog 10 #[] w fun e w' => e = .returned (.bool true) ∧ More w w' := by
  have R1 : BRight 1 2 2 (rowOf [5, 0]) := ⟨by omega, by omega, by omega, by show ∀ k, k < 2 → _; decide +kernel⟩
  have R2 : BRight 2 3 2 (bkNow 1 2 (rowOf [5, 0])) := ⟨by omega, by omega, by omega, by show ∀ k, k < 2 → _; decide +kernel⟩
  have E1 := Lib.hid (eqLit (n := 2) (m := 2) (f := quWent 2 3 (bkNow 1 2 (rowOf [5, 0]))) (g := rowOf [2, 1]) rfl (by decide +kernel))
  have H1 := Lib.hid R1
  have H2 := Lib.hid R2
  clear R1 R2
  go_enter Tryz.func10, Tryz.ntmps10
  go_wp2_with fail
  refine (tell_any topS (by decide) 3 _ hT).mono ?_
  rintro e w1 ⟨hb, ⟨er, h0, rfl, HE⟩ | ⟨k0, k1, a, b, c, KD, MO, g, cap, HP, HK, hown, rfl⟩⟩
  · exfalso
    unfold TBad at HE
    rcases HE with ⟨k0, k1, a, b, c, HP⟩ | ⟨k0, k1, a, b, c, j, kd, mo, HP, hj, HJ⟩
    · rw [← top_text] at HP
      exact h0 (ppa_text top_ok HP).1
    · rw [← top_text] at HP
      obtain ⟨_, rfl, rfl, rfl, rfl, rfl⟩ := ppa_text top_ok HP
      exact h0 (jf_ok HJ (vok2 j hj) fin2).1
  · clear HP HK hown
    obtain ⟨os0, d0, rfl⟩ := More.of_below hb
    clear hb
    go_wp2_with fail
    refine (bpass_any 1 2 _ 2 _ (rowOf [5, 0]) _ (by repeat (first | (with_reducible apply Row.drewN) | (with_reducible apply Row.more) | (refine Row.litR [5, 0] (by simp [Nat.add_assoc]; done) (by rfl) (by rfl)) | (with_reducible apply Row.alloc))) H1.out).mono ?_
    rintro e w1 ⟨a_1, c_1, rfl, hc_1, hr_1, hb_1⟩
    obtain ⟨os_1, d_1, rfl⟩ := More.of_below hb_1
    clear hb_1
    go_wp2_with fail
    refine (play_any 2 3 _ 2 _ _ _ (by repeat (first | (with_reducible assumption) | (with_reducible exact Row.nil) | (with_reducible apply Row.drewN) | (with_reducible apply Row.drew) | (with_reducible apply Row.more) | (with_reducible apply Row.alloc))) H2.out).mono ?_
    rintro e w1 ⟨a_2, c_2, l_2, m_2, n_2, o_2, rfl, ⟨hc_2, hl_2, hn_2⟩, ⟨hr_2, hs_2, ht_2⟩, hb_2⟩
    obtain ⟨os_2, d_2, rfl⟩ := More.of_below hb_2
    clear hb_2 hs_2 ht_2
    go_wp2_with fail
    refine (equal_any _ _ 2 2 _ _ _ _ _ (by repeat (first | (with_reducible assumption) | (with_reducible exact Row.nil) | (with_reducible apply Row.drewN) | (with_reducible apply Row.drew) | (with_reducible apply Row.more) | (with_reducible apply Row.alloc))) (by repeat (first | (with_reducible apply Row.drewN) | (with_reducible apply Row.more) | (refine Row.litR [2, 1] (by simp [Nat.add_assoc]; done) (by rfl) (by rfl)) | (with_reducible apply Row.alloc))) (by omega) (by omega)).mono ?_
    rintro e w1 ⟨rfl, os_3, d_3, rfl⟩
    rw [E1.out]
    go_wp2
    go_ret
    exact ⟨rfl, mo_⟩
end Go.Proofs.YtgmljgcmfooniaaGreatDoor
/- TopText -/
namespace Go.Proofs.YtgmljgcmfooniaaGreatDoor
open Go.RowKit Go.Shelf Go.Tide
/-- What Tell's answer is, as the law uses it. -/
def TellF (s : ByteArray) (ratio : Int) (w : World) (la : Option Addr) (ln : Nat) (er : Int) : Prop :=
  er ≠ 0 ∨ (er = 0 ∧ ∃ g k0 k1 a b c KD MO, la = some ⟨g, 0, none⟩ ∧ ln = 2 ∧ PPa s k0 k1 a b c 0 ∧ TOk k0 k1 a b c ratio KD MO 2 ∧ g < w.heap.size ∧ w.cell? ⟨g, 0, none⟩ = some (.string (lineS (0 : Nat) (KD 0) (MO 0))) ∧ w.cell? ⟨g, 1, none⟩ = some (.string (lineS (1 : Nat) (KD 1) (MO 1))))
theorem tell_v (s : ByteArray) (hs : s.size < 4294967281) (ratio : Int) (w : World) (hT : Hid (BTabs w)) :
    Calls Tryz.prog 8 #[.string s, .int .i64 ratio] w fun e w' => Below w.heap.size w w' ∧ ∃ (la : Option Addr) (ln lc : Nat) (er : Int), e = .returned (.tuple #[.slice la ln lc, .int .i64 er]) ∧ TellF s ratio w' la ln er := by
  refine (tell_any s hs ratio w hT).mono ?_
  rintro e w1 ⟨hb, ⟨er, h0, rfl, HE⟩ | ⟨k0, k1, a, b, c, KD, MO, g, cap, HP, HK, hown, rfl⟩⟩
  · exact ⟨hb, none, 0, 0, er, rfl, .inl h0⟩
  · exact ⟨hb, some ⟨g, 0, none⟩, 2, cap, 0, rfl, .inr ⟨rfl, g, k0, k1, a, b, c, KD, MO, rfl, rfl, HP, HK, (hown.lt g rfl).2, (hown.cellAt 0 (by omega)).trans rfl, (hown.cellAt 1 (by omega)).trans rfl⟩⟩
theorem TellF.below {s : ByteArray} {ratio : Int} {w w' : World} {la : Option Addr} {ln : Nat} {er : Int} (h : TellF s ratio w la ln er) (hb : Below w.heap.size w w') : TellF s ratio w' la ln er := by
  rcases h with h | ⟨h, g, k0, k1, a, b, c, KD, MO, h1, h2, h3, h4, h5, h6, h7⟩
  · exact .inl h
  · exact .inr ⟨h, g, k0, k1, a, b, c, KD, MO, h1, h2, h3, h4, Nat.lt_of_lt_of_le h5 hb.size, (hb.cell (p := ⟨g, 0, none⟩) h5).trans h6, (hb.cell (p := ⟨g, 1, none⟩) h5).trans h7⟩
theorem line_ne0 (mo : Int) : ((lineS (0 : Nat) 1 mo).toList == [48, 32, 115, 116, 97, 114, 118, 101, 115]) = false := by
  have h := (line_no 0 (by omega) mo).1
  rw [Lib.toList_data, beq_eq_false_iff_ne]
  intro e
  apply h
  apply ByteArray.ext
  apply Array.toList_inj.1
  rw [e]
theorem line_ne1 (mo : Int) : ((lineS (1 : Nat) 1 mo).toList == [49, 32, 115, 116, 97, 114, 118, 101, 115]) = false := by
  have h := (line_no 1 (by omega) mo).2
  rw [Lib.toList_data, beq_eq_false_iff_ne]
  intro e
  apply h
  apply ByteArray.ext
  apply Array.toList_inj.1
  rw [e]
set_option maxRecDepth 20000 in
set_option maxHeartbeats 8000000 in
theorem topText_walk (s0 : ByteArray) (a1 : Int) (a2 : Int) (a3 : Option Addr) (len3 cap3 : Nat) (z3 : List Int) (w : World) (hT0 : BTabs w) (u0 : s0.size ≤ 1048576) (u3 : len3 ≤ 1048576)
    (f0 : s0.size ≤ maxLen) (r0 : s0.size ≤ 140737488351232) (b1 : InI64 a1) (b2 : InI64 a2) (f3 : IsFlat w a3 len3 cap3 2 z3) (r3 : cap3 * 16 ≤ 140737488351232) :
    Calls Tryz.prog 4 #[.string s0, .int .i64 a1, .int .i64 a2, .slice a3 len3 cap3] w fun e w' => e = .returned (.bool true) ∧ Below w.heap.size w w' := by
  have hT : Hid (BTabs w) := hT0
  clear hT0
  have hf := f3.rowC (by omega)
  generalize (fun k j => z3.getD (k * 2 + j) 0) = f at hf
  clear f3 r3 f0 r0
  go_enter Tryz.func4, Tryz.ntmps4
  go_wp2_with fail
  refine (top_alive _ hT).mono ?_
  rintro e w' ⟨rfl, os0, d0, rfl⟩
  go_wp2_with fail
  refine (tell_v s0 (by omega) a1 _ (hT.out.more mo_)).mono ?_
  rintro e w1 ⟨hb1, la, ln, lc, er1, rfl, HF1⟩
  have hB1 : Below w.heap.size w w1 := (More.below mo_).trans (hb1.mono (by simp))
  have HF := Lib.hid HF1
  clear hb1 HF1
  have hf1 := hf.below hB1 (Nat.le_refl _)
  clear hf
  go_wp2_with fail
  refine (parse_any s0 (by omega) _ (hT.out.below hB1)).mono ?_
  rintro e w' ⟨k0, k1, a, b, c, er2, rfl, HP, os, d, rfl⟩
  go_upto_region 5 with fail
  have hR : Blk ((w1.more os d).alloc (.cells #[.int .i64 k0, .int .i64 k1, .int .i64 a, .int .i64 b, .int .i64 c] 32)) (w1.heap.size + os.size) 32 #[.int .i64 k0, .int .i64 k1, .int .i64 a, .int .i64 b, .int .i64 c] := Blk.new' (by simp)
  have hB2 : Below w.heap.size w ((w1.more os d).alloc (.cells #[.int .i64 k0, .int .i64 k1, .int .i64 a, .int .i64 b, .int .i64 c] 32)) := below_then hB1 hB1.size mo_
  have HF2 : Hid (TellF s0 a1 ((w1.more os d).alloc (.cells #[.int .i64 k0, .int .i64 k1, .int .i64 a, .int .i64 b, .int .i64 c] 32)) la ln er1) := HF.out.below (More.below mo_)
  have hf2 : RowC ((w1.more os d).alloc (.cells #[.int .i64 k0, .int .i64 k1, .int .i64 a, .int .i64 b, .int .i64 c] 32)) 2 a3 len3 f := (by repeat (first | (with_reducible assumption) | (with_reducible exact RowC.nil) | (with_reducible apply RowC.drewN) | (with_reducible apply RowC.drew) | (with_reducible apply RowC.more) | (with_reducible apply RowC.alloc)))
  generalize ((w1.more os d).alloc (.cells #[.int .i64 k0, .int .i64 k1, .int .i64 a, .int .i64 b, .int .i64 c] 32)) = w2 at *
  generalize w1.heap.size + os.size = R at *
  clear HF hf1 hB1
  have lR := hR.lt
  have r0 : w2.cell? ⟨R, 0, none⟩ = some (.int .i64 k0) := hR.cell 0
  have r1 : w2.cell? ⟨R, 1, none⟩ = some (.int .i64 k1) := hR.cell 1
  have r2 : w2.cell? ⟨R, 2, none⟩ = some (.int .i64 a) := hR.cell 2
  have r3 : w2.cell? ⟨R, 3, none⟩ = some (.int .i64 b) := hR.cell 3
  have r4 : w2.cell? ⟨R, 4, none⟩ = some (.int .i64 c) := hR.cell 4
  go_wp2_with fail
  refine (judge_b k0 k1 a b c a2 a1 _).mono ?_
  rintro e wj ⟨hbj, kd, mo, sa, sn, sc, ta, tn, tc, er3, rfl, HJ⟩
  replace hR := hR.below hbj lR
  replace hB2 := hB2.trans (hbj.mono hB2.size)
  have HF3 := Lib.hid (HF2.out.below hbj)
  replace hf2 := hf2.below hbj (Nat.le_refl _)
  clear r0 r1 r2 r3 r4 hbj HF2
  go_upto_region 6 with (refine wpList_store_row rfl _ _ _ rfl wj.heap.size #[.int .i64 kd, .int .i64 mo, .slice sa sn sc, .slice ta tn tc] rfl rfl 36 #[.int .i64 0, .int .i64 0, .slice none 0 0, .slice none 0 0] (Blk.new wj _ _) (by kernel_rfl) rfl (by simp [Value.oneCell']) ?_)
  have hV : Blk ((wj.alloc (.cells #[.int .i64 0, .int .i64 0, .slice none 0 0, .slice none 0 0] 36)).setRow wj.heap.size #[.int .i64 kd, .int .i64 mo, .slice sa sn sc, .slice ta tn tc]) wj.heap.size 36 #[.int .i64 kd, .int .i64 mo, .slice sa sn sc, .slice ta tn tc] := newRow
  have hn : Below wj.heap.size wj ((wj.alloc (.cells #[.int .i64 0, .int .i64 0, .slice none 0 0, .slice none 0 0] 36)).setRow wj.heap.size #[.int .i64 kd, .int .i64 mo, .slice sa sn sc, .slice ta tn tc]) := newRow_below
  replace hR := hR.below hn hR.lt
  have hB3 := hB2.trans (hn.mono hB2.size)
  have HF4 := Lib.hid (HF3.out.below hn)
  have hf3 := hf2.below hn (Nat.le_refl _)
  generalize ((wj.alloc (.cells #[.int .i64 0, .int .i64 0, .slice none 0 0, .slice none 0 0] 36)).setRow wj.heap.size #[.int .i64 kd, .int .i64 mo, .slice sa sn sc, .slice ta tn tc]) = w3 at *
  clear hn hB2 HF3 hf2
  generalize wj.heap.size = V at *
  have lR3 := hR.lt
  have lV := hV.lt
  have r0 : w3.cell? ⟨R, 0, none⟩ = some (.int .i64 k0) := hR.cell 0
  have r1 : w3.cell? ⟨R, 1, none⟩ = some (.int .i64 k1) := hR.cell 1
  have r2 : w3.cell? ⟨R, 2, none⟩ = some (.int .i64 a) := hR.cell 2
  have r3 : w3.cell? ⟨R, 3, none⟩ = some (.int .i64 b) := hR.cell 3
  have r4 : w3.cell? ⟨R, 4, none⟩ = some (.int .i64 c) := hR.cell 4
  go_wp2_with fail
  refine (play_v k0 k1 a b c a3 len3 cap3 f _ hf3 u3).mono ?_
  rintro e w4 ⟨hb4, ao, m, co, t, er4, rfl, HPl⟩
  have hV4 := hV.below hb4 lV
  have hB4 := hB3.trans (hb4.mono hB3.size)
  have HF5 := Lib.hid (HF4.out.below hb4)
  have HPL := Lib.hid HPl
  clear r0 r1 r2 r3 r4 hb4 hV hB3 HF4 hf3 HPl hR lR3 lR lV
  go_upto_region 7 with (refine wpList_store_row rfl _ _ _ rfl w4.heap.size (stL t).toArray rfl rfl 44 #[.int .i64 0, .int .i64 0, .int .i64 0, .int .i64 0, .int .i64 0, .int .i64 0, .int .i64 0, .int .i64 0, .int .i64 0, .int .i64 0, .int .i64 0, .int .i64 0, .int .i64 0, .int .i64 0] (Blk.new w4 _ _) (stL_info t) rfl (stL_one t) ?_)
  have hnb : Below w4.heap.size w4 ((w4.alloc (.cells #[.int .i64 0, .int .i64 0, .int .i64 0, .int .i64 0, .int .i64 0, .int .i64 0, .int .i64 0, .int .i64 0, .int .i64 0, .int .i64 0, .int .i64 0, .int .i64 0, .int .i64 0, .int .i64 0] 44)).setRow w4.heap.size (stL t).toArray) := newRow_below
  have hV5 := hV4.below hnb hV4.lt
  have HB := Lib.hid (hB4.trans (hnb.mono hB4.size))
  have HF6 := Lib.hid (HF5.out.below hnb)
  have hnr : ∀ g, RowC w4 6 ao m g → RowC ((w4.alloc (.cells #[.int .i64 0, .int .i64 0, .int .i64 0, .int .i64 0, .int .i64 0, .int .i64 0, .int .i64 0, .int .i64 0, .int .i64 0, .int .i64 0, .int .i64 0, .int .i64 0, .int .i64 0, .int .i64 0] 44)).setRow w4.heap.size (stL t).toArray) 6 ao m g := fun g h => h.below hnb (Nat.le_refl _)
  have HNR := Lib.hid hnr
  generalize ((w4.alloc (.cells #[.int .i64 0, .int .i64 0, .int .i64 0, .int .i64 0, .int .i64 0, .int .i64 0, .int .i64 0, .int .i64 0, .int .i64 0, .int .i64 0, .int .i64 0, .int .i64 0, .int .i64 0, .int .i64 0] 44)).setRow w4.heap.size (stL t).toArray) = w5 at *
  clear hnb hV4 hB4 HF5 hnr
  have xk : w5.cell? ⟨V, 0, none⟩ = some (.int .i64 kd) := hV5.cell 0
  have xm : w5.cell? ⟨V, 1, none⟩ = some (.int .i64 mo) := hV5.cell 1
  have lV := hV5.lt
  clear hV5
  by_cases h1 : er1 = 0
  case neg =>
    have g0 : (er1 != 0) = true := by simpa using h1
    go_wp2
    go_ret
    exact ⟨rfl, HB.out⟩
  subst h1
  by_cases h4 : er4 = 0
  case neg =>
    have g0 : (er4 != 0) = true := by simpa using h4
    go_wp2
    go_ret
    exact ⟨rfl, HB.out⟩
  subst h4
  by_cases c0 : a2 < 0
  · have d0_ : decide (a2 < 0) = true := by simpa using c0
    go_wp2
    go_ret
    exact ⟨rfl, HB.out⟩
  have d0_ : decide (a2 < 0) = false := by simpa using c0
  by_cases c1 : 1 < a2
  · have d1_ : decide (1 < a2) = true := by simpa using c1
    go_wp2
    go_ret
    exact ⟨rfl, HB.out⟩
  have d1_ : decide (1 < a2) = false := by simpa using c1
  obtain ⟨g, x0, x1, x2, x3, x4, KD, MO, rfl, rfl, HPT, HK, lg, y0, y1⟩ : ∃ g k0 k1 a b c KD MO, la = some ⟨g, 0, none⟩ ∧ ln = 2 ∧ PPa s0 k0 k1 a b c 0 ∧ TOk k0 k1 a b c a1 KD MO 2 ∧ g < w5.heap.size ∧ w5.cell? ⟨g, 0, none⟩ = some (.string (lineS (0 : Nat) (KD 0) (MO 0))) ∧ w5.cell? ⟨g, 1, none⟩ = some (.string (lineS (1 : Nat) (KD 1) (MO 1))) := by
    rcases HF6.out with h | ⟨_, h⟩
    · exact absurd rfl h
    · exact h
  obtain ⟨_, h0, h1, h2, h3, h4⟩ := ppa_same HPT HP.out
  rw [← h0, ← h1, ← h2, ← h3, ← h4] at HK
  clear h0 h1 h2 h3 h4
  obtain ⟨hmm, q, u, J, rfl, rfl, rfl, hrok, hall, hro0⟩ : m = len3 ∧ ∃ q u J : Nat, a = q ∧ b = u ∧ c = J ∧ DRules.ok ⟨k0, k1, q, u, (J : Nat)⟩ ∧ dAll ⟨k0, k1, q, u, (J : Nat)⟩ f len3 ∧ RowC w4 6 ao m (dRows ⟨k0, k1, q, u, (J : Nat)⟩ f) := by
    rcases HPL.out with h | ⟨_, h⟩
    · exact absurd rfl h
    · exact h
  subst hmm
  have hro := HNR.out _ hro0
  clear HF6 HPL HNR hro0
  rcases (show a2 = 0 ∨ a2 = 1 by omega) with rfl | rfl
  · skip
    have hJF := jf_same HJ.out.1 (show JFacts k0 k1 q u J 0 a1 (KD 0) (MO 0) 0 from HK 0 (by omega))
    obtain ⟨he3, hvok, hkk⟩ := hJF
    have HRT : Hid (1 ≤ a1 ∧ a1 ≤ 100) := hvok.2.2
    have HQB : Hid (∀ k, k < m → ∀ j, 0 ≤ dRows ⟨k0, k1, q, u, (J : Nat)⟩ f k j ∧ dRows ⟨k0, k1, q, u, (J : Nat)⟩ f k j ≤ 100) := fun k hk j => row_pos hrok (run_ok hrok _ (fun i hi => hall i (by omega))) j
    rcases hkk with ⟨hk1, hk2, hvb⟩ | ⟨hk1, hk2⟩
    · have hln := line_no 0 (by omega) (MO 0)
      rw [hk2] at y0
      have HLN := Lib.hid hln
      obtain ⟨L, hL⟩ : ∃ L, Hid (lineS ((0 : Nat) : Int) 1 (MO 0) = L) := ⟨_, rfl⟩
      rw [hL.out] at y0 hln
      have qs : (L.toList == [48, 32, 115, 116, 97, 114, 118, 101, 115]) = false := by rw [← hL.out]; exact line_ne0 _
      obtain ⟨sm, hsm⟩ : ∃ sm, Hid (bSum 0 a1 (dRows ⟨k0, k1, q, u, (J : Nat)⟩ f) m = sm) := ⟨_, rfl⟩
      have hle : decide (sm ≤ mo) = true := by
        have h := hvb f m hall 0 m (by omega)
        rw [← bsum_v] at h
        have h' : sm ≤ mo := by rw [← hsm.out]; exact h
        simpa using h'
      subst hk1
      clear HJ HK HPT HP hvok hvb hk2 HLN hall hrok he3 y1
      go_wp2_with fail
      refine wp_region_held_drew (S := fun w' => More w5 w') (by kernel_rfl) ?_ (fun hHeld => ?_)
      · exact mo_
      refine tk0 0 rfl ?_; try simp only [lay]
      refine tk0 1 rfl ?_; try simp only [lay]
      refine tk0 2 rfl ?_; try simp only [lay]
      refine tk 3 (.string L) rfl ⟨by rfl, fun w' hSw => by have hl := (More.cell' hSw lg).trans y0; clear hSw; go_simp; try (with_reducible rfl)⟩ ?_; try simp only [lay]
      refine tk0 5 rfl ?_; try simp only [lay]
      refine wpAnyH_ready (rs := [4]) (by kernel_rfl) (by simp) ?_
      refine AllReadyH.cons rfl (fun K hK => ?_) AllReadyH.nil
      go_simp
      refine hK.out _ _ ?_ (fun hHeld => ?_)
      · exact mo_
      clear hK K
      try simp only [lay]
      refine tk0 6 rfl ?_; try simp only [lay]
      refine wpAnyH_ready (rs := [7]) (by kernel_rfl) (by simp) ?_
      refine AllReadyH.cons rfl (fun K hK => ?_) AllReadyH.nil
      go_simp
      refine hK.out _ _ ?_ (fun hHeld => ?_)
      · exact mo_
      clear hK K
      try simp only [lay]
      refine wpAnyH_ready (rs := [8]) (by kernel_rfl) (by simp) ?_
      refine AllReadyH.cons rfl (fun K hK => ?_) AllReadyH.nil
      go_simp
      refine hK.out _ _ ?_ (fun hHeld => ?_)
      · exact mo_
      clear hK K
      try simp only [lay]
      refine tk0 9 rfl ?_; try simp only [lay]
      refine tk0 10 rfl ?_; try simp only [lay]
      refine tk0 11 rfl ?_; try simp only [lay]
      refine tk0 12 rfl ?_; try simp only [lay]
      refine tk0 14 rfl ?_; try simp only [lay]
      refine tk 15 (.int .i64 mo) rfl ⟨by rfl, fun w' hSw => by have hl := (More.cell' hSw lV).trans xm; clear hSw; go_simp; try (with_reducible rfl)⟩ ?_; try simp only [lay]
      refine wpAnyH_ready (rs := [13]) (by kernel_rfl) (by simp) ?_
      refine AllReadyH.cons rfl (fun K hK => ?_) AllReadyH.nil
      go_simp
      refine (tbrings_any ao m co (dRows ⟨k0, k1, q, u, (J : Nat)⟩ f) 0 a1 _ (by repeat (first | (with_reducible assumption) | (with_reducible exact RowC.nil) | (with_reducible apply RowC.drewN) | (with_reducible apply RowC.drew) | (with_reducible apply RowC.more) | (with_reducible apply RowC.alloc))) u3 (.inl rfl) HRT HQB).mono ?_
      rintro e w7 ⟨rfl, os9, d9, rfl⟩
      rw [hsm.out]
      refine hK.out _ _ ?_ (fun hHeld => ?_)
      · exact mo_
      clear hK K
      try simp only [lay]
      refine tk0 16 rfl ?_; try simp only [lay]
      refine tk0 17 rfl ?_; try simp only [lay]
      refine tk0 18 rfl ?_; try simp only [lay]
      refine wpAnyH_done (by kernel_rfl) ?_ _
      go_wp2
      go_ret
      exact ⟨rfl, below_then HB.out HB.out.size mo_⟩
    · rw [hk2, line_st0] at y0
      subst hk1
      clear HJ HK HPT HP hvok hk2 hall hrok he3 y1 HQB HRT
      go_wp2_with fail
      refine wp_region_held_drew (S := fun w' => More w5 w') (by kernel_rfl) ?_ (fun hHeld => ?_)
      · exact md_
      refine tk0 0 rfl ?_; try simp only [lay]
      refine tk0 1 rfl ?_; try simp only [lay]
      refine tk0 2 rfl ?_; try simp only [lay]
      refine tk 3 (.string st0) rfl ⟨by rfl, fun w' hSw => by have hl := (More.cell' hSw lg).trans y0; clear hSw; go_simp; try (with_reducible rfl)⟩ ?_; try simp only [lay]
      refine tk0 5 rfl ?_; try simp only [lay]
      refine wpAnyH_ready (rs := [4]) (by kernel_rfl) (by simp) ?_
      refine AllReadyH.cons rfl (fun K hK => ?_) AllReadyH.nil
      go_simp
      refine hK.out _ _ ?_ (fun hHeld => ?_)
      · exact md_
      clear hK K
      try simp only [lay]
      refine tk0 6 rfl ?_; try simp only [lay]
      refine wpAnyH_ready (rs := [7]) (by kernel_rfl) (by simp) ?_
      refine AllReadyH.cons rfl (fun K hK => ?_) AllReadyH.nil
      go_simp
      refine hK.out _ _ ?_ (fun hHeld => ?_)
      · exact mo_
      clear hK K
      try simp only [lay]
      refine tk0 8 rfl ?_; try simp only [lay]
      refine tk0 9 rfl ?_; try simp only [lay]
      refine wpAnyH_done (by kernel_rfl) ?_ _
      go_wp2
      go_ret
      exact ⟨rfl, below_then HB.out HB.out.size mo_⟩
  · skip
    have hJF := jf_same HJ.out.1 (show JFacts k0 k1 q u J 1 a1 (KD 1) (MO 1) 0 from HK 1 (by omega))
    obtain ⟨he3, hvok, hkk⟩ := hJF
    have HRT : Hid (1 ≤ a1 ∧ a1 ≤ 100) := hvok.2.2
    have HQB : Hid (∀ k, k < m → ∀ j, 0 ≤ dRows ⟨k0, k1, q, u, (J : Nat)⟩ f k j ∧ dRows ⟨k0, k1, q, u, (J : Nat)⟩ f k j ≤ 100) := fun k hk j => row_pos hrok (run_ok hrok _ (fun i hi => hall i (by omega))) j
    rcases hkk with ⟨hk1, hk2, hvb⟩ | ⟨hk1, hk2⟩
    · have hln := line_no 1 (by omega) (MO 1)
      rw [hk2] at y1
      have HLN := Lib.hid hln
      obtain ⟨L, hL⟩ : ∃ L, Hid (lineS ((1 : Nat) : Int) 1 (MO 1) = L) := ⟨_, rfl⟩
      rw [hL.out] at y1 hln
      have qs : (L.toList == [49, 32, 115, 116, 97, 114, 118, 101, 115]) = false := by rw [← hL.out]; exact line_ne1 _
      obtain ⟨sm, hsm⟩ : ∃ sm, Hid (bSum 1 a1 (dRows ⟨k0, k1, q, u, (J : Nat)⟩ f) m = sm) := ⟨_, rfl⟩
      have hle : decide (sm ≤ mo) = true := by
        have h := hvb f m hall 0 m (by omega)
        rw [← bsum_v] at h
        have h' : sm ≤ mo := by rw [← hsm.out]; exact h
        simpa using h'
      subst hk1
      clear HJ HK HPT HP hvok hvb hk2 HLN hall hrok he3 y0
      go_wp2_with fail
      refine wp_region_held_drew (S := fun w' => More w5 w') (by kernel_rfl) ?_ (fun hHeld => ?_)
      · exact mo_
      refine tk0 0 rfl ?_; try simp only [lay]
      refine tk0 1 rfl ?_; try simp only [lay]
      refine tk0 2 rfl ?_; try simp only [lay]
      refine tk 3 (.string L) rfl ⟨by rfl, fun w' hSw => by have hl := (More.cell' hSw lg).trans y1; clear hSw; go_simp; try (with_reducible rfl)⟩ ?_; try simp only [lay]
      refine tk0 5 rfl ?_; try simp only [lay]
      refine wpAnyH_ready (rs := [4]) (by kernel_rfl) (by simp) ?_
      refine AllReadyH.cons rfl (fun K hK => ?_) AllReadyH.nil
      go_simp
      refine hK.out _ _ ?_ (fun hHeld => ?_)
      · exact mo_
      clear hK K
      try simp only [lay]
      refine tk0 6 rfl ?_; try simp only [lay]
      refine wpAnyH_ready (rs := [7]) (by kernel_rfl) (by simp) ?_
      refine AllReadyH.cons rfl (fun K hK => ?_) AllReadyH.nil
      go_simp
      refine hK.out _ _ ?_ (fun hHeld => ?_)
      · exact mo_
      clear hK K
      try simp only [lay]
      refine wpAnyH_ready (rs := [8]) (by kernel_rfl) (by simp) ?_
      refine AllReadyH.cons rfl (fun K hK => ?_) AllReadyH.nil
      go_simp
      refine hK.out _ _ ?_ (fun hHeld => ?_)
      · exact mo_
      clear hK K
      try simp only [lay]
      refine tk0 9 rfl ?_; try simp only [lay]
      refine tk0 10 rfl ?_; try simp only [lay]
      refine tk0 11 rfl ?_; try simp only [lay]
      refine tk0 12 rfl ?_; try simp only [lay]
      refine tk0 14 rfl ?_; try simp only [lay]
      refine tk 15 (.int .i64 mo) rfl ⟨by rfl, fun w' hSw => by have hl := (More.cell' hSw lV).trans xm; clear hSw; go_simp; try (with_reducible rfl)⟩ ?_; try simp only [lay]
      refine wpAnyH_ready (rs := [13]) (by kernel_rfl) (by simp) ?_
      refine AllReadyH.cons rfl (fun K hK => ?_) AllReadyH.nil
      go_simp
      refine (tbrings_any ao m co (dRows ⟨k0, k1, q, u, (J : Nat)⟩ f) 1 a1 _ (by repeat (first | (with_reducible assumption) | (with_reducible exact RowC.nil) | (with_reducible apply RowC.drewN) | (with_reducible apply RowC.drew) | (with_reducible apply RowC.more) | (with_reducible apply RowC.alloc))) u3 (.inr rfl) HRT HQB).mono ?_
      rintro e w7 ⟨rfl, os9, d9, rfl⟩
      rw [hsm.out]
      refine hK.out _ _ ?_ (fun hHeld => ?_)
      · exact mo_
      clear hK K
      try simp only [lay]
      refine tk0 16 rfl ?_; try simp only [lay]
      refine tk0 17 rfl ?_; try simp only [lay]
      refine tk0 18 rfl ?_; try simp only [lay]
      refine wpAnyH_done (by kernel_rfl) ?_ _
      go_wp2
      go_ret
      exact ⟨rfl, below_then HB.out HB.out.size mo_⟩
    · rw [hk2, line_st1] at y1
      subst hk1
      clear HJ HK HPT HP hvok hk2 hall hrok he3 y0 HQB HRT
      go_wp2_with fail
      refine wp_region_held_drew (S := fun w' => More w5 w') (by kernel_rfl) ?_ (fun hHeld => ?_)
      · exact md_
      refine tk0 0 rfl ?_; try simp only [lay]
      refine tk0 1 rfl ?_; try simp only [lay]
      refine tk0 2 rfl ?_; try simp only [lay]
      refine tk 3 (.string st1) rfl ⟨by rfl, fun w' hSw => by have hl := (More.cell' hSw lg).trans y1; clear hSw; go_simp; try (with_reducible rfl)⟩ ?_; try simp only [lay]
      refine tk0 5 rfl ?_; try simp only [lay]
      refine wpAnyH_ready (rs := [4]) (by kernel_rfl) (by simp) ?_
      refine AllReadyH.cons rfl (fun K hK => ?_) AllReadyH.nil
      go_simp
      refine hK.out _ _ ?_ (fun hHeld => ?_)
      · exact md_
      clear hK K
      try simp only [lay]
      refine tk0 6 rfl ?_; try simp only [lay]
      refine wpAnyH_ready (rs := [7]) (by kernel_rfl) (by simp) ?_
      refine AllReadyH.cons rfl (fun K hK => ?_) AllReadyH.nil
      go_simp
      refine hK.out _ _ ?_ (fun hHeld => ?_)
      · exact mo_
      clear hK K
      try simp only [lay]
      refine tk0 8 rfl ?_; try simp only [lay]
      refine tk0 9 rfl ?_; try simp only [lay]
      refine wpAnyH_done (by kernel_rfl) ?_ _
      go_wp2
      go_ret
      exact ⟨rfl, below_then HB.out HB.out.size mo_⟩
end Go.Proofs.YtgmljgcmfooniaaGreatDoor
