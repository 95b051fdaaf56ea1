/- SteadyWeighs: for every input of such bulk the law returns true. Conditions: none. -/
import Derived.Test.YtehlgomjgmabeaaStCont
import Derived.Test.YtehlgomjgmabeaaStTold
import Derived.Test.YtehlgomjgmabeaaStA
import Derived.Test.YtehlgomjgmabeaaDuelX
import Derived.Test.YtehlgomjgmabeaaIsFlat
set_option linter.unusedVariables false
set_option linter.unusedSimpArgs false
namespace Go.Proofs.Ytehlgomjgmabeaa
open Go.RowKit Go.Shelf Go.Tide
set_option linter.unusedVariables false
set_option linter.unusedSimpArgs false
/-- An edge's cells. -/
def edL (g : Nat → Int) : List Value := [.int .i64 (g 0), .int .i64 (g 1), .int .i64 (g 2)]
theorem edL_one (g : Nat → Int) : (edL g).toArray.all (·.oneCell') = true := by simp [edL, Value.oneCell']
theorem edL_info (g : Nat → Int) : (Try.prog.info? 56).map (·.size) = some (edL g).length := by
  rw [show (edL g).length = 3 from rfl]
  kernel_rfl
/-- A round's cells. -/
def rdL (q : Nat → Int) : List Value := [.int .i64 (q 0), .int .i64 (q 1), .int .i64 (q 2), .int .i64 (q 3), .int .i64 (q 4), .int .i64 (q 5)]
theorem rdL_one (q : Nat → Int) : (rdL q).toArray.all (·.oneCell') = true := by simp [rdL, Value.oneCell']
theorem rdL_info (q : Nat → Int) : (Try.prog.info? 38).map (·.size) = some (rdL q).length := by
  rw [show (rdL q).length = 6 from rfl]
  kernel_rfl
theorem rangeRow {w : World} {C : Nat} {a : Option Addr} {n k : Nat} {f : Nat → Nat → Int} (h : RowC w C a n f) (hk : k < n) : ∃ b off, a = some ⟨b, off, none⟩ ∧ b < w.heap.size ∧ w.rangeAt b (off + k * C) ((List.range C).map fun j => Value.int .i64 (f k j)) := by
  obtain ⟨b, off, rfl, hb, hc⟩ := h (by omega)
  refine ⟨b, off, rfl, hb, fun j v hv => ?_⟩
  have hj : j < C := by have := (List.getElem?_eq_some_iff.1 hv).1; simpa using this
  have h1 := hc k j hk hj
  rw [Nat.add_assoc, h1]
  simpa [List.getElem?_map, List.getElem?_range hj] using hv
/-- The number of an edge. -/
theorem edge_num (J i m q : Nat) (x0 x1 : Int) (hJ : J ≤ 3) (hi : i < 300) (h0 : 0 ≤ x0 ∧ x0 ≤ J) (h1 : 0 ≤ x1 ∧ x1 ≤ J) (hm : (J + 1) * (J + 1) = m) (hq : J + 1 = q) (u : Nat) (hu : u = i * m + (x0.toNat * (J + 1) + x1.toNat)) :
    IntKind.i64.wrap (IntKind.i64.wrap (IntKind.i64.wrap ((m : Int) * (i : Int)) + IntKind.i64.wrap (x0 * (q : Int))) + x1) = (u : Int) := by
  obtain ⟨a, rfl⟩ : ∃ a : Nat, x0 = a := ⟨x0.toNat, by omega⟩
  obtain ⟨b, rfl⟩ : ∃ b : Nat, x1 = b := ⟨x1.toNat, by omega⟩
  have hm16 : m ≤ 16 := by rw [← hm]; exact Nat.mul_le_mul (show J + 1 ≤ 4 by omega) (show J + 1 ≤ 4 by omega)
  have e1 : m * i ≤ 16 * 300 := Nat.mul_le_mul hm16 (by omega)
  have e2 : a * q ≤ 3 * 4 := Nat.mul_le_mul (by omega) (by omega)
  have f1 : (m : Int) * (i : Int) = ((m * i : Nat) : Int) := (Int.natCast_mul _ _).symm
  have f2 : (a : Int) * (q : Int) = ((a * q : Nat) : Int) := (Int.natCast_mul _ _).symm
  have s1 : IntKind.i64.wrap ((m : Int) * (i : Int)) = ((m * i : Nat) : Int) := by rw [f1]; exact IntWalk.i64_in _ (by omega)
  have s2 : IntKind.i64.wrap ((a : Int) * (q : Int)) = ((a * q : Nat) : Int) := by rw [f2]; exact IntWalk.i64_in _ (by omega)
  have s3 : IntKind.i64.wrap (((m * i : Nat) : Int) + ((a * q : Nat) : Int)) = ((m * i : Nat) : Int) + ((a * q : Nat) : Int) := IntWalk.i64_in _ (by omega)
  rw [s1, s2, s3, IntWalk.i64_in _ (by omega), hu]
  simp only [Int.toNat_natCast]
  rw [hq, Nat.mul_comm m i]
  omega
theorem each_num (J m q n : Nat) (hJ : J ≤ 3) (hn : n ≤ 300) (hm : (J + 1) * (J + 1) = m) (hq : J + 1 = q) : IntKind.i64.wrap ((J : Int) + 1) = (q : Int) ∧ IntKind.i64.wrap ((q : Int) * (q : Int)) = (m : Int) ∧ IntKind.i64.wrap ((m : Int) * (n : Int)) = ((n * m : Nat) : Int) := by
  have hm16 : m ≤ 16 := by rw [← hm]; exact Nat.mul_le_mul (show J + 1 ≤ 4 by omega) (show J + 1 ≤ 4 by omega)
  have e1 : n * m ≤ 300 * 16 := Nat.mul_le_mul hn hm16
  refine ⟨?_, ?_, ?_⟩
  · rw [IntWalk.i64_in _ (by omega)]; omega
  · rw [← Int.natCast_mul, ← hq, hm]; exact IntWalk.i64_in _ (by omega)
  · rw [← Int.natCast_mul, Nat.mul_comm]; exact IntWalk.i64_in _ (by omega)
theorem wt_num (ratio c0 c1 : Int) (hr : 1 ≤ ratio ∧ ratio ≤ 100) (h0 : 0 ≤ c0 ∧ c0 ≤ 100) (h1 : 0 ≤ c1 ∧ c1 ≤ 100) : IntKind.i64.wrap (c0 - IntKind.i64.wrap (ratio * c1)) = c0 - ratio * c1 := by
  have h3 : 0 ≤ ratio * c1 := Int.mul_nonneg (by omega) h1.1
  have h4 : ratio * c1 ≤ 100 * 100 := Int.mul_le_mul hr.2 h1.2 h1.1 (by omega)
  rw [IntWalk.i64_in (ratio * c1) (by omega), IntWalk.i64_in _ (by omega)]
theorem found_zero {r : DRules} {J : Nat} {s : Fnd DSt} (hs : dFin r J = some s) {f : Nat → Nat → Int} : Hid (s.l[0]? = some (dRun r f 0)) :=
  (finv_run (m_pos J) (by omega) _ _ hs : FInv (dNx r J) ((J + 1) * (J + 1)) 300 (dBegin r) (300 * ((J + 1) * (J + 1))) s).first
section
variable {P : Program} {ops : Array Oper} {Q : Exit → Act → World → Prop} {md : Region.Mode} {oi : Oper} {fuel : Nat} {listed : Array Bool} {a : Act} {w : World}
/-- Operation i is taken, and walked, in a region that only reads. -/
theorem tkE (i : Nat) {v : Value} (hi : ops[i]? = some oi) (h : wpAnyH P md ops Q (fun w' => w' = w) fuel (listed.setIfInBounds i true) (a.put oi.dst v) w)
    (hg : Region.wanted oi (yielded ops a.tmps) = true := by rfl) (hy : (execOp a.eval oi).run P w = .ok (.value v) w := by go_simp; try (with_reducible rfl))
    (hs : Region.noSelect ops = true := by kernel_rfl) (hf : Region.free md ops listed i = true := by kernel_rfl) (hr : (Region.ready md ops listed).contains i = true := by kernel_rfl)
    (hQ : ∀ c a w, Q (.panic c) (a.put oi.dst v) w → Q (.panic c) a w := by exact fun _ _ _ h => h) : wpAnyH P md ops Q (fun w' => w' = w) (fuel + 1) listed a w :=
  wpAnyH_take hi hs hf hr hQ (Or.inl ⟨hg, fun w' hw => by rw [hw]; exact hy⟩) rfl h
end
set_option maxRecDepth 20000 in
set_option maxHeartbeats 8000000 in
theorem steadyWeighs_ok (a0_0 a0_1 : Int) (rate buf J who : Nat) (ratio : Int) (a3 : Option Addr) (len3 cap3 : Nat) (f : Nat → Nat → Int) (w : World) (HR : Hid (DRules.ok ⟨a0_0, a0_1, rate, buf, (J : Nat)⟩)) (hw : Hid (who = 0 ∨ who = 1)) (hra : Hid (1 ≤ ratio ∧ ratio ≤ 100)) (hf : RowC w 2 a3 len3 f) (s3 : len3 ≤ 1048576) :
    Calls Try.prog 6 #[.agg #[.int .i64 a0_0, .int .i64 a0_1, .int .i64 rate, .int .i64 buf, .int .i64 (J : Nat)], .int .i64 (who : Nat), .int .i64 ratio, .slice a3 len3 cap3] w fun e w' => e = .returned (.bool true) ∧ Below w.heap.size w w' := by
  have hJ3 : J ≤ 3 := by have h := HR.out.2.2.2.2.2.2.2; have h2 : (J : Int) ≤ 3 := h; omega
  go_enter Try.func6, Try.ntmps6
  go_wp2_with (go_at_call 16; refine (steady_alive _).mono ?_; rintro e w' ⟨rfl, os0, d0, rfl⟩)
  go_wp2_with fail
  have hm : More w ((w.alloc (.cells #[.int .i64 a0_0, .int .i64 a0_1, .int .i64 rate, .int .i64 buf, .int .i64 (J : Nat)] 24)).more os0 d0) := (by repeat (first | (with_reducible assumption) | (with_reducible exact More.refl _) | (with_reducible refine More.alloc ?_ _) | (with_reducible refine More.more ?_ _ _) | (with_reducible refine More.drewN ?_ _) | (with_reducible refine More.drew ?_)))
  have hB1 : Blk ((w.alloc (.cells #[.int .i64 a0_0, .int .i64 a0_1, .int .i64 rate, .int .i64 buf, .int .i64 (J : Nat)] 24)).more os0 d0) w.heap.size 24 #[.int .i64 a0_0, .int .i64 a0_1, .int .i64 rate, .int .i64 buf, .int .i64 (J : Nat)] := (by repeat (first | (with_reducible assumption) | ((with_reducible refine Blk.new' ?_); (simp [Nat.add_assoc]; done)) | (with_reducible refine Blk.alloc ?_ _) | (with_reducible refine Blk.more ?_ _ _) | (with_reducible refine Blk.drew ?_) | (with_reducible refine Blk.drewN ?_ _)))
  have hz : RowC ((w.alloc (.cells #[.int .i64 a0_0, .int .i64 a0_1, .int .i64 rate, .int .i64 buf, .int .i64 (J : Nat)] 24)).more os0 d0) 2 a3 len3 f := (by repeat (first | (with_reducible assumption) | (with_reducible exact RowC.nil) | (with_reducible apply RowC.drewN) | (with_reducible apply RowC.drew) | (with_reducible apply RowC.more) | (with_reducible apply RowC.alloc)))
  have hlg := hB1.lt
  generalize ((w.alloc (.cells #[.int .i64 a0_0, .int .i64 a0_1, .int .i64 rate, .int .i64 buf, .int .i64 (J : Nat)] 24)).more os0 d0) = wz at *
  have hmb := hm.below
  have hms := hmb.size
  refine (states_any ⟨a0_0, a0_1, rate, buf, (J : Nat)⟩ J (show Hid (DRules.jit ⟨a0_0, a0_1, rate, buf, (J : Nat)⟩ = (J : Int)) from rfl) HR.out _).mono ?_
  intro e w1 hP
  have HP := Lib.hid hP
  clear hP
  have hP := HP.out
  unfold StatesPost at hP
  rcases hP with ⟨s, a2, c2, hF, he, hrow, hG, hm1⟩ | ⟨hF, he, hm1⟩
  · subst he
    have hz1 : RowC w1 2 a3 len3 f := hz.below hm1.below (Nat.le_refl _)
    have hB2 := hB1.below hm1.below hlg
    have hl2 := hB2.lt
    have f0 : w1.cell? ⟨w.heap.size, 0, none⟩ = _ := hB2.cell 0
    have f1 : w1.cell? ⟨w.heap.size, 1, none⟩ = _ := hB2.cell 1
    have f2 : w1.cell? ⟨w.heap.size, 2, none⟩ = _ := hB2.cell 2
    have f3 : w1.cell? ⟨w.heap.size, 3, none⟩ = _ := hB2.cell 3
    have f4 : w1.cell? ⟨w.heap.size, 4, none⟩ = _ := hB2.cell 4
    have HF := Lib.hid hF
    have HM : Hid (Below w.heap.size w w1) := below_then hmb hms hm1
    have hws := HM.out.size
    have hl300 : s.l.length ≤ 300 := hG.le
    have HG := Lib.hid hG
    clear HP hF hz hB1 hm1 hmb hm hG
    go_wp2_with fail
    refine (graph_any ⟨a0_0, a0_1, rate, buf, (J : Nat)⟩ J (show Hid (DRules.jit ⟨a0_0, a0_1, rate, buf, (J : Nat)⟩ = (J : Int)) from rfl) HR.out who ratio hw.out hra.out _).mono ?_
    rintro e w2 ⟨hb2, hP⟩
    have he : ∃ E a c, Hid (Told ⟨a0_0, a0_1, rate, buf, (J : Nat)⟩ J s E) ∧ e = .returned (.tuple #[.agg #[.int .i64 s.l.length, .slice a E.length c], .int .i64 0]) ∧ RowC w2 3 a E.length (egF who ratio E) := by
      rcases hP with ⟨s', E, a, c, h1, _, h2, h3, h4⟩ | ⟨h1, _⟩
      · rw [HF.out] at h1
        obtain rfl := Option.some.inj h1
        exact ⟨E, a, c, h2, h3, h4⟩
      · rw [HF.out] at h1; cases h1
    obtain ⟨E, ae, c3, HT, rfl, hre⟩ := he
    clear hP
    have hz2 : RowC w2 2 a3 len3 f := hz1.below hb2 (Nat.le_refl _)
    have hrow2 : RowC w2 14 a2 s.l.length (stF s) := hrow.below hb2 (Nat.le_refl _)
    have hB3 := hB2.below hb2 hl2
    have hl3 := hB3.lt
    have HM2 : Hid (Below w.heap.size w w2) := HM.out.trans (hb2.mono hws)
    have hws2 := HM2.out.size
    clear f0 f1 f2 f3 f4 hz1 hrow hB2 hb2 HM
    obtain ⟨m, hmm⟩ : ∃ m, Hid ((J + 1) * (J + 1) = m) := ⟨_, rfl⟩
    obtain ⟨q, hqq⟩ : ∃ q, Hid (J + 1 = q) := ⟨_, rfl⟩
    obtain ⟨n1, n2, n3⟩ := each_num J m q s.l.length hJ3 hl300 hmm.out hqq.out
    have hEl : Hid (E.length = s.l.length * m) := by have h := HT.out.1; rw [hmm.out] at h; exact h
    rw [← hEl.out] at n3
    have f0 : w2.cell? ⟨w.heap.size, 0, none⟩ = _ := hB3.cell 0
    have f1 : w2.cell? ⟨w.heap.size, 1, none⟩ = _ := hB3.cell 1
    have f2 : w2.cell? ⟨w.heap.size, 2, none⟩ = _ := hB3.cell 2
    have f3 : w2.cell? ⟨w.heap.size, 3, none⟩ = _ := hB3.cell 3
    have f4 : w2.cell? ⟨w.heap.size, 4, none⟩ = _ := hB3.cell 4
    go_wp2_with fail
    have hGB : Blk (w2.alloc (.cells #[.int .i64 s.l.length, .slice ae E.length c3] 52)) w2.heap.size 52 #[.int .i64 s.l.length, .slice ae E.length c3] := (by repeat (first | (with_reducible assumption) | ((with_reducible refine Blk.new' ?_); (simp [Nat.add_assoc]; done)) | (with_reducible refine Blk.alloc ?_ _) | (with_reducible refine Blk.more ?_ _ _) | (with_reducible refine Blk.drew ?_) | (with_reducible refine Blk.drewN ?_ _)))
    have hz4 : RowC (w2.alloc (.cells #[.int .i64 s.l.length, .slice ae E.length c3] 52)) 2 a3 len3 f := hz2.alloc _
    have hrow4 : RowC (w2.alloc (.cells #[.int .i64 s.l.length, .slice ae E.length c3] 52)) 14 a2 s.l.length (stF s) := hrow2.alloc _
    have hre4 : RowC (w2.alloc (.cells #[.int .i64 s.l.length, .slice ae E.length c3] 52)) 3 ae E.length (egF who ratio E) := hre.alloc _
    have hB4 := hB3.alloc (.cells #[.int .i64 s.l.length, .slice ae E.length c3] 52)
    have HM4 : Hid (Below w.heap.size w (w2.alloc (.cells #[.int .i64 s.l.length, .slice ae E.length c3] 52))) := HM2.out.alloc (by omega) _
    generalize (w2.alloc (.cells #[.int .i64 s.l.length, .slice ae E.length c3] 52)) = w4 at *
    generalize hGe : w2.heap.size = G at *
    have hl4 := hB4.lt
    have hlG := hGB.lt
    have hws4 := HM4.out.size
    clear hz2 hrow2 hre hB3 HM2 f0 f1 f2 f3 f4 n1 n2 n3 hl3
    by_cases hA : dAll ⟨a0_0, a0_1, rate, buf, (J : Nat)⟩ f len3
    · have HA := Lib.hid hA
      clear hA
      refine (play_ok ⟨a0_0, a0_1, rate, buf, (J : Nat)⟩ a3 len3 cap3 f _ hz4 s3 HR.out HA.out).mono ?_
      rintro e w5 ⟨ao, co, he, hown, hb5⟩
      obtain ⟨t, ht⟩ : ∃ t, Hid (dRun ⟨a0_0, a0_1, rate, buf, (J : Nat)⟩ f len3 = t) := ⟨_, rfl⟩
      rw [ht.out] at he
      have he' : e = .returned (.tuple #[.slice ao len3 co, .agg (stL t).toArray, .int .i64 0]) := he
      subst he'
      have hro : RowC w5 6 ao len3 (dRows ⟨a0_0, a0_1, rate, buf, (J : Nat)⟩ f) := RowC.of_own (by omega) hown
      have hz5 : RowC w5 2 a3 len3 f := hz4.below hb5 (Nat.le_refl _)
      have hrow5 : RowC w5 14 a2 s.l.length (stF s) := hrow4.below hb5 (Nat.le_refl _)
      have hre5 : RowC w5 3 ae E.length (egF who ratio E) := hre4.below hb5 (Nat.le_refl _)
      have hB5 := hB4.below hb5 hl4
      have hGB5 := hGB.below hb5 hlG
      have HM5 : Hid (Below w.heap.size w w5) := HM4.out.trans (hb5.mono hws4)
      have hws5 := HM5.out.size
      clear he hown hb5 hz4 hrow4 hre4 hB4 hGB HM4 hl4 hlG
      go_wp2_with (refine wpList_store_row rfl _ _ _ rfl w5.heap.size (stL t).toArray rfl rfl 32 #[.int .i64 0, .int .i64 0, .int .i64 0, .int .i64 0, .int .i64 0, .int .i64 0, .int .i64 0, .int .i64 0, .int .i64 0, .int .i64 0, .int .i64 0, .int .i64 0, .int .i64 0, .int .i64 0] (Blk.new w5 _ _) (stL_info t) rfl (stL_one t) ?_)
      have hnb : Below w5.heap.size w5 ((w5.alloc (.cells #[.int .i64 0, .int .i64 0, .int .i64 0, .int .i64 0, .int .i64 0, .int .i64 0, .int .i64 0, .int .i64 0, .int .i64 0, .int .i64 0, .int .i64 0, .int .i64 0, .int .i64 0, .int .i64 0] 32)).setRow w5.heap.size (stL t).toArray) := newRow_below
      generalize ((w5.alloc (.cells #[.int .i64 0, .int .i64 0, .int .i64 0, .int .i64 0, .int .i64 0, .int .i64 0, .int .i64 0, .int .i64 0, .int .i64 0, .int .i64 0, .int .i64 0, .int .i64 0, .int .i64 0, .int .i64 0] 32)).setRow w5.heap.size (stL t).toArray) = w6 at *
      have hro6 := hro.below hnb (Nat.le_refl _)
      have hz6 := hz5.below hnb (Nat.le_refl _)
      have hrow6 := hrow5.below hnb (Nat.le_refl _)
      have hre6 := hre5.below hnb (Nat.le_refl _)
      have hB6 := hB5.below hnb hB5.lt
      have hGB6 := hGB5.below hnb hGB5.lt
      have HM6 : Hid (Below w.heap.size w w6) := HM5.out.trans (hnb.mono hws5)
      have hws6 := HM6.out.size
      clear hnb hro hz5 hrow5 hre5 hB5 hGB5 HM5
      have hl6 := hB6.lt
      have hlG6 := hGB6.lt
      go_loopw [17, 76] (fun at_ c wr => ∃ k i : Nat, c = .int .i64 k ∧ at_ = .int .i64 i ∧ k ≤ len3 ∧ Hid (s.l[i]? = some (dRun ⟨a0_0, a0_1, rate, buf, (J : Nat)⟩ f k)) ∧ Below w6.heap.size w6 wr) (fun _ c _ => len3 - (intOf c).toNat)
      case atStart => exact ⟨0, 0, rfl, rfl, Nat.zero_le _, found_zero HF.out, Below.refl _ _⟩
      case round =>
        obtain ⟨k, i, rfl, rfl, hk, hi, hbw⟩ := hrel
        have hsz := hbw.size
        by_cases hlt : k < len3
        · have t1 : (k : Int) < (len3 : Int) := by omega
          have t2 : (0 : Int) ≤ (k : Int) := by omega
          obtain ⟨u, hu⟩ : ∃ u, Hid (i * ((J + 1) * (J + 1)) + dNum J f k = u) := ⟨_, rfl⟩
          obtain ⟨i', he0, he1, he2, he3, he4⟩ := told_run (r := ⟨a0_0, a0_1, rate, buf, (J : Nat)⟩) (J := J) rfl HF.out HT.out (who := who) (ratio := ratio) HA.out hlt hi.out
          rw [hu.out] at he0 he2 he3 he4
          have hil := get_lt hi.out
          have hil' := get_lt he1
          obtain ⟨rb, ro, rfl, hrb, hrr⟩ := rangeRow (hro6.below hbw (Nat.le_refl _)) hlt
          obtain ⟨eb, eo, rfl, heb, her0⟩ := rangeRow (hre6.below hbw (Nat.le_refl _)) he0
          obtain ⟨lb, lo, rfl, hlb, hll⟩ := rangeRow (hz6.below hbw (Nat.le_refl _)) hlt
          have hrr' : wr.rangeAt rb (ro + k * 6) (rdL (dRow ⟨a0_0, a0_1, rate, buf, (J : Nat)⟩ (dRun ⟨a0_0, a0_1, rate, buf, (J : Nat)⟩ f k))) := hrr
          have her1 : wr.rangeAt eb (eo + u * 3) (edL (egF who ratio E u)) := her0
          obtain ⟨x0, hx0⟩ : ∃ x0, Hid (f k 0 = x0) := ⟨_, rfl⟩
          obtain ⟨x1, hx1⟩ : ∃ x1, Hid (f k 1 = x1) := ⟨_, rfl⟩
          have hll' : wr.rangeAt lb (lo + k * 2) [.int .i64 (f k 0), .int .i64 (f k 1)] := hll
          rw [hx0.out, hx1.out] at hll'
          have l0' : wr.cell? ⟨lb, lo + k * 2, none⟩ = some (.int .i64 x0) := hll' 0 _ rfl
          have l1' : wr.cell? ⟨lb, lo + (k * 2 + 1), none⟩ = some (.int .i64 x1) := hll' 1 _ rfl
          have hd := HA.out k hlt
          have hU : Hid (IntKind.i64.wrap (IntKind.i64.wrap (IntKind.i64.wrap ((m : Int) * (i : Int)) + IntKind.i64.wrap (x0 * (q : Int))) + x1) = (u : Int)) := by
            have hd0 : 0 ≤ x0 ∧ x0 ≤ (J : Int) := by rw [← hx0.out]; exact hd.1
            have hd1 : 0 ≤ x1 ∧ x1 ≤ (J : Int) := by rw [← hx1.out]; exact hd.2
            refine edge_num J i m q x0 x1 hJ3 (by omega) hd0 hd1 hmm.out hqq.out u ?_
            rw [← hu.out, ← hmm.out, ← hx0.out, ← hx1.out]
            rfl
          have hqb := (pass_law HR.out (HG.out.ok _ (List.mem_of_getElem? hi.out))).1
          have hB7 := hB6.below hbw hl6
          have hGB7 := hGB6.below hbw hlG6
          have hl7 := hB7.lt
          have hlG7 := hGB7.lt
          have HI := Lib.hid he1
          have HE := Lib.hid (And.intro he2 (And.intro he3 he4))
          have HQ := Lib.hid hqb
          clear hrr her0 hll hll' he1 he2 he3 he4 hd hqb
          obtain ⟨Q, hQ⟩ : ∃ Q, Hid (dRow ⟨a0_0, a0_1, rate, buf, (J : Nat)⟩ (dRun ⟨a0_0, a0_1, rate, buf, (J : Nat)⟩ f k) = Q) := ⟨_, rfl⟩
          rw [hQ.out] at hrr' HE HQ
          go_upto_region 15 with (first | (refine wpList_load_mid rfl _ _ rfl rb (ro + k * 6) rfl (rdL Q) _ hrr' Try.underlying38 rfl (rdL_info Q) ?_) | (refine wpList_store_row rfl _ _ _ rfl wr.heap.size (rdL Q).toArray rfl rfl 38 #[.int .i64 0, .int .i64 0, .int .i64 0, .int .i64 0, .int .i64 0, .int .i64 0] (Blk.new wr _ _) (rdL_info Q) rfl (rdL_one Q) ?_))
          have hXB : Blk ((wr.alloc (.cells #[.int .i64 0, .int .i64 0, .int .i64 0, .int .i64 0, .int .i64 0, .int .i64 0] 38)).setRow wr.heap.size (rdL Q).toArray) wr.heap.size 38 (rdL Q).toArray := newRow
          have hnb : Below wr.heap.size wr ((wr.alloc (.cells #[.int .i64 0, .int .i64 0, .int .i64 0, .int .i64 0, .int .i64 0, .int .i64 0] 38)).setRow wr.heap.size (rdL Q).toArray) := newRow_below
          generalize ((wr.alloc (.cells #[.int .i64 0, .int .i64 0, .int .i64 0, .int .i64 0, .int .i64 0, .int .i64 0] 38)).setRow wr.heap.size (rdL Q).toArray) = wx at *
          have hXs := hXB.lt
          have hb8 := hbw.trans (hnb.mono hsz)
          have hB8 := hB7.below hnb hl7
          have hGB8 := hGB7.below hnb hlG7
          have her : wx.rangeAt eb (eo + u * 3) (edL (egF who ratio E u)) := range_below her1 hnb heb
          have l0 : wx.cell? ⟨lb, lo + k * 2, none⟩ = some (.int .i64 x0) := (hnb.cell (p := ⟨lb, lo + k * 2, none⟩) hlb).trans l0'
          have l1 : wx.cell? ⟨lb, lo + (k * 2 + 1), none⟩ = some (.int .i64 x1) := (hnb.cell (p := ⟨lb, lo + (k * 2 + 1), none⟩) hlb).trans l1'
          have r4 : wx.cell? ⟨w.heap.size, 4, none⟩ = some (.int .i64 (J : Nat)) := hB8.cell 4
          have g1 : wx.cell? ⟨G, 1, none⟩ = some (.slice (some ⟨eb, eo, none⟩) E.length c3) := hGB8.cell 1
          have lG := hGB8.lt
          have lR := hB8.lt
          have lL : lb < wx.heap.size := Nat.lt_of_lt_of_le hlb hnb.size
          have lE : eb < wx.heap.size := Nat.lt_of_lt_of_le heb hnb.size
          have u1 : (u : Int) < (E.length : Int) := by omega
          have u2 : (0 : Int) ≤ (u : Int) := by omega
          have HN := Lib.hid hnb
          clear hnb hrr' her1 l0' l1' hB7 hGB7 hbw
          generalize hX : wr.heap.size = X at *
          obtain ⟨n1, n2, -⟩ := each_num J m q s.l.length hJ3 hl300 hmm.out hqq.out
          obtain ⟨A1, e1⟩ : ∃ A1, IntKind.i64.wrap ((m : Int) * (i : Int)) = A1 := ⟨_, rfl⟩
          obtain ⟨A2, e2⟩ : ∃ A2, IntKind.i64.wrap (x0 * (q : Int)) = A2 := ⟨_, rfl⟩
          obtain ⟨A3, e3⟩ : ∃ A3, IntKind.i64.wrap (A1 + A2) = A3 := ⟨_, rfl⟩
          have e4 : IntKind.i64.wrap (A3 + x1) = (u : Int) := by rw [← e3, ← e1, ← e2]; exact hU.out
          try simp only [Act.put]
          refine wp_region_held_drew (S := fun w' => Below wx.heap.size wx w') (by kernel_rfl) ?_ (fun hHeld => ?_)
          · exact (Below.refl _ _).drew
          refine tk0 0 rfl ?_; try simp only [lay]
          refine tk 1 (.slice (some ⟨eb, eo, none⟩) E.length c3) rfl ⟨by rfl, fun w' hSw => by have hl := (hSw.cell (p := ⟨G, 1, none⟩) lG).trans g1; clear hSw; go_simp; try (with_reducible rfl)⟩ ?_; try simp only [lay]
          refine tk0 2 rfl ?_; try simp only [lay]
          refine tk0 3 rfl ?_; try simp only [lay]
          refine tk0 4 rfl ?_; try simp only [lay]
          refine tk0 5 rfl ?_; try simp only [lay]
          refine tk0 6 rfl ?_; try simp only [lay]
          refine tk0 7 rfl ?_; try simp only [lay]
          refine tk0 8 rfl ?_; try simp only [lay]
          refine tk 9 (.int .i64 x0) rfl ⟨by rfl, fun w' hSw => by have hl := (hSw.cell (p := ⟨lb, lo + k * 2, none⟩) lL).trans l0; clear hSw; go_simp; try (with_reducible rfl)⟩ ?_; try simp only [lay]
          refine tk0 10 rfl ?_; try simp only [lay]
          refine tk 11 (.int .i64 (J : Nat)) rfl ⟨by rfl, fun w' hSw => by have hl := (hSw.cell (p := ⟨w.heap.size, 4, none⟩) lR).trans r4; clear hSw; go_simp; try (with_reducible rfl)⟩ ?_; try simp only [lay]
          refine tk0 12 rfl ?_; try simp only [lay]
          refine tk0 13 rfl ?_; try simp only [lay]
          refine tk0 14 rfl ?_; try simp only [lay]
          refine tk0 15 rfl ?_; try simp only [lay]
          refine tk0 16 rfl ?_; try simp only [lay]
          refine tk0 17 rfl ?_; try simp only [lay]
          refine tk0 18 rfl ?_; try simp only [lay]
          refine tk 19 (.int .i64 x1) rfl ⟨by rfl, fun w' hSw => by have hl := (hSw.cell (p := ⟨lb, lo + (k * 2 + 1), none⟩) lL).trans l1; clear hSw; go_simp; try (with_reducible rfl)⟩ ?_; try simp only [lay]
          refine tk0 20 rfl ?_; try simp only [lay]
          refine tk0 21 rfl ?_; try simp only [lay]
          refine wpAnyH_take (i := 22) (v := .agg (edL (egF who ratio E u)).toArray) rfl (by kernel_rfl) (by kernel_rfl) (by kernel_rfl) (fun _ _ _ h => h) (yieldsIf_load_mid (by rfl) _ _ rfl eb (eo + u * 3) rfl (edL (egF who ratio E u)) _ (fun w' hw => range_below her hw lE) Try.underlying56 rfl (edL_info _)) (by assumption) ?_
          try simp only [lay]
          refine wpAnyH_ready (rs := [23]) (by kernel_rfl) (by simp) ?_
          refine AllReadyH.cons rfl (fun K hK => ?_) AllReadyH.nil
          go_simp
          refine hK.out _ _ ?_ (fun hHeld2 => ?_)
          · exact hHeld.alloc hHeld.size _
          clear hK K
          try simp only [lay]
          refine wpAnyH_ready (rs := [24]) (by kernel_rfl) (by simp) ?_
          refine AllReadyH.cons rfl (fun K hK => ?_) AllReadyH.nil
          rw [if_pos (by rfl)]
          refine wp_store_row _ _ _ rfl wx.heap.size (edL (egF who ratio E u)).toArray rfl rfl 56 #[.int .i64 0, .int .i64 0, .int .i64 0] (Blk.new wx.drew _ _) (edL_info _) rfl (edL_one _) ?_
          refine hK.out _ _ ?_ (fun hHeld3 => ?_)
          · exact below_setRow hHeld2 (Nat.le_refl _) _
          clear hK K
          try simp only [lay, Act.put]
          refine wpAnyH_done (by kernel_rfl) ?_ _
          have hEB : Blk ((wx.alloc (.cells #[.int .i64 0, .int .i64 0, .int .i64 0] 56)).drew.setRow wx.heap.size (edL (egF who ratio E u)).toArray) wx.heap.size 56 (edL (egF who ratio E u)).toArray := newRow
          clear hHeld hHeld2
          generalize ((wx.alloc (.cells #[.int .i64 0, .int .i64 0, .int .i64 0] 56)).drew.setRow wx.heap.size (edL (egF who ratio E u)).toArray) = wy at *
          have hEl2 := hEB.lt
          have hXB2 := hXB.below hHeld3 hXs
          have hb9 := hb8.trans (hHeld3.mono hb8.size)
          clear hHeld3 HN
          generalize hY : wx.heap.size = Y at *
          clear r4 g1 l0 l1 her hB8 hGB8 hXB hb8 n1 n2 e1 e2 e3 e4
          obtain ⟨d, hd⟩ : ∃ d, Hid (eWt who ratio Q = d) := ⟨_, rfl⟩
          have k0 : wy.drew.cell? ⟨Y, 0, none⟩ = some (.int .i64 (i : Nat)) := by rw [← HE.out.1]; exact hEB.cell 0
          have k1 : wy.drew.cell? ⟨Y, 1, none⟩ = some (.int .i64 (i' : Nat)) := by rw [← HE.out.2.1]; exact hEB.cell 1
          have k2 : wy.drew.cell? ⟨Y, 2, none⟩ = some (.int .i64 d) := by rw [← hd.out, ← HE.out.2.2]; exact hEB.cell 2
          obtain ⟨c0, hc0⟩ : ∃ c0, Hid (Q 2 = c0) := ⟨_, rfl⟩
          obtain ⟨c1, hc1⟩ : ∃ c1, Hid (Q 3 = c1) := ⟨_, rfl⟩
          have m2 : wy.drew.cell? ⟨X, 2, none⟩ = some (.int .i64 c0) := by rw [← hc0.out]; exact hXB2.cell 2
          have m3 : wy.drew.cell? ⟨X, 3, none⟩ = some (.int .i64 c1) := by rw [← hc1.out]; exact hXB2.cell 3
          have v1 : decide ((i' : Int) < 0) = false := by simp
          have v2 : decide ((s.l.length : Int) ≤ (i' : Int)) = false := by simp; omega
          have HW : Hid ((who = 0 ∧ IntKind.i64.wrap (c0 - IntKind.i64.wrap (ratio * c1)) = d) ∨ (who = 1 ∧ IntKind.i64.wrap (c1 - IntKind.i64.wrap (ratio * c0)) = d)) := by
            rw [← hd.out, ← hc0.out, ← hc1.out]
            rcases hw.out with h | h
            · subst h
              exact .inl ⟨rfl, wt_num ratio _ _ hra.out (HQ.out 2) (HQ.out 3)⟩
            · subst h
              exact .inr ⟨rfl, wt_num ratio _ _ hra.out (HQ.out 3) (HQ.out 2)⟩
          clear hEB hXB2
          have HB9 := Lib.hid hb9
          clear hb9
          have w1_ : IntKind.i64.wrap 1 = 1 := by decide
          have w0_ : IntKind.i64.wrap 0 = 0 := by decide
          go_wp2_with fail
          rcases HW.out with ⟨hwh, hwt⟩ | ⟨hwh, hwt⟩
          · obtain ⟨m1, hm1⟩ : ∃ m1, IntKind.i64.wrap (ratio * c1) = m1 := ⟨_, rfl⟩
            rw [hm1] at hwt
            subst hwh
            clear HW
            refine wp_region_held_drew (S := fun w' => w' = wy.drew) (by kernel_rfl) rfl (fun hHeld => ?_)
            refine tkE 0 rfl ?_; try simp only [lay]
            refine tkE 1 rfl ?_; try simp only [lay]
            refine tkE 2 rfl ?_; try simp only [lay]
            refine tkE 3 rfl ?_; try simp only [lay]
            refine tkE 4 rfl ?_; try simp only [lay]
            refine tkE 5 rfl ?_; try simp only [lay]
            refine tkE 6 rfl ?_; try simp only [lay]
            refine tkE 7 rfl ?_; try simp only [lay]
            refine tkE 8 rfl ?_; try simp only [lay]
            refine tkE 9 rfl ?_; try simp only [lay]
            refine tkE 10 rfl ?_; try simp only [lay]
            refine tkE 11 rfl ?_; try simp only [lay]
            refine tkE 12 rfl ?_; try simp only [lay]
            refine tkE 13 rfl ?_; try simp only [lay]
            refine tkE 14 rfl ?_; try simp only [lay]
            refine tkE 15 rfl ?_; try simp only [lay]
            refine tkE 16 rfl ?_; try simp only [lay]
            refine tkE 17 rfl ?_; try simp only [lay]
            refine tkE 18 rfl ?_; try simp only [lay]
            refine tkE 19 rfl ?_; try simp only [lay]
            refine tkE 20 rfl ?_; try simp only [lay]
            refine tkE 21 rfl ?_; try simp only [lay]
            refine tkE 22 rfl ?_; try simp only [lay]
            refine tkE 23 rfl ?_; try simp only [lay]
            refine tkE 24 rfl ?_; try simp only [lay]
            refine tkE 25 rfl ?_; try simp only [lay]
            refine tkE 26 rfl ?_; try simp only [lay]
            refine tkE 27 rfl ?_; try simp only [lay]
            refine tkE 28 rfl ?_; try simp only [lay]
            refine tkE 29 rfl ?_; try simp only [lay]
            refine tkE 30 rfl ?_; try simp only [lay]
            refine tkE 31 rfl ?_; try simp only [lay]
            refine tkE 32 rfl ?_; try simp only [lay]
            refine wpAnyH_done (by kernel_rfl) ?_ _
            go_wp2
            go_roundw
            case rel => exact ⟨k + 1, i', by go_num, rfl, by omega, HI, HB9.out.drew⟩
            case measure => simp [intOf]; omega
          · obtain ⟨m1, hm1⟩ : ∃ m1, IntKind.i64.wrap (ratio * c0) = m1 := ⟨_, rfl⟩
            rw [hm1] at hwt
            subst hwh
            clear HW
            refine wp_region_held_drew (S := fun w' => w' = wy.drew) (by kernel_rfl) rfl (fun hHeld => ?_)
            refine tkE 0 rfl ?_; try simp only [lay]
            refine tkE 1 rfl ?_; try simp only [lay]
            refine tkE 2 rfl ?_; try simp only [lay]
            refine tkE 3 rfl ?_; try simp only [lay]
            refine tkE 4 rfl ?_; try simp only [lay]
            refine tkE 5 rfl ?_; try simp only [lay]
            refine tkE 6 rfl ?_; try simp only [lay]
            refine tkE 7 rfl ?_; try simp only [lay]
            refine tkE 8 rfl ?_; try simp only [lay]
            refine tkE 9 rfl ?_; try simp only [lay]
            refine tkE 10 rfl ?_; try simp only [lay]
            refine tkE 11 rfl ?_; try simp only [lay]
            refine tkE 12 rfl ?_; try simp only [lay]
            refine tkE 13 rfl ?_; try simp only [lay]
            refine tkE 14 rfl ?_; try simp only [lay]
            refine tkE 15 rfl ?_; try simp only [lay]
            refine tkE 16 rfl ?_; try simp only [lay]
            refine tkE 17 rfl ?_; try simp only [lay]
            refine tkE 18 rfl ?_; try simp only [lay]
            refine tkE 19 rfl ?_; try simp only [lay]
            refine tkE 20 rfl ?_; try simp only [lay]
            refine tkE 21 rfl ?_; try simp only [lay]
            refine tkE 22 rfl ?_; try simp only [lay]
            refine tkE 23 rfl ?_; try simp only [lay]
            refine tkE 24 rfl ?_; try simp only [lay]
            refine tkE 25 rfl ?_; try simp only [lay]
            refine tkE 26 rfl ?_; try simp only [lay]
            refine tkE 27 rfl ?_; try simp only [lay]
            refine tkE 28 rfl ?_; try simp only [lay]
            refine tkE 29 rfl ?_; try simp only [lay]
            refine tkE 30 rfl ?_; try simp only [lay]
            refine tkE 31 rfl ?_; try simp only [lay]
            refine tkE 32 rfl ?_; try simp only [lay]
            refine wpAnyH_done (by kernel_rfl) ?_ _
            go_wp2
            go_roundw
            case rel => exact ⟨k + 1, i', by go_num, rfl, by omega, HI, HB9.out.drew⟩
            case measure => simp [intOf]; omega
        · obtain rfl : k = len3 := by omega
          rw [ht.out] at hi
          have hil := get_lt hi.out
          obtain ⟨b, off, rfl, hb, hrg⟩ := rangeL (hrow6.below hbw (Nat.le_refl _)) hil hi.out
          have hrow7 : RowC wr 14 (some ⟨b, off, none⟩) s.l.length (stF s) := hrow6.below hbw (Nat.le_refl _)
          have HB : Hid (Below w.heap.size w wr) := HM6.out.trans (hbw.mono hws6)
          have hsi : Hid (∀ x ∈ s.l, x.inI) := fun x hx => DSt.inI_of HR.out (HG.out.ok x hx)
          have t1 : (i : Int) < (s.l.length : Int) := by omega
          have t2 : (0 : Int) ≤ (i : Int) := by omega
          go_wp2_with (first | (refine BigFrame.wpList_want (by rfl) (fun K hK => wp_load_mid _ _ rfl b (off + i * 14) rfl (stL t) _ hrg Try.underlying32 rfl (stL_info t) (hK _ _ ?_))) | (rw [if_pos (by rfl)]; refine wp_load_mid _ _ rfl b (off + i * 14) rfl (stL t) _ hrg Try.underlying32 rfl (stL_info t) ?_) | (go_at_call 20; refine (scontains_any s hsi t i hi hl300 _ _ _ hrow7).mono ?_; rintro e w' ⟨rfl, os9, d9, rfl⟩))
          go_wp2
          go_ret
          exact ⟨rfl, below_then HB.out HB.out.size (by repeat (first | (with_reducible assumption) | (with_reducible exact More.refl _) | (with_reducible refine More.alloc ?_ _) | (with_reducible refine More.more ?_ _ _) | (with_reducible refine More.drewN ?_ _) | (with_reducible refine More.drew ?_)))⟩
    · have HA := Lib.hid hA
      clear hA
      refine (play_any ⟨a0_0, a0_1, rate, buf, (J : Nat)⟩ a3 len3 cap3 f _ hz4 s3 HR.out HA.out).mono ?_
      rintro e w5 ⟨he, hm5⟩
      obtain ⟨t, ht⟩ : ∃ t : DSt, Hid (stL t = [.int .i64 0, .int .i64 0, .int .i64 0, .int .i64 0, .int .i64 0, .int .i64 0, .int .i64 0, .int .i64 0, .int .i64 0, .int .i64 0, .int .i64 0, .int .i64 0, .int .i64 0, .int .i64 0]) := ⟨⟨⟨0, 0, 0, 0, 0, 0⟩, ⟨0, 0, 0, 0, 0, 0⟩, 0, 0⟩, rfl⟩
      have he' : e = .returned (.tuple #[.slice none 0 0, .agg (stL t).toArray, .int .i64 2]) := by rw [ht.out]; exact he
      clear he
      subst he'
      have HM5 : Hid (Below w.heap.size w w5) := below_then HM4.out hws4 hm5
      have hws5 := HM5.out.size
      clear hm5 hz4 hrow4 hre4 hB4 hGB HM4 hl4 hlG ht
      go_wp2_with (refine wpList_store_row rfl _ _ _ rfl w5.heap.size (stL t).toArray rfl rfl 32 #[.int .i64 0, .int .i64 0, .int .i64 0, .int .i64 0, .int .i64 0, .int .i64 0, .int .i64 0, .int .i64 0, .int .i64 0, .int .i64 0, .int .i64 0, .int .i64 0, .int .i64 0, .int .i64 0] (Blk.new w5 _ _) (stL_info t) rfl (stL_one t) ?_)
      have hnb : Below w5.heap.size w5 ((w5.alloc (.cells #[.int .i64 0, .int .i64 0, .int .i64 0, .int .i64 0, .int .i64 0, .int .i64 0, .int .i64 0, .int .i64 0, .int .i64 0, .int .i64 0, .int .i64 0, .int .i64 0, .int .i64 0, .int .i64 0] 32)).setRow w5.heap.size (stL t).toArray) := newRow_below
      generalize ((w5.alloc (.cells #[.int .i64 0, .int .i64 0, .int .i64 0, .int .i64 0, .int .i64 0, .int .i64 0, .int .i64 0, .int .i64 0, .int .i64 0, .int .i64 0, .int .i64 0, .int .i64 0, .int .i64 0, .int .i64 0] 32)).setRow w5.heap.size (stL t).toArray) = w6 at *
      have HM6 : Hid (Below w.heap.size w w6) := HM5.out.trans (hnb.mono hws5)
      clear hnb HM5
      go_loopw [76] (fun c wr => c = .int .i64 0 ∧ wr = w6) (fun _ _ => 0)
      case atStart => exact ⟨rfl, rfl⟩
      case round =>
        obtain ⟨rfl, rfl⟩ := hrel
        go_wp2
        go_ret
        exact ⟨rfl, HM6.out⟩
  · subst he
    have hB2 := hB1.below hm1.below hlg
    have hl2 := hB2.lt
    have f0 : w1.cell? ⟨w.heap.size, 0, none⟩ = _ := hB2.cell 0
    have f1 : w1.cell? ⟨w.heap.size, 1, none⟩ = _ := hB2.cell 1
    have f2 : w1.cell? ⟨w.heap.size, 2, none⟩ = _ := hB2.cell 2
    have f3 : w1.cell? ⟨w.heap.size, 3, none⟩ = _ := hB2.cell 3
    have f4 : w1.cell? ⟨w.heap.size, 4, none⟩ = _ := hB2.cell 4
    have HF := Lib.hid hF
    have HM : Hid (Below w.heap.size w w1) := below_then hmb hms hm1
    have hws := HM.out.size
    clear HP hF hz hB1 hm1 hmb hm
    go_wp2_with fail
    refine (graph_any ⟨a0_0, a0_1, rate, buf, (J : Nat)⟩ J (show Hid (DRules.jit ⟨a0_0, a0_1, rate, buf, (J : Nat)⟩ = (J : Int)) from rfl) HR.out who ratio hw.out hra.out _).mono ?_
    rintro e w2 ⟨hb2, hP⟩
    have he : e = .returned (.tuple #[.agg #[.int .i64 0, .slice none 0 0], .int .i64 4]) := by
      rcases hP with ⟨s', E, a, c, h1, _⟩ | ⟨_, h⟩
      · rw [HF.out] at h1; cases h1
      · exact h
    clear hP
    subst he
    have HM2 : Hid (Below w.heap.size w w2) := HM.out.trans (hb2.mono hws)
    have hws2 := HM2.out.size
    clear f0 f1 f2 f3 f4 hB2 hb2 HM
    go_wp2
    go_ret
    exact ⟨rfl, below_then HM2.out hws2 (by repeat (first | (with_reducible assumption) | (with_reducible exact More.refl _) | (with_reducible refine More.alloc ?_ _) | (with_reducible refine More.more ?_ _ _) | (with_reducible refine More.drewN ?_ _) | (with_reducible refine More.drew ?_)))⟩
set_option maxRecDepth 20000 in
set_option maxHeartbeats 4000000 in
theorem steadyWeighs_bad (a0_0 a0_1 : Int) (rate buf J : Nat) (who ratio : Int) (a3 : Option Addr) (len3 cap3 : Nat) (w : World) (hb : who < 0 ∨ 1 < who ∨ ratio < 1 ∨ 100 < ratio) (HR : Hid (DRules.ok ⟨a0_0, a0_1, rate, buf, (J : Nat)⟩)) :
    Calls Try.prog 6 #[.agg #[.int .i64 a0_0, .int .i64 a0_1, .int .i64 rate, .int .i64 buf, .int .i64 (J : Nat)], .int .i64 who, .int .i64 ratio, .slice a3 len3 cap3] w fun e w' => e = .returned (.bool true) ∧ Below w.heap.size w w' := by
  go_enter Try.func6, Try.ntmps6
  go_wp2_with (go_at_call 16; refine (steady_alive _).mono ?_; rintro e w' ⟨rfl, os0, d0, rfl⟩)
  go_wp2_with fail
  have hm : More w ((w.alloc (.cells #[.int .i64 a0_0, .int .i64 a0_1, .int .i64 rate, .int .i64 buf, .int .i64 (J : Nat)] 24)).more os0 d0) := (by repeat (first | (with_reducible assumption) | (with_reducible exact More.refl _) | (with_reducible refine More.alloc ?_ _) | (with_reducible refine More.more ?_ _ _) | (with_reducible refine More.drewN ?_ _) | (with_reducible refine More.drew ?_)))
  have hB1 : Blk ((w.alloc (.cells #[.int .i64 a0_0, .int .i64 a0_1, .int .i64 rate, .int .i64 buf, .int .i64 (J : Nat)] 24)).more os0 d0) w.heap.size 24 #[.int .i64 a0_0, .int .i64 a0_1, .int .i64 rate, .int .i64 buf, .int .i64 (J : Nat)] := (by repeat (first | (with_reducible assumption) | ((with_reducible refine Blk.new' ?_); (simp [Nat.add_assoc]; done)) | (with_reducible refine Blk.alloc ?_ _) | (with_reducible refine Blk.more ?_ _ _) | (with_reducible refine Blk.drew ?_) | (with_reducible refine Blk.drewN ?_ _)))
  have hlg := hB1.lt
  generalize ((w.alloc (.cells #[.int .i64 a0_0, .int .i64 a0_1, .int .i64 rate, .int .i64 buf, .int .i64 (J : Nat)] 24)).more os0 d0) = wz at *
  have hmb := hm.below
  have hms := hmb.size
  refine (states_any ⟨a0_0, a0_1, rate, buf, (J : Nat)⟩ J (show Hid (DRules.jit ⟨a0_0, a0_1, rate, buf, (J : Nat)⟩ = (J : Int)) from rfl) HR.out _).mono ?_
  intro e w1 hP
  have he : ∃ (a : Option Addr) (n c : Nat) (er : Int), e = .returned (.tuple #[.slice a n c, .int .i64 er]) ∧ More wz w1 := by
    rcases hP with ⟨s, a, c, _, h, _, _, h2⟩ | ⟨_, h, h2⟩
    · exact ⟨a, s.l.length, c, 0, h, h2⟩
    · exact ⟨none, 0, 0, 4, h, h2⟩
  clear hP
  obtain ⟨a, n, c, er, rfl, hm1⟩ := he
  have hB2 := hB1.below hm1.below hlg
  have hl2 := hB2.lt
  have f0 : w1.cell? ⟨w.heap.size, 0, none⟩ = _ := hB2.cell 0
  have f1 : w1.cell? ⟨w.heap.size, 1, none⟩ = _ := hB2.cell 1
  have f2 : w1.cell? ⟨w.heap.size, 2, none⟩ = _ := hB2.cell 2
  have f3 : w1.cell? ⟨w.heap.size, 3, none⟩ = _ := hB2.cell 3
  have f4 : w1.cell? ⟨w.heap.size, 4, none⟩ = _ := hB2.cell 4
  have HM : Hid (Below w.heap.size w w1) := below_then hmb hms hm1
  have hws := HM.out.size
  clear hB1 hm1 hmb hm
  go_wp2_with fail
  refine (graph_bad a0_0 a0_1 rate buf (J : Nat) who ratio _ hb).mono ?_
  rintro e w2 ⟨rfl, os2, d2, rfl⟩
  clear hb
  by_cases h0 : (er != 0) = true
  · go_wp2
    go_ret
    exact ⟨rfl, below_then HM.out hws (by repeat (first | (with_reducible assumption) | (with_reducible exact More.refl _) | (with_reducible refine More.alloc ?_ _) | (with_reducible refine More.more ?_ _ _) | (with_reducible refine More.drewN ?_ _) | (with_reducible refine More.drew ?_)))⟩
  · have h0 : (er != 0) = false := by simpa using h0
    go_wp2
    go_ret
    exact ⟨rfl, below_then HM.out hws (by repeat (first | (with_reducible assumption) | (with_reducible exact More.refl _) | (with_reducible refine More.alloc ?_ _) | (with_reducible refine More.more ?_ _ _) | (with_reducible refine More.drewN ?_ _) | (with_reducible refine More.drew ?_)))⟩
theorem steadyWeighs_walk (a0_0 a0_1 a0_2 a0_3 a0_4 : Int) (a1 : Int) (a2 : Int) (a3 : Option Addr) (len3 cap3 : Nat) (z3 : List Int) (w : World) (b0_0 : InI64 a0_0) (b0_1 : InI64 a0_1) (b0_2 : InI64 a0_2) (b0_3 : InI64 a0_3) (b0_4 : InI64 a0_4) (b1 : InI64 a1) (b2 : InI64 a2) (f3 : IsFlat w a3 len3 cap3 2 z3) (r3 : cap3 * 16 ≤ 140737488351232) (s3 : len3 ≤ 1048576) :
    Calls Try.prog 6 #[.agg #[.int .i64 a0_0, .int .i64 a0_1, .int .i64 a0_2, .int .i64 a0_3, .int .i64 a0_4], .int .i64 a1, .int .i64 a2, .slice a3 len3 cap3] w fun e w' => e = .returned (.bool true) ∧ Below w.heap.size w w' := by
  have hf := f3.rowC (by omega)
  generalize (fun k j => z3.getD (k * 2 + j) 0) = f at hf
  clear f3 b0_0 b0_1 b0_2 b0_3 b0_4 b1 b2
  by_cases hK : dKind a0_0 ∧ dKind a0_1 ∧ dNums a0_2 a0_3 a0_4
  · have hKK := hK
    obtain ⟨k0, k1, hn⟩ := hK
    have hnn := hn
    obtain ⟨n1, n2, n3, n4, n5, n6⟩ := hnn
    obtain ⟨rate, rfl⟩ : ∃ n : Nat, a0_2 = n := ⟨a0_2.toNat, by omega⟩
    obtain ⟨buf, rfl⟩ : ∃ n : Nat, a0_3 = n := ⟨a0_3.toNat, by omega⟩
    obtain ⟨J, rfl⟩ : ∃ n : Nat, a0_4 = n := ⟨a0_4.toNat, by omega⟩
    have HR : Hid (DRules.ok ⟨a0_0, a0_1, rate, buf, (J : Nat)⟩) := ⟨k0, k1, hn⟩
    clear k0 k1 hn n1 n2 n3 n4 n5 n6
    by_cases hb : a1 < 0 ∨ 1 < a1 ∨ a2 < 1 ∨ 100 < a2
    · exact steadyWeighs_bad a0_0 a0_1 rate buf J a1 a2 a3 len3 cap3 w hb HR
    · obtain ⟨who, rfl⟩ : ∃ n : Nat, a1 = n := ⟨a1.toNat, by omega⟩
      exact steadyWeighs_ok a0_0 a0_1 rate buf J who a2 a3 len3 cap3 f w HR (Lib.hid (by omega)) (Lib.hid (by omega)) hf s3
  · obtain ⟨er, HE, hcw⟩ := wrong_er a0_0 a0_1 a0_2 a0_3 a0_4 hK
    have HCW := Lib.hid hcw
    clear hcw hK
    have g1 : (er != 0) = true := by simpa using HE.out
    have hgr : Hid (∀ W, Calls Try.prog 19 #[.agg #[.int .i64 a0_0, .int .i64 a0_1, .int .i64 a0_2, .int .i64 a0_3, .int .i64 a0_4], .int .i64 a1, .int .i64 a2] W fun e w' => ∃ er2 : Int, e = .returned (.tuple #[.agg #[.int .i64 0, .slice none 0 0], .int .i64 er2]) ∧ More W w') := by
      intro W
      by_cases hb : a1 < 0 ∨ 1 < a1 ∨ a2 < 1 ∨ 100 < a2
      · exact (graph_bad a0_0 a0_1 a0_2 a0_3 a0_4 a1 a2 W hb).mono fun e w' ⟨h1, h2⟩ => ⟨2, h1, h2⟩
      · exact (graph_w a0_0 a0_1 a0_2 a0_3 a0_4 a1 a2 er W HE HCW.out (by omega) (by omega) (by omega) (by omega)).mono fun e w' ⟨h1, h2⟩ => ⟨er, h1, h2⟩
    go_enter Try.func6, Try.ntmps6
    go_wp2_with (go_at_call 16; refine (steady_alive _).mono ?_; rintro e w' ⟨rfl, os0, d0, rfl⟩)
    go_wp2_with fail
    refine (states_w a0_0 a0_1 a0_2 a0_3 a0_4 er _ HE HCW.out).mono ?_
    rintro e w1 ⟨rfl, os1, d1, rfl⟩
    go_wp2_with fail
    refine (hgr.out _).mono ?_
    rintro e w1 ⟨er2, rfl, os2, d2, rfl⟩
    go_wp2
    go_ret
    exact ⟨rfl, More.below (by repeat (first | (with_reducible assumption) | (with_reducible exact More.refl _) | (with_reducible refine More.alloc ?_ _) | (with_reducible refine More.more ?_ _ _) | (with_reducible refine More.drewN ?_ _) | (with_reducible refine More.drew ?_)))⟩
end Go.Proofs.Ytehlgomjgmabeaa
