/- tidewaitkeep.round; Weigh of a wrong graph; Best in one form. Conditions: walks no longer than 1048576. -/
import Derived.Test.YtnbjcohkkaijaaaMeC
set_option linter.unusedVariables false
set_option linter.unusedSimpArgs false
namespace Go.Proofs.Ytnbjcohkkaijaaa
open Go.RowKit Go.Tide
set_option linter.unusedVariables false
set_option linter.unusedSimpArgs false

theorem back_len {f : Nat → Nat → Int} {B : Nat → Int} {stop : Nat} : ∀ F x, (backL f B stop F x).length ≤ F := by
  intro F
  induction F with
  | zero => intro x; simp [backL]
  | succ F ih =>
    intro x
    unfold backL
    split
    · simp
    · have := ih (f (B x).toNat 0).toNat
      simp
      omega
theorem loop_len {rec : Nat → VSt → VSt × List Nat} {f : Nat → Nat → Int} {h : Nat → Int} {N v : Nat} (hr : ∀ u s, (rec u s).2.length ≤ N + 1) : ∀ r k s, (visLoop rec f h N v r k s).2.length ≤ N + 1 := by
  intro r
  induction r with
  | zero => intro k s; simp [visLoop]
  | succ r ih =>
    intro k s
    unfold visLoop
    split
    · split
      · have := back_len (f := f) (B := s.B) (stop := (f k 1).toNat) N v
        simp
        omega
      · split
        · split
          · exact ih _ _
          · exact hr _ _
        · exact ih _ _
    · exact ih _ _
theorem vis_len {f : Nat → Nat → Int} {h : Nat → Int} {n N : Nat} : ∀ F u s, (vis f h n N F u s).2.length ≤ N + 1 := by
  intro F
  induction F with
  | zero => intro u s; simp [vis]
  | succ F ih =>
    intro u s
    unfold vis
    split
    · simp
    · exact loop_len ih _ _ _
theorem visAll_len {f : Nat → Nat → Int} {h : Nat → Int} {n N : Nat} : ∀ m, (visAll f h n N m).2.length ≤ N + 1 := by
  intro m
  induction m with
  | zero => simp [visAll]
  | succ m ih =>
    unfold visAll
    split
    · exact vis_len _ _ _
    · exact ih
theorem bestL_len {f : Nat → Nat → Int} {n N : Nat} : (bestL f n N).length ≤ N + 1 := visAll_len N
theorem best_one (N : Nat) (a : Option Addr) (n c : Nat) (f : Nat → Nat → Int) (w : World) (hf : RowC w 3 a n f) (hG : GRight N n f) :
    Calls Try.prog 9 #[.agg #[.int .i64 N, .slice a n c]] w fun e w' => ∃ (ao : Option Addr) (no co : Nat) (er : Int), e = .returned (.tuple #[.slice ao no co, .int .i64 er]) ∧ Hid (((best f n N).2 = 0 ∧ er = 3) ∨ ((best f n N).2 ≠ 0 ∧ er = 0 ∧ no = (bestL f n N).length ∧ Row w' ao no (wOf (bestL f n N)))) ∧ More w w' := by
  refine (best_ok N a n c f w hf hG).mono ?_
  rintro e w' ⟨he, hb⟩
  rcases he with ⟨h0, rfl⟩ | ⟨h0, ao, co, rfl, hr⟩
  · exact ⟨none, 0, 0, 3, rfl, .inl ⟨h0, rfl⟩, More.of_below hb⟩
  · exact ⟨ao, _, co, 0, rfl, .inr ⟨h0, rfl, rfl, hr⟩, More.of_below hb⟩
theorem round_bad (N : Int) (a : Option Addr) (n c : Nat) (f : Nat → Nat → Int) (ax : Option Addr) (m cx : Nat) (w : World) (hf : RowC w 3 a n f) (hn : n ≤ 1152921504606846976) (hG : ¬ GRight N n f) :
    Calls Try.prog 10 #[.agg #[.int .i64 N, .slice a n c], .slice ax m cx] w fun e w' => e = .returned (.bool false) ∧ More w w' := by
  have HG := Lib.hid hG
  clear hG
  go_enter Try.func10, Try.ntmps10
  go_wp2_with (go_at_call 11; refine (weigh_bad N a n c f (.slice ax m cx) _ (by repeat (first | (with_reducible assumption) | (with_reducible exact RowC.nil) | (with_reducible apply RowC.drewN) | (with_reducible apply RowC.drew) | (with_reducible apply RowC.more) | (with_reducible apply RowC.alloc))) hn HG.out).mono ?_; rintro e w1 ⟨rfl, hb1⟩; obtain ⟨os1, d1, rfl⟩ := More.of_below hb1; clear hb1)
  go_quiet (fail)
  go_wp2
  go_ret
  exact ⟨rfl, (by repeat (first | (with_reducible assumption) | (with_reducible exact More.refl _) | (with_reducible refine More.alloc ?_ _) | (with_reducible refine More.more ?_ _ _) | (with_reducible refine More.drewN ?_ _) | (with_reducible refine More.drew ?_)))⟩
noncomputable def gRd (n : Nat) (f : Nat → Nat → Int) (m : Nat) (x : Nat → Int) : Bool := @decide (GoesRound n f m x) (Classical.propDecidable _)
theorem gRd_iff {n : Nat} {f : Nat → Nat → Int} {m : Nat} {x : Nat → Int} : gRd n f m x = true ↔ GoesRound n f m x := by simp [gRd]
theorem gRd_no {n : Nat} {f : Nat → Nat → Int} {m : Nat} {x : Nat → Int} (h : ¬ GoesRound n f m x) : gRd n f m x = false := by simp [gRd, h]
theorem gRd_yes {n : Nat} {f : Nat → Nat → Int} {m : Nat} {x : Nat → Int} (h : GoesRound n f m x) : gRd n f m x = true := by simp [gRd, h]
set_option maxRecDepth 20000 in
set_option maxHeartbeats 4000000 in
theorem round_any2 (N : Nat) (a : Option Addr) (n c : Nat) (f : Nat → Nat → Int) (ax : Option Addr) (m cx : Nat) (x : Nat → Int) (w : World) (hf : RowC w 3 a n f) (hx : Row w ax m x) (hm : m ≤ 1048576) (hG : GRight N n f) :
    Calls Try.prog 10 #[.agg #[.int .i64 N, .slice a n c], .slice ax m cx] w fun e w' => e = .returned (.bool (gRd n f m x)) ∧ More w w' := by
  have HG := Lib.hid hG
  have hn := hG.2.2.1
  clear hG
  have hb := Blk.new w 24 #[.int .i64 N, .slice a n c]
  have hfz := hf.alloc (.cells #[.int .i64 N, .slice a n c] 24)
  have hxz := hx.alloc (.cells #[.int .i64 N, .slice a n c] 24)
  go_enter Try.func10, Try.ntmps10
  go_wp2_with fail
  refine (weigh_any N a n c f ax m cx x _ hfz hxz hm HG.out).mono ?_
  rintro e w1 ⟨he, hb1⟩
  have hfq := hfz.below hb1 (Nat.le_refl _)
  have hxq := hxz.below hb1 (Nat.le_refl _)
  have hbq := hb.below hb1 hb.lt
  have HM : Hid (More w w1) := (More.alloc (More.refl w) _).trans (More.of_below hb1)
  clear hf hx hb hfz hxz hb1
  generalize w.heap.size = G at *
  have lG := hbq.lt
  rcases he with ⟨hok, rfl⟩ | ⟨hno, rfl⟩
  · rcases Nat.eq_zero_or_pos m with h0 | h0
    · subst h0
      have HR : Hid (gRd n f 0 x = false) := gRd_no (fun h => absurd h.2.1 (by omega))
      clear hok
      go_wp2_with fail
      go_quiet (fail)
      go_wp2
      go_ret
      exact ⟨ret_bool HR.out.symm, HM.out.drewN _⟩
    · obtain ⟨px, ox, X0, rfl, hpx, hc0, hX0⟩ := hxq.at_ h0
      obtain ⟨px2, ox2, XL, hax, hpx2, hcL, hXL⟩ := hxq.at_ (show m - 1 < m by omega)
      obtain ⟨rfl, rfl⟩ : px2 = px ∧ ox2 = ox := by
        injection hax with hax
        injection hax with e1 e2
        exact ⟨e1.symm, e2.symm⟩
      have k0 := hok 0 h0
      have kL := hok (m - 1) (by omega)
      rw [← hX0.out] at k0
      rw [← hXL.out] at kL
      obtain ⟨I0, rfl⟩ : ∃ I0 : Nat, X0 = I0 := ⟨X0.toNat, by omega⟩
      obtain ⟨IL, rfl⟩ : ∃ IL : Nat, XL = IL := ⟨XL.toNat, by omega⟩
      have hI0 : I0 < n := by omega
      have hIL : IL < n := by omega
      obtain ⟨b, off, y0, y1, y2, rfl, hbb, hy0, -, -, hq0, -, -⟩ := hfq.at3 hI0
      obtain ⟨b', off', z0, z1, z2, he2, -, -, hz1, -, -, hq1, -⟩ := hfq.at3 hIL
      obtain ⟨rfl, rfl⟩ : b' = b ∧ off' = off := by
        injection he2 with he2
        injection he2 with e1 e2
        exact ⟨e1.symm, e2.symm⟩
      have HR : Hid (gRd n f m x = decide (y0 = z1)) := by
        show gRd n f m x = decide (y0 = z1)
        rw [Bool.eq_iff_iff, gRd_iff, decide_eq_true_eq, hq0.out, hq1.out]
        unfold GoesRound
        rw [← hX0.out, ← hXL.out, Int.toNat_natCast, Int.toNat_natCast]
        exact ⟨fun h => h.2.2, fun h => ⟨hok, h0, h⟩⟩
      have cG : w1.cell? ⟨G, 1, none⟩ = some (.slice (some ⟨b', off', none⟩) n c) := hbq.cell 1
      have hml : IntKind.i64.wrap ((m : Int) - 1) = ((m - 1 : Nat) : Int) := by rw [IntWalk.i64_in _ (by omega)]; omega
      obtain ⟨ml, hmle⟩ : ∃ ml, m - 1 = ml := ⟨_, rfl⟩
      rw [hmle] at hml hcL
      have t1 : (0 : Int) < (m : Int) := by omega
      have t2 : (ml : Int) < (m : Int) := by omega
      have t3 : (0 : Int) ≤ (ml : Int) := by omega
      have t4 : (I0 : Int) < (n : Int) := by omega
      have t5 : (IL : Int) < (n : Int) := by omega
      have t6 : (0 : Int) ≤ (I0 : Int) := by omega
      have t7 : (0 : Int) ≤ (IL : Int) := by omega
      have hc0' : w1.cell? ⟨px2, ox2, none⟩ = some (.int .i64 (I0 : Nat)) := hc0
      clear hok k0 kL hax he2 hmle hc0
      by_cases hyz : y0 = z1
      · have d1 : (y0 == z1) = true := by simpa using hyz
        have HR2 : Hid (gRd n f m x = true) := by show _ = _; rw [HR.out]; simpa using hyz
        clear hyz
        go_wp2_with fail
        go_quiet (fail)
        go_wp2
        go_ret
        exact ⟨ret_bool HR2.out.symm, HM.out.drewN _⟩
      · have d1 : (y0 == z1) = false := by simpa using hyz
        have HR2 : Hid (gRd n f m x = false) := by show _ = _; rw [HR.out]; simpa using hyz
        clear hyz
        go_wp2_with fail
        go_quiet (fail)
        go_wp2
        go_ret
        exact ⟨ret_bool HR2.out.symm, HM.out.drewN _⟩
  · have HR : Hid (gRd n f m x = false) := gRd_no (fun h => hno h.1)
    clear hno
    go_wp2_with fail
    go_quiet (fail)
    go_wp2
    go_ret
    exact ⟨ret_bool HR.out.symm, HM.out.drewN _⟩
end Go.Proofs.Ytnbjcohkkaijaaa
