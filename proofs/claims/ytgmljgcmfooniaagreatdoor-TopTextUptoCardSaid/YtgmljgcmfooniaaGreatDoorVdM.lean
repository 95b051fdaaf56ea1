/- Texts in one: Repeat, SlMax, Rev, PotLaw, PotW, PotS, PotT, PotM, PotC, PotBF, PotBG, StPl, StCmp, StCmp2, StNat, StTold, VdLaw, VdLate, VdJudge, VdAll. Conditions: those of each law. -/
import Derived.Test.YtgmljgcmfooniaaGreatDoorNum
import Derived.Test.YtgmljgcmfooniaaGreatDoorKit3
import Derived.Laws.CopyOwn
import Derived.Deep.RegionLaw
import Derived.Test.YtgmljgcmfooniaaGreatDoorProg
import Derived.Test.YtgmljgcmfooniaaGreatDoorKit2
import Derived.Test.YtgmljgcmfooniaaGreatDoorTwo
import Derived.Test.YtgmljgcmfooniaaGreatDoorKitC
import Derived.Deep.RegionHeld
import Derived.Deep.OwnRows
import Derived.Test.YtgmljgcmfooniaaGreatDoorStLead
import Derived.Laws.Tables
import Derived.Laws.Rows
import Derived.Deep.MidRow
import Derived.Laws.StructEq
import Derived.Test.YtgmljgcmfooniaaGreatDoorStGr2
import Derived.Test.YtgmljgcmfooniaaGreatDoorSq
import Derived.IntWalk
/- Repeat -/
set_option linter.unusedVariables false
set_option linter.unusedSimpArgs false
namespace Go.Proofs.YtgmljgcmfooniaaGreatDoor
open Go.RowKit Go.Tide
set_option linter.unusedVariables false
set_option linter.unusedSimpArgs false

theorem mask32_ (a : Int) (h0 : 0 ≤ a) (h1 : a < 4294967296) : bits .and .u64 a 4294967295 = a := by
  rw [u64_and a 4294967295 h0 (by omega) (by omega) (by omega)]
  rw [show (4294967295 : Int).toNat = 2 ^ 32 - 1 from rfl, Nat.and_two_pow_sub_one_eq_mod, Nat.mod_eq_of_lt (by omega)]
  omega
set_option maxHeartbeats 400000 in
theorem mul64_one (b : Int) (hb0 : 0 ≤ b) (hb : b ≤ 1073741824) (w : World) :
    Calls Tryz.prog 144 #[.int .u64 1, .int .u64 b] w fun e w' => e = .returned (.tuple #[.int .u64 0, .int .u64 b]) ∧ w = w' := by
  have h1 := mask32_ 1 (by omega) (by omega)
  have h2 := mask32_ b hb0 (by omega)
  have h4 : b / 4294967296 = 0 := Int.ediv_eq_zero_of_lt hb0 (by omega)
  have h9 := mask32_ 0 (by omega) (by omega)
  go_enter Tryz.func144, Tryz.ntmps144
  go_wp2
  go_ret2
  exact ⟨rfl, rfl⟩
theorem mul_one_any (b : Int) (hb0 : 0 ≤ b) (hb : b ≤ 1073741824) (w : World) :
    Calls Tryz.prog 125 #[.int .u64 1, .int .u64 b] w fun e w' => e = .returned (.tuple #[.int .u64 0, .int .u64 b]) ∧ w = w' := by
  go_enter Tryz.func125, Tryz.ntmps125
  go_wp2_with fail
  refine (mul64_one b hb0 hb _).mono ?_
  rintro e w' ⟨rfl, rfl⟩
  go_wp2
  go_ret2
  exact ⟨rfl, rfl⟩

/-- Behind the copies: the first m of n cells hold x. -/
def repRow (n m : Nat) (x : Int) : List Value := List.replicate m (.int .i64 x) ++ List.replicate (n - m) (.int .i64 0)
theorem repRow_length (n m : Nat) (x : Int) (h : m ≤ n) : (repRow n m x).length = n := by simp [repRow]; omega
theorem repRow_get {n m : Nat} (x : Int) {k : Nat} (hk : k < m) : (repRow n m x)[k]? = some (.int .i64 x) := by
  unfold repRow
  rw [List.getElem?_append_left (by simpa using hk), List.getElem?_replicate, if_pos hk]
theorem repRow_splice (n m q : Nat) (x : Int) (h : m + q ≤ n) : splice (repRow n m x) m (List.replicate q (.int .i64 x)) = repRow n (m + q) x := by
  unfold splice repRow
  rw [List.take_left' (by simp), List.length_replicate, ← List.append_assoc, List.replicate_append_replicate]
  congr 1
  rw [List.drop_append]
  simp
  omega

theorem own_full {w : World} {base g n : Nat} {e : TypeId} {xs : List Value} (h : w.ownsRow base e 1 (.slice (some ⟨g, 0, none⟩) n n) n xs) : w.heap[g]? = some (.cells xs.toArray e (0, 0)) := by
  rcases h.2 with ⟨hv, _⟩ | ⟨g', cap, cur, hv, _, hg, hc, _, hs, ht⟩
  · cases hv
  · injection hv with h1 h2 h3
    injection h1 with h1
    injection h1 with h4
    subst h4 h3
    rw [List.take_of_length_le (by simp; omega)] at ht
    rw [hg, ← ht]
theorem made_rep (n : Nat) (x : Int) : (madeCells (Value.int .i64 0).cells (n * 1)).toList = repRow n 0 x := by
  rw [Nat.mul_one]
  exact toList_madeCells_one _ _
theorem rep_mem {q : Nat} {x : Int} : ∀ v ∈ List.replicate q (Value.int .i64 x), v.oneCell' = true := by
  intro v hv
  rw [(List.mem_replicate.1 hv).2]
  rfl
set_option maxRecDepth 20000 in
set_option maxHeartbeats 1000000 in
theorem repeat_blk (b off c : Nat) (x : Int) (n : Nat) (w : World) (hc : w.cell? ⟨b, off, none⟩ = some (.int .i64 x)) (hb : b < w.heap.size) (hn2 : n ≤ 300) :
    Calls Tryz.prog 92 #[.slice (some ⟨b, off, none⟩) 1 c, .int .i64 n] w fun e w' => e = .returned (.slice (some ⟨w.heap.size, 0, none⟩) n n) ∧ Blk w' w.heap.size 3 (List.replicate n (.int .i64 x)).toArray ∧ Below w.heap.size w w' := by
  obtain ⟨i0_, hi, hz0, hz1, hz2⟩ := info_parts intInfo
  have hsz1 : (Tryz.prog.info? 3).map (·.size) = some 1 := by rw [hi]; simp [hz1]
  obtain ⟨wm, hmk, hmo, hmg⟩ := run_make_full (P := Tryz.prog) w w.heap.size 49 3 i0_ (.int .i64 0) 1 Tryz.underlying49 hi hz0 hz1 .i64 .i64 n (by rw [hz2]; omega) (by simp only [maxLen]; omega) (Nat.le_refl _)
  rw [made_rep n x] at hmo
  have hblk : wm.heap[w.heap.size]? = some (.cells (repRow n 0 x).toArray 3 (0, 0)) := own_full hmo
  have HB := Lib.hid hblk
  have hbm : Below w.heap.size w wm := (Below.refl _ _).grown hmg (Nat.le_refl _) (fun k hk => by cases hk)
  obtain ⟨q1, hq1⟩ : ∃ q, Hid (min 1 n = q) := ⟨_, rfl⟩
  have hq1' : q1 ≤ 1 ∧ q1 ≤ n ∧ (n = 0 ∨ q1 = 1) := by have := hq1.out; omega
  obtain ⟨q11, q12, q13⟩ := hq1'
  have HQ13 := Lib.hid q13
  clear q13
  have hcm : ∀ j v, (List.replicate q1 (Value.int .i64 x))[j]? = some v → wm.cell? ((⟨b, off, none⟩ : Addr).add j) = some v := fun j v hj => by
    have hj2 : j < q1 := by
      have := (List.getElem?_eq_some_iff.1 hj).1
      simpa using this
    rw [List.getElem?_replicate, if_pos hj2] at hj
    obtain rfl : j = 0 := by omega
    rw [Addr.add_zero']
    exact ((hbm.cell (p := ⟨b, off, none⟩) hb).trans hc).trans hj
  have HC := Lib.hid hcm
  have HMK := Lib.hid hmo
  clear hblk hcm hmo hmg
  go_enter Tryz.func92, Tryz.ntmps92
  go_wp2_with fail
  refine (mul_one_any (n : Int) (by omega) (by omega) _).mono ?_
  rintro e w' ⟨rfl, rfl⟩
  go_wp2_with (refine wpList_copy_splice rfl (.tmp 31) (.tmp 32) 49 49 rfl 3 Tryz.underlying49 hsz1 (some ⟨w.heap.size, 0, none⟩) (some ⟨b, off, none⟩) n n 1 c rfl rfl w.heap.size 0 (repRow n 0 x) 3 HB.out (List.replicate q1 (.int .i64 x)) (by rw [List.length_replicate]; exact hq1.out.symm) (fun _ => ⟨rfl, _, rfl, HC.out⟩) (by rw [repRow_length _ _ _ (by omega), List.length_replicate]; omega) rep_mem w.heap.size w hbm (Nat.le_refl _) ?_; intro w1 hg1 hb1)
  have hg2 : Hid (w1.heap[w.heap.size]? = some (.cells (repRow n q1 x).toArray 3 (0, 0))) := by
    have := hg1.out
    rw [repRow_splice n 0 q1 x (by omega), Nat.zero_add] at this
    exact this
  clear hg1
  go_loopw [8] (fun i wr => ∃ m : Nat, i = .int .i64 m ∧ Hid (n = 0 ∨ 1 ≤ m) ∧ m ≤ n ∧ Hid (wr.heap[w.heap.size]? = some (.cells (repRow n m x).toArray 3 (0, 0))) ∧ Below w.heap.size w wr) (fun i _ => n - (intOf i).toNat)
  case atStart => exact ⟨q1, by first | rfl | simp, (by rcases HQ13.out with h | h; exact .inl h; exact .inr (by omega)), q12, hg2, hb1⟩
  case round =>
    obtain ⟨m, rfl, hm01, hmn, hg, hbe⟩ := hrel
    by_cases hlt : m < n
    · have hm1 : 1 ≤ m := by have := hm01.out; omega
      obtain ⟨q, hq⟩ : ∃ q, Hid (min m (n - m) = q) := ⟨_, rfl⟩
      have hq1 : 1 ≤ q ∧ q ≤ m ∧ m + q ≤ n := by have := hq.out; omega
      obtain ⟨q1, q2, q3⟩ := hq1
      have hsrc : Hid (∀ j v, (List.replicate q (Value.int .i64 x))[j]? = some v → ∀ W : World, W.heap[w.heap.size]? = some (.cells (repRow n m x).toArray 3 (0, 0)) → W.cell? ((⟨w.heap.size, 0, none⟩ : Addr).add j) = some v) := fun j v hj W hW => by
        have hj2 : j < q := by
          have := (List.getElem?_eq_some_iff.1 hj).1
          simpa using this
        rw [List.getElem?_replicate, if_pos hj2] at hj
        rw [Addr.add_lit, Nat.zero_add, cell_of_row W w.heap.size j _ _ (0, 0) hW, List.getElem?_toArray, repRow_get x (by omega)]
        exact hj
      have k0 : (0 : Int) ≤ (m : Int) := by omega
      have k1 : (m : Int) ≤ (n : Int) := by omega
      have k2 : ¬ n = m := by omega
      have k3 : (n = m) = False := by simp; omega
      have k4 : IntKind.i64.wrap ((m : Int) + (q : Int)) = (m : Int) + (q : Int) := IntWalk.i64_in _ (by omega)
      have hdg : Hid (wr.drew.heap[w.heap.size]? = some (.cells (repRow n m x).toArray 3 (0, 0))) := hg
      have hbd : Below w.heap.size w wr.drew := hbe.drew
      have HL : Hid ((List.replicate q (Value.int .i64 x)).length = Nat.min m (n - m)) := by
        show _ = _
        rw [List.length_replicate]
        exact hq.out.symm
      have HF : Hid (m + (List.replicate q (Value.int .i64 x)).length ≤ (repRow n m x).length) := by
        show _ ≤ _
        rw [repRow_length _ _ _ hmn, List.length_replicate]
        exact q3
      go_wp2_with fail
      go_region_law ((refine step_copy_splice rfl (.tmp 41) (.tmp 44) 49 49 (by rfl) 3 Tryz.underlying49 hsz1 (some ⟨w.heap.size, m, none⟩) (some ⟨w.heap.size, 0, none⟩) (n - m) (n - m) m n (by simp [Act.eval, Act.put]) (by simp [Act.eval, Act.put]) w.heap.size m (repRow n m x) 3 hdg.out (List.replicate q (.int .i64 x)) HL.out (fun _ => ⟨rfl, _, rfl, fun j v hj => hsrc.out j v hj _ hdg.out⟩) HF.out rep_mem w.heap.size w hbd (Nat.le_refl _) ?_; intro w2 hg3 hb3))
      have hg4 : Hid (w2.heap[w.heap.size]? = some (.cells (repRow n (m + q) x).toArray 3 (0, 0))) := by
        have := hg3.out
        rwa [repRow_splice n m q x q3] at this
      simp only [List.getElem_toArray, List.getElem_cons_zero, List.getElem_cons_succ, Act.put, List.setIfInBounds_toArray, List.set_cons_zero, List.set_cons_succ, k4]
      go_wp2
      go_roundw
      case rel => exact ⟨m + q, by go_num, Or.inr (by omega), by omega, hg4, hb3⟩
      case measure => simp [intOf]; omega
    · obtain rfl : m = n := by omega
      have hfin : Blk wr w.heap.size 3 (List.replicate m (.int .i64 x)).toArray := by
        have := hg.out
        unfold repRow at this
        rw [Nat.sub_self, List.replicate_zero, List.append_nil] at this
        exact this
      go_wp2
      go_ret
      exact ⟨rfl, hfin, hbe⟩
theorem repeat_any (b off c : Nat) (x : Int) (n : Nat) (w : World) (hc : w.cell? ⟨b, off, none⟩ = some (.int .i64 x)) (hb : b < w.heap.size) (hn : 1 ≤ n) (hn2 : n ≤ 300) :
    Calls Tryz.prog 92 #[.slice (some ⟨b, off, none⟩) 1 c, .int .i64 n] w fun e w' => ∃ a' c', e = .returned (.slice a' n c') ∧ n ≤ c' ∧ Row w' a' n (fun _ => x) ∧ Below w.heap.size w w' :=
  (repeat_blk b off c x n w hc hb hn2).mono fun e w' ⟨he, hB, hb⟩ => ⟨_, _, he, Nat.le_refl _, fun _ => ⟨_, _, rfl, hB.lt, fun k hk => by
    rw [Nat.zero_add, hB.cell k, List.getElem?_toArray, List.getElem?_replicate, if_pos hk]⟩, hb⟩
end Go.Proofs.YtgmljgcmfooniaaGreatDoor
/- SlMax -/
namespace Go.Tide
/-- m is a greatest number of the n. -/
def IsMax (n : Nat) (f : Nat → Int) (m : Int) : Prop := (∃ k, k < n ∧ f k = m) ∧ ∀ k, k < n → f k ≤ m
/-- m is a least number of the n. -/
def IsMin (n : Nat) (f : Nat → Int) (m : Int) : Prop := (∃ k, k < n ∧ f k = m) ∧ ∀ k, k < n → m ≤ f k
theorem isMax_one {f : Nat → Int} {x : Int} (h : x = f 0) : ∀ k, k < 1 → f k ≤ x := by
  intro j hj
  obtain rfl : j = 0 := by omega
  rw [h]
  exact Int.le_refl _
end Go.Tide
namespace Go.Proofs.YtgmljgcmfooniaaGreatDoor
open Go.RowKit Go.Tide
set_option linter.unusedVariables false
set_option linter.unusedSimpArgs false

set_option maxHeartbeats 400000 in
theorem max_any (a : Option Addr) (n c : Nat) (f : Nat → Int) (w : World) (hf : Row w a n f) (hn : n ≤ 1152921504606846976) (h0 : 0 < n) :
    Calls Tryz.prog 23 #[.slice a n c] w fun e w' => ∃ m : Int, e = .returned (.int .i64 m) ∧ IsMax n f m ∧ w = w' := by
  obtain ⟨b0, off0, x0, rfl, hb0, hc0, hx0⟩ := hf.at_ h0
  rw [Nat.add_zero] at hc0
  have hn1 : decide ((n : Int) < 1) = false := by simp; omega
  go_enter Tryz.func23, Tryz.ntmps23
  go_wp2
  go_loop [3, 4] (fun m i => ∃ (k : Nat) (x : Int), i = .int .i64 k ∧ 1 ≤ k ∧ k ≤ n ∧ m = .int .i64 x ∧ IsMax k f x) (fun _ i => n - (intOf i).toNat)
  case atStart => exact ⟨1, x0, rfl, by omega, by omega, rfl, ⟨0, by omega, hx0.out.symm⟩, isMax_one hx0.out⟩
  case round =>
    obtain ⟨k, x, rfl, hk1, hk, rfl, hm⟩ := hrel
    have HM := Lib.hid hm
    clear hm
    by_cases hlt : k < n
    · obtain ⟨b, off, y, he, hb, hc, hy⟩ := hf.at_ hlt
      injection he with he
      injection he with he1 he2
      subst he1 he2
      go_wp2
      all_goals
        go_round
        case rel =>
          refine ⟨k + 1, _, by go_num, by omega, by omega, rfl, ?_, fun j hj => ?_⟩
          · obtain ⟨⟨i, hi, hfi⟩, _⟩ := HM.out
            by_cases hxy : x < y
            · exact ⟨k, by omega, by rw [← hy.out]; first | rfl | (simp only [hxy, if_true]) | omega⟩
            · exact ⟨i, by omega, by rw [hfi]; first | rfl | (simp only [hxy, if_false]) | omega⟩
          · rcases Nat.lt_succ_iff_lt_or_eq.1 hj with h | h
            · have := HM.out.2 j h
              first | omega | (split <;> omega)
            · subst h
              rw [← hy.out]
              first | omega | (split <;> omega)
        case measure => simp [intOf]; omega
    · obtain rfl : k = n := by omega
      go_wp2
      go_ret
      exact ⟨x, rfl, HM.out, rfl⟩
end Go.Proofs.YtgmljgcmfooniaaGreatDoor
/- Rev -/
set_option linter.unusedVariables false
set_option linter.unusedSimpArgs false
namespace Go.Proofs.YtgmljgcmfooniaaGreatDoor
open Go.RowKit Go.Tide
set_option linter.unusedVariables false
set_option linter.unusedSimpArgs false
/-- The first p and the last p are changed over. -/
def revd (m p : Nat) (x : Nat → Int) (k : Nat) : Int := if k < p ∨ m < k + p + 1 then x (m - 1 - k) else x k
set_option maxRecDepth 20000 in
set_option maxHeartbeats 2000000 in
theorem reverse_any (B g off m c : Nat) (x : Nat → Int) (w : World) (hm : 1 ≤ m ∧ m ≤ 1048576) (hc : ∀ k, k < m → w.cell? ⟨g, off + k, none⟩ = some (.int .i64 (x k))) (hf : ∀ k, w.frozen? ⟨g, k, none⟩ = false) (hB : B ≤ g) (hg : g < w.heap.size) :
    Calls Tryz.prog 65 #[.slice (some ⟨g, off, none⟩) m c] w fun e w' => e = .returned (.tuple #[]) ∧ (∀ k, k < m → w'.cell? ⟨g, off + k, none⟩ = some (.int .i64 (x (m - 1 - k)))) ∧ Below B w w' ∧ g < w'.heap.size := by
  have HC := Lib.hid hc
  have HF := Lib.hid hf
  obtain ⟨hm1, hm2⟩ := hm
  clear hc hf
  have i0 : IntKind.i64.wrap ((m : Int) - 1) = (m : Int) - 1 := IntWalk.i64_in _ (by omega)
  go_enter Tryz.func65, Tryz.ntmps65
  go_wp2_with fail
  go_loopw [2, 3] (fun i j wr => ∃ p : Nat, i = .int .i64 p ∧ j = .int .i64 ((m : Int) - 1 - p) ∧ 2 * p ≤ m ∧ Hid (∀ k, k < m → wr.cell? ⟨g, off + k, none⟩ = some (.int .i64 (revd m p x k))) ∧ Hid (∀ k, wr.frozen? ⟨g, k, none⟩ = false) ∧ Below B w wr ∧ g < wr.heap.size) (fun i _ _ => m - (intOf i).toNat)
  case atStart => exact ⟨0, rfl, by go_num, by omega, fun k hk => by rw [HC.out k hk]; simp [revd, show ¬ (m < k + 1) from by omega], HF, Below.refl _ _, hg⟩
  case round =>
    obtain ⟨p, rfl, rfl, hp, hcw, hfw, hbe, hgw⟩ := hrel
    by_cases hlt : (p : Int) < (m : Int) - 1 - p
    · have d1 : decide ((p : Int) < (m : Int) - 1 - p) = true := by simpa using hlt
      obtain ⟨q, hq⟩ : ∃ q : Nat, (m : Int) - 1 - p = q := ⟨m - 1 - p, by omega⟩
      have hq2 : Hid (m = q + p + 1) := by
        show m = q + p + 1
        omega
      rw [hq] at d1
      have hpq : p < q := by omega
      have hqm : q < m := by omega
      have hpm : p < m := by omega
      obtain ⟨X, hX⟩ : ∃ X, Hid (revd m p x p = X) := ⟨_, rfl⟩
      obtain ⟨Y, hY⟩ : ∃ Y, Hid (revd m p x q = Y) := ⟨_, rfl⟩
      have c1 := hcw.out p hpm
      have c2 := hcw.out q hqm
      rw [hX.out] at c1
      rw [hY.out] at c2
      have f1 := hfw.out (off + p)
      have f2 := hfw.out (off + q)
      have f3 : (wr.setCell ⟨g, off + p, none⟩ (.int .i64 Y)).frozen? ⟨g, off + q, none⟩ = false := by
        rw [World.frozen?_setCell]
        exact f2
      have c3 : (wr.setCell ⟨g, off + p, none⟩ (.int .i64 Y)).cell? ⟨g, off + q, none⟩ = some (.int .i64 Y) := by
        rw [World.cell?_setCell_other _ _ _ _ (by first | (simp; done) | (simp; omega))]
        exact c2
      have k0 : (0 : Int) ≤ (p : Int) := by omega
      have k1 : (p : Int) < (m : Int) := by omega
      have k2 : (0 : Int) ≤ (q : Int) := by omega
      have k3 : (q : Int) < (m : Int) := by omega
      have i1 : IntKind.i64.wrap ((p : Int) + 1) = (p : Int) + 1 := IntWalk.i64_in _ (by omega)
      have i2 : IntKind.i64.wrap ((q : Int) - 1) = (q : Int) - 1 := IntWalk.i64_in _ (by omega)
      have hfin : Hid (∀ k, k < m → ((wr.setCell ⟨g, off + p, none⟩ (.int .i64 Y)).setCell ⟨g, off + q, none⟩ (.int .i64 X)).cell? ⟨g, off + k, none⟩ = some (.int .i64 (revd m (p + 1) x k))) := fun k hk => by
        have hm' := hq2.out
        by_cases e1 : k = q
        · subst e1
          rw [World.cell?_setCell_same _ _ _ c3, ← hX.out]
          unfold revd
          rw [if_neg (by omega), if_pos (by omega), show m - 1 - k = p from by omega]
        · rw [World.cell?_setCell_other _ _ _ _ (by first | (simp; done) | (simp; omega))]
          by_cases e2 : k = p
          · subst e2
            rw [World.cell?_setCell_same _ _ _ c1, ← hY.out]
            unfold revd
            rw [if_neg (by omega), if_pos (by omega), show m - 1 - k = q from by omega]
          · rw [World.cell?_setCell_other _ _ _ _ (by first | (simp; done) | (simp; omega)), hcw.out k hk]
            unfold revd
            by_cases e3 : k < p ∨ m < k + p + 1
            · rw [if_pos e3, if_pos (by omega)]
            · rw [if_neg e3, if_neg (by omega)]
      have hfz : Hid (∀ k, ((wr.setCell ⟨g, off + p, none⟩ (.int .i64 Y)).setCell ⟨g, off + q, none⟩ (.int .i64 X)).frozen? ⟨g, k, none⟩ = false) := fun k => by
        rw [World.frozen?_setCell, World.frozen?_setCell]
        exact hfw.out k
      have hbz := (hbe.setCell (p := ⟨g, off + p, none⟩) hB (.int .i64 Y)).setCell (p := ⟨g, off + q, none⟩) hB (.int .i64 X)
      clear hcw hfw hlt
      rw [hq]
      go_wp2_with fail
      refine wp_region_two (S := (fun w' => w'.cell? ⟨g, off + p, none⟩ = some (.int .i64 X) ∧ w'.cell? ⟨g, off + q, none⟩ = some (.int .i64 Y))) 13 (by kernel_rfl) ?_ (fun hHeld => ?_)
      · exact ⟨c1, c2⟩
      refine two_take (i := 0) (v := ?_) rfl (by kernel_rfl) (by kernel_rfl) (fun _ _ _ h => h) (Or.inl ⟨by rfl, ?_⟩) (by assumption) ?_
      rotate_left 1
      · intro w' hSw
        have hl0 := hSw.1
        have hl1 := hSw.2
        go_simp
        try (with_reducible rfl)
      try simp only [List.getElem_toArray, List.getElem_cons_zero, List.getElem_cons_succ, Act.put, List.setIfInBounds_toArray, List.set_cons_zero, List.set_cons_succ]
      refine two_take (i := 1) (v := ?_) rfl (by kernel_rfl) (by kernel_rfl) (fun _ _ _ h => h) (Or.inl ⟨by rfl, ?_⟩) (by assumption) ?_
      rotate_left 1
      · intro w' hSw
        have hl0 := hSw.1
        have hl1 := hSw.2
        go_simp
        try (with_reducible rfl)
      try simp only [List.getElem_toArray, List.getElem_cons_zero, List.getElem_cons_succ, Act.put, List.setIfInBounds_toArray, List.set_cons_zero, List.set_cons_succ]
      refine two_pure (i := 2) (v := ?_) rfl (by kernel_rfl) (by kernel_rfl) (fun _ _ _ h => h) (Or.inl ⟨by rfl, ?_⟩) (by assumption) ?_
      rotate_left 1
      · intro w'
        go_simp
        try (with_reducible rfl)
      try simp only [List.getElem_toArray, List.getElem_cons_zero, List.getElem_cons_succ, Act.put, List.setIfInBounds_toArray, List.set_cons_zero, List.set_cons_succ]
      refine two_pure (i := 3) (v := ?_) rfl (by kernel_rfl) (by kernel_rfl) (fun _ _ _ h => h) (Or.inl ⟨by rfl, ?_⟩) (by assumption) ?_
      rotate_left 1
      · intro w'
        go_simp
        try (with_reducible rfl)
      try simp only [List.getElem_toArray, List.getElem_cons_zero, List.getElem_cons_succ, Act.put, List.setIfInBounds_toArray, List.set_cons_zero, List.set_cons_succ]
      refine two_take (i := 4) (v := ?_) rfl (by kernel_rfl) (by kernel_rfl) (fun _ _ _ h => h) (Or.inl ⟨by rfl, ?_⟩) (by assumption) ?_
      rotate_left 1
      · intro w' hSw
        have hl0 := hSw.1
        have hl1 := hSw.2
        go_simp
        try (with_reducible rfl)
      try simp only [List.getElem_toArray, List.getElem_cons_zero, List.getElem_cons_succ, Act.put, List.setIfInBounds_toArray, List.set_cons_zero, List.set_cons_succ]
      refine two_take (i := 5) (v := ?_) rfl (by kernel_rfl) (by kernel_rfl) (fun _ _ _ h => h) (Or.inl ⟨by rfl, ?_⟩) (by assumption) ?_
      rotate_left 1
      · intro w' hSw
        have hl0 := hSw.1
        have hl1 := hSw.2
        go_simp
        try (with_reducible rfl)
      try simp only [List.getElem_toArray, List.getElem_cons_zero, List.getElem_cons_succ, Act.put, List.setIfInBounds_toArray, List.set_cons_zero, List.set_cons_succ]
      refine two_take (i := 6) (v := ?_) rfl (by kernel_rfl) (by kernel_rfl) (fun _ _ _ h => h) (Or.inl ⟨by rfl, ?_⟩) (by assumption) ?_
      rotate_left 1
      · intro w' hSw
        have hl0 := hSw.1
        have hl1 := hSw.2
        go_simp
        try (with_reducible rfl)
      try simp only [List.getElem_toArray, List.getElem_cons_zero, List.getElem_cons_succ, Act.put, List.setIfInBounds_toArray, List.set_cons_zero, List.set_cons_succ]
      refine two_take (i := 7) (v := ?_) rfl (by kernel_rfl) (by kernel_rfl) (fun _ _ _ h => h) (Or.inl ⟨by rfl, ?_⟩) (by assumption) ?_
      rotate_left 1
      · intro w' hSw
        have hl0 := hSw.1
        have hl1 := hSw.2
        go_simp
        try (with_reducible rfl)
      try simp only [List.getElem_toArray, List.getElem_cons_zero, List.getElem_cons_succ, Act.put, List.setIfInBounds_toArray, List.set_cons_zero, List.set_cons_succ]
      refine two_take (i := 8) (v := ?_) rfl (by kernel_rfl) (by kernel_rfl) (fun _ _ _ h => h) (Or.inl ⟨by rfl, ?_⟩) (by assumption) ?_
      rotate_left 1
      · intro w' hSw
        have hl0 := hSw.1
        have hl1 := hSw.2
        go_simp
        try (with_reducible rfl)
      try simp only [List.getElem_toArray, List.getElem_cons_zero, List.getElem_cons_succ, Act.put, List.setIfInBounds_toArray, List.set_cons_zero, List.set_cons_succ]
      refine two_take (i := 9) (v := ?_) rfl (by kernel_rfl) (by kernel_rfl) (fun _ _ _ h => h) (Or.inl ⟨by rfl, ?_⟩) (by assumption) ?_
      rotate_left 1
      · intro w' hSw
        have hl0 := hSw.1
        have hl1 := hSw.2
        go_simp
        try (with_reducible rfl)
      try simp only [List.getElem_toArray, List.getElem_cons_zero, List.getElem_cons_succ, Act.put, List.setIfInBounds_toArray, List.set_cons_zero, List.set_cons_succ]
      refine two_take (i := 10) (v := ?_) rfl (by kernel_rfl) (by kernel_rfl) (fun _ _ _ h => h) (Or.inl ⟨by rfl, ?_⟩) (by assumption) ?_
      rotate_left 1
      · intro w' hSw
        have hl0 := hSw.1
        have hl1 := hSw.2
        go_simp
        try (with_reducible rfl)
      try simp only [List.getElem_toArray, List.getElem_cons_zero, List.getElem_cons_succ, Act.put, List.setIfInBounds_toArray, List.set_cons_zero, List.set_cons_succ]
      refine two_take (i := 11) (v := ?_) rfl (by kernel_rfl) (by kernel_rfl) (fun _ _ _ h => h) (Or.inl ⟨by rfl, ?_⟩) (by assumption) ?_
      rotate_left 1
      · intro w' hSw
        have hl0 := hSw.1
        have hl1 := hSw.2
        go_simp
        try (with_reducible rfl)
      try simp only [List.getElem_toArray, List.getElem_cons_zero, List.getElem_cons_succ, Act.put, List.setIfInBounds_toArray, List.set_cons_zero, List.set_cons_succ]
      refine two_take (i := 12) (v := ?_) rfl (by kernel_rfl) (by kernel_rfl) (fun _ _ _ h => h) (Or.inl ⟨by rfl, ?_⟩) (by assumption) ?_
      rotate_left 1
      · intro w' hSw
        have hl0 := hSw.1
        have hl1 := hSw.2
        go_simp
        try (with_reducible rfl)
      try simp only [List.getElem_toArray, List.getElem_cons_zero, List.getElem_cons_succ, Act.put, List.setIfInBounds_toArray, List.set_cons_zero, List.set_cons_succ]
      refine two_ready (rs := [13]) (by kernel_rfl) (by kernel_rfl) (by simp) ?_
      refine AllReadyB.last rfl (fun K hK => ?_)
      go_simp
      refine hK.out _ _ ?_
      clear hK K
      try simp only [List.getElem_toArray, List.getElem_cons_zero, List.getElem_cons_succ, Act.put, List.setIfInBounds_toArray, List.set_cons_zero, List.set_cons_succ]
      refine two_late (by kernel_rfl) ?_
      refine wpAny_take (i := 14) (v := ?_) rfl (by kernel_rfl) (by kernel_rfl) (by kernel_rfl) (fun _ _ _ h => h) (Or.inl ⟨by rfl, ?_⟩) ?_
      rotate_left 1
      · intro w'
        go_simp
        try (with_reducible rfl)
      try simp only [List.getElem_toArray, List.getElem_cons_zero, List.getElem_cons_succ, Act.put, List.setIfInBounds_toArray, List.set_cons_zero, List.set_cons_succ]
      refine wpAny_ready (rs := [15]) (by kernel_rfl) (by simp) ?_
      refine AllReady.cons' rfl (fun K hK => ?_) AllReady.nil
      go_simp
      refine hK.out _ _ ?_
      clear hK K
      try simp only [List.getElem_toArray, List.getElem_cons_zero, List.getElem_cons_succ, Act.put, List.setIfInBounds_toArray, List.set_cons_zero, List.set_cons_succ]
      refine wpAny_done (by kernel_rfl) ?_ _
      go_wp2
      go_roundw
      case rel => exact ⟨p + 1, by go_num, by rw [show (m : Int) - 1 - ((p + 1 : Nat) : Int) = (q : Int) - 1 from by have := hq2.out; omega], by have := hq2.out; omega, hfin, hfz, hbz.drewN 1, by simpa [World.setCell] using hgw⟩
      case measure => simp [intOf]; omega
    · have d1 : decide ((p : Int) < (m : Int) - 1 - p) = false := by simpa using hlt
      have HE : Hid (∀ k, k < m → wr.cell? ⟨g, off + k, none⟩ = some (.int .i64 (x (m - 1 - k)))) := fun k hk => by
        rw [hcw.out k hk]
        unfold revd
        by_cases e3 : k < p ∨ m < k + p + 1
        · rw [if_pos e3]
        · rw [if_neg e3, show m - 1 - k = k from by omega]
      go_wp2
      go_end0
      exact ⟨rfl, HE.out, hbe, hgw⟩
end Go.Proofs.YtgmljgcmfooniaaGreatDoor
/- PotLaw -/
set_option linter.unusedVariables false
set_option linter.unusedSimpArgs false
namespace Go.Tide
/-- One number of a row turned. -/
def putAt (f : Nat → Int) (j : Nat) (v : Int) (k : Nat) : Int := if k = j then v else f k
theorem putAt_same (f : Nat → Int) (j : Nat) (v : Int) : putAt f j v j = v := by simp [putAt]
theorem putAt_ne (f : Nat → Int) {j k : Nat} (v : Int) (h : k ≠ j) : putAt f j v k = f k := by simp [putAt, h]
theorem cells_put (n j : Nat) (f : Nat → Int) (v : Int) : (cellsOf n f).set j (.int .i64 v) = cellsOf n (putAt f j v) := by
  apply List.ext_getElem?
  intro k
  rw [List.getElem?_set]
  by_cases hk : k < n
  · rw [cellsOf_get _ hk]
    by_cases hkj : j = k
    · subst hkj
      rw [if_pos rfl, if_pos (by rw [cellsOf_length]; exact hk), cellsOf_get _ hk, putAt_same]
    · rw [if_neg hkj, cellsOf_get _ hk, putAt_ne _ _ (Ne.symm hkj)]
  · rw [List.getElem?_eq_none (l := cellsOf n (putAt f j v)) (by rw [cellsOf_length]; omega)]
    by_cases hkj : j = k
    · rw [if_pos hkj, if_neg (by rw [cellsOf_length]; omega)]
    · rw [if_neg hkj, List.getElem?_eq_none (by rw [cellsOf_length]; omega)]
theorem cells_puts (n j : Nat) (f : Nat → Int) (v : Int) : (cellsOf n f).toArray.setIfInBounds j (.int .i64 v) = (cellsOf n (putAt f j v)).toArray := by
  rw [List.setIfInBounds_toArray, cells_put]

/-- What potential.Wrong asks. -/
def GRight (N : Int) (n : Nat) (f : Nat → Nat → Int) : Prop := 0 ≤ N ∧ N ≤ 300 ∧ n ≤ 4800 ∧ ∀ k, k < n → 0 ≤ f k 0 ∧ f k 0 < N ∧ 0 ≤ f k 1 ∧ f k 1 < N ∧ -1048576 ≤ f k 2 ∧ f k 2 ≤ 1048576
noncomputable def gRight (N : Int) (n : Nat) (f : Nat → Nat → Int) : Bool := @decide (GRight N n f) (Classical.propDecidable _)
theorem gRight_iff {N : Int} {n : Nat} {f : Nat → Nat → Int} : gRight N n f = true ↔ GRight N n f := by simp [gRight]
noncomputable def gWrong (N : Int) (n : Nat) (f : Nat → Nat → Int) : Int := @ite _ (GRight N n f) (Classical.propDecidable _) 0 2
theorem gWrong_ok {N : Int} {n : Nat} {f : Nat → Nat → Int} (h : GRight N n f) : gWrong N n f = 0 := by simp [gWrong, h]
theorem gWrong_bad {N : Int} {n : Nat} {f : Nat → Nat → Int} (h : ¬ GRight N n f) : gWrong N n f = 2 := by simp [gWrong, h]

/-- The solver: the most for each node, by which edge, and the last node that was more. -/
structure PSt where
  M : Nat → Int
  B : Nat → Int
  L : Int
def relax (f : Nat → Nat → Int) (k : Nat) (s : PSt) : PSt :=
  if s.M (f k 1).toNat < s.M (f k 0).toNat + f k 2 then ⟨putAt s.M (f k 1).toNat (s.M (f k 0).toNat + f k 2), putAt s.B (f k 1).toNat k, f k 1⟩ else s
/-- The first k edges, once. -/
def pass (f : Nat → Nat → Int) : Nat → PSt → PSt
  | 0, s => s
  | k + 1, s => relax f k (pass f k s)
def rnd (f : Nat → Nat → Int) (n : Nat) (s : PSt) : PSt := pass f n ⟨s.M, s.B, -1⟩
/-- Rounds till nothing is more, but t at most. -/
def solveAt (f : Nat → Nat → Int) (n : Nat) : Nat → PSt → PSt
  | 0, s => s
  | t + 1, s => if (rnd f n s).L < 0 then rnd f n s else solveAt f n t (rnd f n s)
def start : PSt := ⟨fun _ => 0, fun _ => -1, -1⟩
def solved (f : Nat → Nat → Int) (n : Nat) (N : Nat) : PSt := solveAt f n (N + 1) start

/-- Bounds of the most. -/
def MB (N : Nat) (c : Int) (M : Nat → Int) : Prop := ∀ v, v < N → 0 ≤ M v ∧ M v ≤ c
theorem relax_mb {N : Nat} {n : Nat} {f : Nat → Nat → Int} {c : Int} {s : PSt} (h : GRight N n f) (hM : MB N c s.M) {k : Nat} (hk : k < n) (hc : 0 ≤ c) : MB N (c + 1048576) (relax f k s).M := by
  have hf := h.2.2.2 k hk
  have h0 := hM (f k 0).toNat (by omega)
  intro v hv
  have h1 := hM v hv
  unfold relax
  split
  · rename_i hc
    by_cases e : v = (f k 1).toNat
    · subst e
      show 0 ≤ putAt s.M _ _ _ ∧ putAt s.M _ _ _ ≤ _
      rw [putAt_same]
      omega
    · show 0 ≤ putAt s.M _ _ _ ∧ putAt s.M _ _ _ ≤ _
      rw [putAt_ne _ _ e]
      omega
  · omega
theorem pass_mb {N : Nat} {n : Nat} {f : Nat → Nat → Int} {c : Int} {s : PSt} (h : GRight N n f) (hM : MB N c s.M) (hc : 0 ≤ c) : ∀ k, k ≤ n → MB N (c + 1048576 * k) (pass f k s).M := by
  intro k
  induction k with
  | zero => intro _; simpa [pass] using hM
  | succ k ih =>
    intro hk
    have h1 := ih (by omega)
    have h2 := relax_mb h h1 (show k < n by omega) (by omega)
    have e : c + 1048576 * ((k + 1 : Nat) : Int) = c + 1048576 * k + 1048576 := by omega
    rw [e]
    exact h2
theorem rnd_mb {N : Nat} {n : Nat} {f : Nat → Nat → Int} {c : Int} {s : PSt} (h : GRight N n f) (hM : MB N c s.M) (hc : 0 ≤ c) : MB N (c + 5033164800) (rnd f n s).M := by
  have h1 := pass_mb (s := ⟨s.M, s.B, -1⟩) h hM hc n (Nat.le_refl _)
  have h2 := h.2.2.1
  intro v hv
  have := h1 v hv
  unfold rnd
  omega
theorem relax_L {f : Nat → Nat → Int} {k : Nat} {s : PSt} : (relax f k s).L = f k 1 ∨ (relax f k s).L = s.L := by
  unfold relax
  split
  · exact .inl rfl
  · exact .inr rfl
theorem pass_L {N : Nat} {n : Nat} {f : Nat → Nat → Int} {s : PSt} (h : GRight N n f) (hs : -1 ≤ s.L ∧ s.L < N) : ∀ k, k ≤ n → -1 ≤ (pass f k s).L ∧ (pass f k s).L < N := by
  intro k
  induction k with
  | zero => intro _; exact hs
  | succ k ih =>
    intro hk
    have h1 := ih (by omega)
    have hf := h.2.2.2 k (by omega)
    show -1 ≤ (relax f k (pass f k s)).L ∧ (relax f k (pass f k s)).L < N
    rcases relax_L (f := f) (k := k) (s := pass f k s) with e | e <;> rw [e] <;> omega
end Go.Tide
/- PotW -/
set_option linter.unusedVariables false
set_option linter.unusedSimpArgs false
namespace Go.Proofs.YtgmljgcmfooniaaGreatDoor
open Go.RowKit Go.Tide
set_option linter.unusedVariables false
set_option linter.unusedSimpArgs false

theorem more_nil (w : World) : w = w.more #[] w.drawn := by simp [World.more]
set_option maxRecDepth 20000 in
set_option maxHeartbeats 2000000 in
theorem pwrong_any (N : Int) (a : Option Addr) (n c : Nat) (f : Nat → Nat → Int) (w : World) (hf : RowC w 3 a n f) (hn : n ≤ 1152921504606846976) :
    Calls Tryz.prog 63 #[.agg #[.int .i64 N, .slice a n c]] w fun e w' => e = .returned (.int .i64 (gWrong N n f)) ∧ More w w' := by
  by_cases c0 : N < 0
  · have d0 : decide (N < 0) = true := by simpa using c0
    go_enter Tryz.func63, Tryz.ntmps63
    go_wp2
    go_ret
    exact ⟨ret_int (gWrong_bad fun h => by have := h.1; have := h.2.1; have := h.2.2.1; omega).symm, (by repeat (first | (with_reducible assumption) | (with_reducible exact More.refl _) | (with_reducible refine More.alloc ?_ _) | (with_reducible refine More.more ?_ _ _) | (with_reducible refine More.drewN ?_ _) | (with_reducible refine More.drew ?_)))⟩
  · have d0 : decide (N < 0) = false := by simpa using c0
    by_cases c1 : 300 < N
    · have d1 : decide (300 < N) = true := by simpa using c1
      go_enter Tryz.func63, Tryz.ntmps63
      go_wp2
      go_ret
      exact ⟨ret_int (gWrong_bad fun h => by have := h.1; have := h.2.1; have := h.2.2.1; omega).symm, (by repeat (first | (with_reducible assumption) | (with_reducible exact More.refl _) | (with_reducible refine More.alloc ?_ _) | (with_reducible refine More.more ?_ _ _) | (with_reducible refine More.drewN ?_ _) | (with_reducible refine More.drew ?_)))⟩
    · have d1 : decide (300 < N) = false := by simpa using c1
      by_cases c2 : 4800 < n
      · have d2 : decide ((4800 : Int) < (n : Int)) = true := by simp; omega
        have d2' : decide (4800 < n) = true := by simp; omega
        go_enter Tryz.func63, Tryz.ntmps63
        go_wp2
        go_ret
        exact ⟨ret_int (gWrong_bad fun h => by have := h.1; have := h.2.1; have := h.2.2.1; omega).symm, (by repeat (first | (with_reducible assumption) | (with_reducible exact More.refl _) | (with_reducible refine More.alloc ?_ _) | (with_reducible refine More.more ?_ _ _) | (with_reducible refine More.drewN ?_ _) | (with_reducible refine More.drew ?_)))⟩
      · have d2 : decide ((4800 : Int) < (n : Int)) = false := by simp; omega
        have d2' : decide (4800 < n) = false := by simp; omega
        have hbk := Blk.new w 80 #[.int .i64 N, .slice a n c]
        go_enter Tryz.func63, Tryz.ntmps63
        go_wp2
        go_loopw [22] (fun i wr => ∃ k : Nat, i = .int .i64 k ∧ k ≤ n ∧ More (w.alloc (.cells #[.int .i64 N, .slice a n c] 80)) wr ∧ Hid (∀ j, j < k → 0 ≤ f j 0 ∧ f j 0 < N ∧ 0 ≤ f j 1 ∧ f j 1 < N ∧ -1048576 ≤ f j 2 ∧ f j 2 ≤ 1048576)) (fun i _ => n - (intOf i).toNat)
        case atStart => exact ⟨0, rfl, Nat.zero_le _, More.refl _, fun j hj => absurd hj (by omega)⟩
        case round =>
          obtain ⟨k, rfl, hk, ⟨os, d, rfl⟩, hall⟩ := hrel
          by_cases hlt : k < n
          · have hfm : RowC ((w.alloc (.cells #[.int .i64 N, .slice a n c] 80)).more os d) 3 a n f := (by repeat (first | (with_reducible assumption) | (with_reducible exact RowC.nil) | (with_reducible apply RowC.drewN) | (with_reducible apply RowC.drew) | (with_reducible apply RowC.more) | (with_reducible apply RowC.alloc)))
            obtain ⟨b, off, x, y, z, rfl, hb, hcx, hcy, hcz, hx, hy, hz⟩ := hfm.at3 hlt
            have hg0 := (hbk.more os d).cell 0
            have hgl := (hbk.more os d).lt
            simp at hg0
            have q1 : (k : Int) < (n : Int) := by omega
            by_cases e0 : x < 0
            · have g0 : decide (x < 0) = true := by simpa using e0
              have HB : Hid (¬ GRight N n f) := fun h => by
                have h1 := h.2.2.2 k hlt
                rw [← hx.out, ← hy.out, ← hz.out] at h1
                omega
              go_wp2_with fail
              go_ret
              exact ⟨ret_int (gWrong_bad HB.out).symm, (by repeat (first | (with_reducible assumption) | (with_reducible exact More.refl _) | (with_reducible refine More.alloc ?_ _) | (with_reducible refine More.more ?_ _ _) | (with_reducible refine More.drewN ?_ _) | (with_reducible refine More.drew ?_)))⟩
            · have g0 : decide (x < 0) = false := by simpa using e0
              by_cases e1 : N ≤ x
              · have g1 : decide (N ≤ x) = true := by simpa using e1
                have HB : Hid (¬ GRight N n f) := fun h => by
                  have h1 := h.2.2.2 k hlt
                  rw [← hx.out, ← hy.out, ← hz.out] at h1
                  omega
                go_wp2_with fail
                go_ret
                exact ⟨ret_int (gWrong_bad HB.out).symm, (by repeat (first | (with_reducible assumption) | (with_reducible exact More.refl _) | (with_reducible refine More.alloc ?_ _) | (with_reducible refine More.more ?_ _ _) | (with_reducible refine More.drewN ?_ _) | (with_reducible refine More.drew ?_)))⟩
              · have g1 : decide (N ≤ x) = false := by simpa using e1
                by_cases e2 : y < 0
                · have g2 : decide (y < 0) = true := by simpa using e2
                  have HB : Hid (¬ GRight N n f) := fun h => by
                    have h1 := h.2.2.2 k hlt
                    rw [← hx.out, ← hy.out, ← hz.out] at h1
                    omega
                  go_wp2_with fail
                  go_ret
                  exact ⟨ret_int (gWrong_bad HB.out).symm, (by repeat (first | (with_reducible assumption) | (with_reducible exact More.refl _) | (with_reducible refine More.alloc ?_ _) | (with_reducible refine More.more ?_ _ _) | (with_reducible refine More.drewN ?_ _) | (with_reducible refine More.drew ?_)))⟩
                · have g2 : decide (y < 0) = false := by simpa using e2
                  by_cases e3 : N ≤ y
                  · have g3 : decide (N ≤ y) = true := by simpa using e3
                    have HB : Hid (¬ GRight N n f) := fun h => by
                      have h1 := h.2.2.2 k hlt
                      rw [← hx.out, ← hy.out, ← hz.out] at h1
                      omega
                    go_wp2_with fail
                    go_ret
                    exact ⟨ret_int (gWrong_bad HB.out).symm, (by repeat (first | (with_reducible assumption) | (with_reducible exact More.refl _) | (with_reducible refine More.alloc ?_ _) | (with_reducible refine More.more ?_ _ _) | (with_reducible refine More.drewN ?_ _) | (with_reducible refine More.drew ?_)))⟩
                  · have g3 : decide (N ≤ y) = false := by simpa using e3
                    by_cases e4 : z < -1048576
                    · have g4 : decide (z < -1048576) = true := by simpa using e4
                      have HB : Hid (¬ GRight N n f) := fun h => by
                        have h1 := h.2.2.2 k hlt
                        rw [← hx.out, ← hy.out, ← hz.out] at h1
                        omega
                      go_wp2_with fail
                      go_ret
                      exact ⟨ret_int (gWrong_bad HB.out).symm, (by repeat (first | (with_reducible assumption) | (with_reducible exact More.refl _) | (with_reducible refine More.alloc ?_ _) | (with_reducible refine More.more ?_ _ _) | (with_reducible refine More.drewN ?_ _) | (with_reducible refine More.drew ?_)))⟩
                    · have g4 : decide (z < -1048576) = false := by simpa using e4
                      by_cases e5 : 1048576 < z
                      · have g5 : decide (1048576 < z) = true := by simpa using e5
                        have HB : Hid (¬ GRight N n f) := fun h => by
                          have h1 := h.2.2.2 k hlt
                          rw [← hx.out, ← hy.out, ← hz.out] at h1
                          omega
                        go_wp2_with fail
                        go_ret
                        exact ⟨ret_int (gWrong_bad HB.out).symm, (by repeat (first | (with_reducible assumption) | (with_reducible exact More.refl _) | (with_reducible refine More.alloc ?_ _) | (with_reducible refine More.more ?_ _ _) | (with_reducible refine More.drewN ?_ _) | (with_reducible refine More.drew ?_)))⟩
                      · have g5 : decide (1048576 < z) = false := by simpa using e5
                        have hnew : Hid (∀ j, j < k + 1 → 0 ≤ f j 0 ∧ f j 0 < N ∧ 0 ≤ f j 1 ∧ f j 1 < N ∧ -1048576 ≤ f j 2 ∧ f j 2 ≤ 1048576) := fun j hj => by
                          rcases Nat.lt_succ_iff_lt_or_eq.1 hj with h | rfl
                          · exact hall.out j h
                          · rw [← hx.out, ← hy.out, ← hz.out]
                            omega
                        go_wp2_with fail
                        go_roundw
                        case rel => exact ⟨k + 1, by go_num, by omega, (by repeat (first | (with_reducible assumption) | (with_reducible exact More.refl _) | (with_reducible refine More.alloc ?_ _) | (with_reducible refine More.more ?_ _ _) | (with_reducible refine More.drewN ?_ _) | (with_reducible refine More.drew ?_))), hnew⟩
                        case measure => simp [intOf]; omega
          · obtain rfl : k = n := by omega
            have HG : Hid (gWrong N k f = 0) := gWrong_ok ⟨by omega, by omega, by omega, hall.out⟩
            go_wp2
            go_ret
            exact ⟨ret_int HG.out.symm, (by repeat (first | (with_reducible assumption) | (with_reducible exact More.refl _) | (with_reducible refine More.alloc ?_ _) | (with_reducible refine More.more ?_ _ _) | (with_reducible refine More.drewN ?_ _) | (with_reducible refine More.drew ?_)))⟩
end Go.Proofs.YtgmljgcmfooniaaGreatDoor
/- PotS -/
set_option linter.unusedVariables false
set_option linter.unusedSimpArgs false
namespace Go.Proofs.YtgmljgcmfooniaaGreatDoor
open Go.RowKit Go.Tide
set_option linter.unusedVariables false
set_option linter.unusedSimpArgs false
/-- A solver lies at S, its rows at gm and gb; all three behind what w0 had, where the edges lie. -/
structure Solv (w0 w : World) (S gm gb N : Nat) (a : Option Addr) (n c : Nat) (f : Nat → Nat → Int) (M B : Nat → Int) : Prop where
  solver : Blk w S 127 #[.int .i64 N, .slice a n c, .slice (some ⟨gm, 0, none⟩) N N, .slice (some ⟨gb, 0, none⟩) N N]
  most : Blk w gm 3 (cellsOf N M).toArray
  by_ : Blk w gb 3 (cellsOf N B).toArray
  ns : w0.heap.size ≤ S ∧ w0.heap.size ≤ gm ∧ w0.heap.size ≤ gb
  ne : S ≠ gm ∧ S ≠ gb ∧ gm ≠ gb
  edges : RowC w0 3 a n f
  below : Below w0.heap.size w0 w
theorem Solv.alloc {w0 w : World} {S gm gb N : Nat} {a : Option Addr} {n c : Nat} {f : Nat → Nat → Int} {M B : Nat → Int} (h : Solv w0 w S gm gb N a n c f M B) (o : Obj) : Solv w0 (w.alloc o) S gm gb N a n c f M B :=
  ⟨h.solver.alloc o, h.most.alloc o, h.by_.alloc o, h.ns, h.ne, h.edges, h.below.alloc h.below.size o⟩
theorem Solv.drewN {w0 w : World} {S gm gb N : Nat} {a : Option Addr} {n c : Nat} {f : Nat → Nat → Int} {M B : Nat → Int} (h : Solv w0 w S gm gb N a n c f M B) (k : Nat) : Solv w0 (w.drewN k) S gm gb N a n c f M B :=
  ⟨h.solver, h.most, h.by_, h.ns, h.ne, h.edges, h.below.drewN k⟩
theorem Solv.setMost {w0 w : World} {S gm gb N : Nat} {a : Option Addr} {n c : Nat} {f : Nat → Nat → Int} {M B : Nat → Int} (h : Solv w0 w S gm gb N a n c f M B) (j : Nat) (x : Int) : Solv w0 (w.setCell ⟨gm, j, none⟩ (.int .i64 x)) S gm gb N a n c f (putAt M j x) B :=
  ⟨h.solver.far h.ne.1 _, by have := h.most.put j (.int .i64 x); rwa [cells_puts] at this, h.by_.far (Ne.symm h.ne.2.2) _, h.ns, h.ne, h.edges, h.below.setCell (p := ⟨gm, j, none⟩) h.ns.2.1 _⟩
theorem Solv.setBy {w0 w : World} {S gm gb N : Nat} {a : Option Addr} {n c : Nat} {f : Nat → Nat → Int} {M B : Nat → Int} (h : Solv w0 w S gm gb N a n c f M B) (j : Nat) (x : Int) : Solv w0 (w.setCell ⟨gb, j, none⟩ (.int .i64 x)) S gm gb N a n c f M (putAt B j x) :=
  ⟨h.solver.far h.ne.2.1 _, h.most.far h.ne.2.2 _, by have := h.by_.put j (.int .i64 x); rwa [cells_puts] at this, h.ns, h.ne, h.edges, h.below.setCell (p := ⟨gb, j, none⟩) h.ns.2.2 _⟩
theorem Solv.row {w0 w : World} {S gm gb N : Nat} {a : Option Addr} {n c : Nat} {f : Nat → Nat → Int} {M B : Nat → Int} (h : Solv w0 w S gm gb N a n c f M B) : RowC w 3 a n f := h.edges.below h.below (Nat.le_refl _)
theorem Solv.mostAt {w0 w : World} {S gm gb N : Nat} {a : Option Addr} {n c : Nat} {f : Nat → Nat → Int} {M B : Nat → Int} (h : Solv w0 w S gm gb N a n c f M B) {j : Nat} (hj : j < N) : w.cell? ⟨gm, j, none⟩ = some (.int .i64 (M j)) := by
  rw [h.most.cell j, List.getElem?_toArray, cellsOf_get M hj]
theorem Solv.byAt {w0 w : World} {S gm gb N : Nat} {a : Option Addr} {n c : Nat} {f : Nat → Nat → Int} {M B : Nat → Int} (h : Solv w0 w S gm gb N a n c f M B) {j : Nat} (hj : j < N) : w.cell? ⟨gb, j, none⟩ = some (.int .i64 (B j)) := by
  rw [h.by_.cell j, List.getElem?_toArray, cellsOf_get B hj]

set_option maxRecDepth 20000 in
set_option maxHeartbeats 4000000 in
theorem round_any (w0 w : World) (S gm gb N : Nat) (a : Option Addr) (n c : Nat) (f : Nat → Nat → Int) (M B : Nat → Int) (m : Int) (hs : Solv w0 w S gm gb N a n c f M B) (hG : GRight N n f) (hm : 0 ≤ m ∧ m ≤ 2000000000000) (hM : MB N m M) :
    Calls Tryz.prog 93 #[.pointer (some ⟨S, 0, none⟩)] w fun e w' => e = .returned (.int .i64 (pass f n ⟨M, B, -1⟩).L) ∧ Solv w0 w' S gm gb N a n c f (pass f n ⟨M, B, -1⟩).M (pass f n ⟨M, B, -1⟩).B := by
  have HG := Lib.hid hG
  have HMB := Lib.hid hM
  have hN := hG.2.1
  have hn := hG.2.2.1
  have hb0 := hs.solver
  have hc0 := hb0.cell 0
  have hc1 := hb0.cell 1
  have hc2 := hb0.cell 2
  have hc3 := hb0.cell 3
  simp at hc0 hc1 hc2 hc3
  have hlS := hb0.lt
  clear hG hM hb0
  go_enter Tryz.func93, Tryz.ntmps93
  go_wp2_with fail
  clear hc0 hc1 hc2 hc3
  go_loopw [3, 13] (fun l i wr => ∃ k : Nat, l = .int .i64 (pass f k ⟨M, B, -1⟩).L ∧ i = .int .i64 k ∧ k ≤ n ∧ Hid (Solv w0 wr S gm gb N a n c f (pass f k ⟨M, B, -1⟩).M (pass f k ⟨M, B, -1⟩).B)) (fun _ i _ => n - (intOf i).toNat)
  case atStart => exact ⟨0, rfl, rfl, Nat.zero_le _, hs⟩
  case round =>
    obtain ⟨k, rfl, rfl, hk, hSl⟩ := hrel
    by_cases hlt : k < n
    · have hfm := hSl.out.row
      obtain ⟨b, off, x, y, z, rfl, hb, hcx, hcy, hcz, hx, hy, hz⟩ := hfm.at3 hlt
      have hff := HG.out.2.2.2 k hlt
      rw [← hx.out, ← hy.out, ← hz.out] at hff
      obtain ⟨f1, f2, f3, f4, f5, f6⟩ := hff
      obtain ⟨X, rfl⟩ : ∃ X : Nat, x = X := ⟨x.toNat, by omega⟩
      obtain ⟨Y, rfl⟩ : ∃ Y : Nat, y = Y := ⟨y.toNat, by omega⟩
      have hX : X < N := by omega
      have hY : Y < N := by omega
      have hpb := pass_mb (s := ⟨M, B, -1⟩) HG.out HMB.out hm.1 k (by omega)
      have HR : Hid (pass f (k + 1) ⟨M, B, -1⟩ = relax f k (pass f k ⟨M, B, -1⟩)) := rfl
      unfold relax at HR
      rw [← hx.out, ← hy.out, ← hz.out, Int.toNat_natCast, Int.toNat_natCast] at HR
      obtain ⟨s2, hs2⟩ : ∃ s2, Hid (pass f (k + 1) ⟨M, B, -1⟩ = s2) := ⟨_, rfl⟩
      rw [hs2.out] at HR
      generalize pass f k ⟨M, B, -1⟩ = s1 at *
      obtain ⟨M1, B1, L1⟩ := s1
      have hp1 := hpb X hX
      have hp2 := hpb Y hY
      simp only at hp1 hp2 hSl HR
      have hw1 := hSl.out.mostAt hX
      have hw2 := hSl.out.mostAt hY
      have hw3 := hSl.out.byAt hY
      obtain ⟨u, hu⟩ : ∃ u, u = M1 X := ⟨_, rfl⟩
      obtain ⟨v, hv⟩ : ∃ v, v = M1 Y := ⟨_, rfl⟩
      have HU := Lib.hid hu
      have HV := Lib.hid hv
      rw [← hu] at hw1 hp1 HR
      rw [← hv] at hw2 hp2 HR
      clear hu hv hpb
      have hb0 := hSl.out.solver
      have hc0 := hb0.cell 0
      have hc1 := hb0.cell 1
      have hc2 := hb0.cell 2
      have hc3 := hb0.cell 3
      simp at hc0 hc1 hc2 hc3
      have hlS := hb0.lt
      have hlm := hSl.out.most.lt
      have hlb := hSl.out.by_.lt
      have hfm0 := fun i => hSl.out.most.frozen i
      have hfb0 := fun i => hSl.out.by_.frozen i
      clear hb0
      have i1 : IntKind.i64.wrap (u + z) = u + z := IntWalk.i64_in _ (by omega)
      have t1 : (k : Int) < (n : Int) := by omega
      by_cases hgt : v < u + z
      · have g1 : decide (v < u + z) = true := by simpa using hgt
        rw [if_pos hgt] at HR
        go_wp2_with fail
        go_quiet (fail)
        go_wp2_with fail
        go_quiet (fail)
        go_wp2_with fail
        rename_i nq1
        obtain rfl := HR.out
        have hS4 := ((hSl.out.alloc (.cells #[.int .i64 X, .int .i64 Y, .int .i64 z] 88)).drewN nq1).drewN nq
        have he1 : (((wr.alloc (.cells #[.int .i64 X, .int .i64 Y, .int .i64 z] 88)).drewN nq1).drewN nq).cell? ⟨wr.heap.size, 1, none⟩ = some (.int .i64 Y) := (Blk.new wr _ _).cell 1
        obtain ⟨E, hE⟩ : ∃ E, E = wr.heap.size := ⟨_, rfl⟩
        have hElt : gm ≠ E ∧ gb ≠ E := ⟨by omega, by omega⟩
        rw [← hE] at he1 ⊢
        clear hcx hcy hcz hw1 hw2 hw3 hc0 hc1 hc2 hc3 hfm hb hlS hlm hlb hfm0 hfb0 hSl hE
        generalize ((wr.alloc (.cells #[.int .i64 X, .int .i64 Y, .int .i64 z] 88)).drewN nq1).drewN nq = wq at *
        have hb4 := hS4.solver
        have hd2 := hb4.cell 2
        have hd3 := hb4.cell 3
        simp at hd2 hd3
        skip
        refine wp_region_held_drew (S := (fun w' => w'.cell? ⟨S, 2, none⟩ = some (.slice (some ⟨gm, 0, none⟩) N N) ∧ w'.cell? ⟨S, 3, none⟩ = some (.slice (some ⟨gb, 0, none⟩) N N) ∧ w'.cell? ⟨E, 1, none⟩ = some (.int .i64 Y) ∧ True)) (by kernel_rfl) ?_ (fun hHeld => ?_)
        · exact ⟨hd2, hd3, he1, trivial⟩
        refine wpAnyH_take (i := 0) (v := ?_) rfl (by kernel_rfl) (by kernel_rfl) (by kernel_rfl) (fun _ _ _ h => h) (Or.inl ⟨by rfl, ?_⟩) (by assumption) ?_
        rotate_left 1
        · intro w' hSw
          have hl0 := hSw.1
          have hl1 := hSw.2.1
          have hl2 := hSw.2.2.1
          go_simp
          try (with_reducible rfl)
        try simp only [List.getElem_toArray, List.getElem_cons_zero, List.getElem_cons_succ, Act.put, List.setIfInBounds_toArray, List.set_cons_zero, List.set_cons_succ]
        refine wpAnyH_take (i := 1) (v := ?_) rfl (by kernel_rfl) (by kernel_rfl) (by kernel_rfl) (fun _ _ _ h => h) (Or.inl ⟨by rfl, ?_⟩) (by assumption) ?_
        rotate_left 1
        · intro w' hSw
          have hl0 := hSw.1
          have hl1 := hSw.2.1
          have hl2 := hSw.2.2.1
          go_simp
          try (with_reducible rfl)
        try simp only [List.getElem_toArray, List.getElem_cons_zero, List.getElem_cons_succ, Act.put, List.setIfInBounds_toArray, List.set_cons_zero, List.set_cons_succ]
        refine wpAnyH_take (i := 2) (v := ?_) rfl (by kernel_rfl) (by kernel_rfl) (by kernel_rfl) (fun _ _ _ h => h) (Or.inl ⟨by rfl, ?_⟩) (by assumption) ?_
        rotate_left 1
        · intro w' hSw
          have hl0 := hSw.1
          have hl1 := hSw.2.1
          have hl2 := hSw.2.2.1
          go_simp
          try (with_reducible rfl)
        try simp only [List.getElem_toArray, List.getElem_cons_zero, List.getElem_cons_succ, Act.put, List.setIfInBounds_toArray, List.set_cons_zero, List.set_cons_succ]
        refine wpAnyH_take (i := 3) (v := ?_) rfl (by kernel_rfl) (by kernel_rfl) (by kernel_rfl) (fun _ _ _ h => h) (Or.inl ⟨by rfl, ?_⟩) (by assumption) ?_
        rotate_left 1
        · intro w' hSw
          have hl0 := hSw.1
          have hl1 := hSw.2.1
          have hl2 := hSw.2.2.1
          go_simp
          try (with_reducible rfl)
        try simp only [List.getElem_toArray, List.getElem_cons_zero, List.getElem_cons_succ, Act.put, List.setIfInBounds_toArray, List.set_cons_zero, List.set_cons_succ]
        refine wpAnyH_take (i := 4) (v := ?_) rfl (by kernel_rfl) (by kernel_rfl) (by kernel_rfl) (fun _ _ _ h => h) (Or.inl ⟨by rfl, ?_⟩) (by assumption) ?_
        rotate_left 1
        · intro w' hSw
          have hl0 := hSw.1
          have hl1 := hSw.2.1
          have hl2 := hSw.2.2.1
          go_simp
          try (with_reducible rfl)
        try simp only [List.getElem_toArray, List.getElem_cons_zero, List.getElem_cons_succ, Act.put, List.setIfInBounds_toArray, List.set_cons_zero, List.set_cons_succ]
        refine wpAnyH_take (i := 5) (v := ?_) rfl (by kernel_rfl) (by kernel_rfl) (by kernel_rfl) (fun _ _ _ h => h) (Or.inl ⟨by rfl, ?_⟩) (by assumption) ?_
        rotate_left 1
        · intro w' hSw
          have hl0 := hSw.1
          have hl1 := hSw.2.1
          have hl2 := hSw.2.2.1
          go_simp
          try (with_reducible rfl)
        try simp only [List.getElem_toArray, List.getElem_cons_zero, List.getElem_cons_succ, Act.put, List.setIfInBounds_toArray, List.set_cons_zero, List.set_cons_succ]
        refine wpAnyH_take (i := 6) (v := ?_) rfl (by kernel_rfl) (by kernel_rfl) (by kernel_rfl) (fun _ _ _ h => h) (Or.inl ⟨by rfl, ?_⟩) (by assumption) ?_
        rotate_left 1
        · intro w' hSw
          have hl0 := hSw.1
          have hl1 := hSw.2.1
          have hl2 := hSw.2.2.1
          go_simp
          try (with_reducible rfl)
        try simp only [List.getElem_toArray, List.getElem_cons_zero, List.getElem_cons_succ, Act.put, List.setIfInBounds_toArray, List.set_cons_zero, List.set_cons_succ]
        refine wpAnyH_take (i := 7) (v := ?_) rfl (by kernel_rfl) (by kernel_rfl) (by kernel_rfl) (fun _ _ _ h => h) (Or.inl ⟨by rfl, ?_⟩) (by assumption) ?_
        rotate_left 1
        · intro w' hSw
          have hl0 := hSw.1
          have hl1 := hSw.2.1
          have hl2 := hSw.2.2.1
          go_simp
          try (with_reducible rfl)
        try simp only [List.getElem_toArray, List.getElem_cons_zero, List.getElem_cons_succ, Act.put, List.setIfInBounds_toArray, List.set_cons_zero, List.set_cons_succ]
        refine wpAnyH_take (i := 8) (v := ?_) rfl (by kernel_rfl) (by kernel_rfl) (by kernel_rfl) (fun _ _ _ h => h) (Or.inl ⟨by rfl, ?_⟩) (by assumption) ?_
        rotate_left 1
        · intro w' hSw
          have hl0 := hSw.1
          have hl1 := hSw.2.1
          have hl2 := hSw.2.2.1
          go_simp
          try (with_reducible rfl)
        try simp only [List.getElem_toArray, List.getElem_cons_zero, List.getElem_cons_succ, Act.put, List.setIfInBounds_toArray, List.set_cons_zero, List.set_cons_succ]
        refine wpAnyH_take (i := 9) (v := ?_) rfl (by kernel_rfl) (by kernel_rfl) (by kernel_rfl) (fun _ _ _ h => h) (Or.inl ⟨by rfl, ?_⟩) (by assumption) ?_
        rotate_left 1
        · intro w' hSw
          have hl0 := hSw.1
          have hl1 := hSw.2.1
          have hl2 := hSw.2.2.1
          go_simp
          try (with_reducible rfl)
        try simp only [List.getElem_toArray, List.getElem_cons_zero, List.getElem_cons_succ, Act.put, List.setIfInBounds_toArray, List.set_cons_zero, List.set_cons_succ]
        refine wpAnyH_take (i := 10) (v := ?_) rfl (by kernel_rfl) (by kernel_rfl) (by kernel_rfl) (fun _ _ _ h => h) (Or.inl ⟨by rfl, ?_⟩) (by assumption) ?_
        rotate_left 1
        · intro w' hSw
          have hl0 := hSw.1
          have hl1 := hSw.2.1
          have hl2 := hSw.2.2.1
          go_simp
          try (with_reducible rfl)
        try simp only [List.getElem_toArray, List.getElem_cons_zero, List.getElem_cons_succ, Act.put, List.setIfInBounds_toArray, List.set_cons_zero, List.set_cons_succ]
        refine wpAnyH_take (i := 11) (v := ?_) rfl (by kernel_rfl) (by kernel_rfl) (by kernel_rfl) (fun _ _ _ h => h) (Or.inl ⟨by rfl, ?_⟩) (by assumption) ?_
        rotate_left 1
        · intro w' hSw
          have hl0 := hSw.1
          have hl1 := hSw.2.1
          have hl2 := hSw.2.2.1
          go_simp
          try (with_reducible rfl)
        try simp only [List.getElem_toArray, List.getElem_cons_zero, List.getElem_cons_succ, Act.put, List.setIfInBounds_toArray, List.set_cons_zero, List.set_cons_succ]
        refine wpAnyH_take (i := 12) (v := ?_) rfl (by kernel_rfl) (by kernel_rfl) (by kernel_rfl) (fun _ _ _ h => h) (Or.inl ⟨by rfl, ?_⟩) (by assumption) ?_
        rotate_left 1
        · intro w' hSw
          have hl0 := hSw.1
          have hl1 := hSw.2.1
          have hl2 := hSw.2.2.1
          go_simp
          try (with_reducible rfl)
        try simp only [List.getElem_toArray, List.getElem_cons_zero, List.getElem_cons_succ, Act.put, List.setIfInBounds_toArray, List.set_cons_zero, List.set_cons_succ]
        refine wpAnyH_take (i := 13) (v := ?_) rfl (by kernel_rfl) (by kernel_rfl) (by kernel_rfl) (fun _ _ _ h => h) (Or.inl ⟨by rfl, ?_⟩) (by assumption) ?_
        rotate_left 1
        · intro w' hSw
          have hl0 := hSw.1
          have hl1 := hSw.2.1
          have hl2 := hSw.2.2.1
          go_simp
          try (with_reducible rfl)
        try simp only [List.getElem_toArray, List.getElem_cons_zero, List.getElem_cons_succ, Act.put, List.setIfInBounds_toArray, List.set_cons_zero, List.set_cons_succ]
        refine wpAnyH_take (i := 14) (v := ?_) rfl (by kernel_rfl) (by kernel_rfl) (by kernel_rfl) (fun _ _ _ h => h) (Or.inl ⟨by rfl, ?_⟩) (by assumption) ?_
        rotate_left 1
        · intro w' hSw
          have hl0 := hSw.1
          have hl1 := hSw.2.1
          have hl2 := hSw.2.2.1
          go_simp
          try (with_reducible rfl)
        try simp only [List.getElem_toArray, List.getElem_cons_zero, List.getElem_cons_succ, Act.put, List.setIfInBounds_toArray, List.set_cons_zero, List.set_cons_succ]
        refine wpAnyH_take (i := 15) (v := ?_) rfl (by kernel_rfl) (by kernel_rfl) (by kernel_rfl) (fun _ _ _ h => h) (Or.inl ⟨by rfl, ?_⟩) (by assumption) ?_
        rotate_left 1
        · intro w' hSw
          have hl0 := hSw.1
          have hl1 := hSw.2.1
          have hl2 := hSw.2.2.1
          go_simp
          try (with_reducible rfl)
        try simp only [List.getElem_toArray, List.getElem_cons_zero, List.getElem_cons_succ, Act.put, List.setIfInBounds_toArray, List.set_cons_zero, List.set_cons_succ]
        have hS5 : Solv w0 wq.drew S gm gb N (some ⟨b, off, none⟩) n c f M1 B1 := hS4.drewN 1
        clear hS4 hb4 hd2 hd3 he1
        generalize wq.drew = wx at *
        have hw2 := hS5.mostAt hY
        have hw3 := hS5.byAt hY
        have hz2 := hS5.most.frozen Y
        have hz3 := hS5.by_.frozen Y
        have hS6 := hS5.setMost Y (u + z)
        have hw4 := hS6.byAt hY
        have hz4 := hS6.by_.frozen Y
        have hS7 := hS6.setBy Y (k : Int)
        clear hS5 hS6
        refine wpAnyH_ready (rs := [16]) (by kernel_rfl) (by simp) ?_
        refine AllReadyH.cons rfl (fun K hK => ?_) AllReadyH.nil
        go_simp
        refine hK.out _ _ ?_ (fun hHeld => ?_)
        · exact hHeld
        clear hK K
        try simp only [List.getElem_toArray, List.getElem_cons_zero, List.getElem_cons_succ, Act.put, List.setIfInBounds_toArray, List.set_cons_zero, List.set_cons_succ]
        refine wpAnyH_ready (rs := [17]) (by kernel_rfl) (by simp) ?_
        refine AllReadyH.cons rfl (fun K hK => ?_) AllReadyH.nil
        go_simp
        refine hK.out _ _ ?_ (fun hHeld => ?_)
        · exact by obtain ⟨h2, h3, h1, _⟩ := hHeld; have n1 := hS7.ne; exact ⟨(World.cell?_setCell_far _ _ _ _ (by first | exact Ne.symm n1.1 | exact Ne.symm n1.2.1 | exact hElt.1 | exact hElt.2)).trans h2, (World.cell?_setCell_far _ _ _ _ (by first | exact Ne.symm n1.1 | exact Ne.symm n1.2.1 | exact hElt.1 | exact hElt.2)).trans h3, (World.cell?_setCell_far _ _ _ _ (by first | exact Ne.symm n1.1 | exact Ne.symm n1.2.1 | exact hElt.1 | exact hElt.2)).trans h1, trivial⟩
        clear hK K
        try simp only [List.getElem_toArray, List.getElem_cons_zero, List.getElem_cons_succ, Act.put, List.setIfInBounds_toArray, List.set_cons_zero, List.set_cons_succ]
        refine wpAnyH_ready (rs := [18]) (by kernel_rfl) (by simp) ?_
        refine AllReadyH.cons rfl (fun K hK => ?_) AllReadyH.nil
        go_simp
        refine hK.out _ _ ?_ (fun hHeld => ?_)
        · exact hHeld
        clear hK K
        try simp only [List.getElem_toArray, List.getElem_cons_zero, List.getElem_cons_succ, Act.put, List.setIfInBounds_toArray, List.set_cons_zero, List.set_cons_succ]
        refine wpAnyH_ready (rs := [19]) (by kernel_rfl) (by simp) ?_
        refine AllReadyH.cons rfl (fun K hK => ?_) AllReadyH.nil
        go_simp
        refine hK.out _ _ ?_ (fun hHeld => ?_)
        · exact by obtain ⟨h2, h3, h1, _⟩ := hHeld; have n1 := hS7.ne; exact ⟨(World.cell?_setCell_far _ _ _ _ (by first | exact Ne.symm n1.1 | exact Ne.symm n1.2.1 | exact hElt.1 | exact hElt.2)).trans h2, (World.cell?_setCell_far _ _ _ _ (by first | exact Ne.symm n1.1 | exact Ne.symm n1.2.1 | exact hElt.1 | exact hElt.2)).trans h3, (World.cell?_setCell_far _ _ _ _ (by first | exact Ne.symm n1.1 | exact Ne.symm n1.2.1 | exact hElt.1 | exact hElt.2)).trans h1, trivial⟩
        clear hK K
        try simp only [List.getElem_toArray, List.getElem_cons_zero, List.getElem_cons_succ, Act.put, List.setIfInBounds_toArray, List.set_cons_zero, List.set_cons_succ]
        refine wpAnyH_ready (rs := [20]) (by kernel_rfl) (by simp) ?_
        refine AllReadyH.cons rfl (fun K hK => ?_) AllReadyH.nil
        go_simp
        refine hK.out _ _ ?_ (fun hHeld => ?_)
        · exact hHeld
        clear hK K
        try simp only [List.getElem_toArray, List.getElem_cons_zero, List.getElem_cons_succ, Act.put, List.setIfInBounds_toArray, List.set_cons_zero, List.set_cons_succ]
        refine wpAnyH_done (by kernel_rfl) ?_ _
        go_wp2
        go_roundw
        case rel => exact ⟨k + 1, by rw [hs2.out], by go_num, by omega, by rw [hs2.out]; exact hS7⟩
        case measure => simp [intOf]; omega
      · have g1 : decide (v < u + z) = false := by simpa using hgt
        rw [if_neg hgt] at HR
        obtain rfl := HR.out
        go_wp2_with fail
        go_quiet (fail)
        go_wp2_with fail
        go_quiet (fail)
        go_wp2
        go_roundw
        case rel => exact ⟨k + 1, by rw [hs2.out], by go_num, by omega, by rw [hs2.out]; exact (hSl.out.alloc _).drewN _⟩
        case measure => simp [intOf]; omega
    · obtain rfl : k = n := by omega
      go_wp2
      go_ret
      exact ⟨rfl, hSl.out⟩
end Go.Proofs.YtgmljgcmfooniaaGreatDoor
/- PotT -/
set_option linter.unusedVariables false
set_option linter.unusedSimpArgs false
namespace Go.Tide
theorem solve_step {f : Nat → Nat → Int} {n t N : Nat} {s : PSt} (ht : t ≤ N) (h : solveAt f n (N + 1 - t) s = solved f n N) :
    ((rnd f n s).L < 0 → rnd f n s = solved f n N) ∧ (¬ (rnd f n s).L < 0 → solveAt f n (N + 1 - (t + 1)) (rnd f n s) = solved f n N) := by
  rw [show N + 1 - t = (N + 1 - (t + 1)) + 1 from by omega] at h
  unfold solveAt at h
  by_cases hc : (rnd f n s).L < 0
  · rw [if_pos hc] at h
    exact ⟨fun _ => h, fun h' => absurd hc h'⟩
  · rw [if_neg hc] at h
    exact ⟨fun h' => absurd h' hc, fun _ => h⟩
end Go.Tide
namespace Go.Proofs.YtgmljgcmfooniaaGreatDoor
open Go.RowKit Go.Tide
set_option linter.unusedVariables false
set_option linter.unusedSimpArgs false
theorem more_cell {w w' : World} {b i : Nat} (h : More w w') (hb : b < w.heap.size) : w'.cell? ⟨b, i, none⟩ = w.cell? ⟨b, i, none⟩ := by
  obtain ⟨os, n, rfl⟩ := h
  exact World.cell?_more w os n b i hb
theorem more_two {w w' : World} {b : Nat} {u v : Value} (hg : b < w.heap.size) (h0 : w.cell? ⟨b, 0, none⟩ = some u) (h1 : w.cell? ⟨b, 1, none⟩ = some v) (h : More w w') :
    w'.cell? ⟨b, 0, none⟩ = some u ∧ w'.cell? ⟨b, 1, none⟩ = some v ∧ More w w' := ⟨(more_cell h hg).trans h0, (more_cell h hg).trans h1, h⟩
theorem made_cells (N : Nat) : madeCells #[Value.int .i64 0] N = (cellsOf N (fun _ => 0)).toArray := by
  apply Array.toList_inj.1
  skip
  show (madeCells #[Value.int .i64 0] N).toList = cellsOf N _
  rw [toList_madeCells_one]
  apply List.ext_getElem?
  intro k
  by_cases hk : k < N
  · rw [cellsOf_get _ hk, List.getElem?_replicate, if_pos hk]
  · rw [List.getElem?_eq_none (by simp; omega), List.getElem?_eq_none (by simp [cellsOf_length]; omega)]
theorem rep_cells (N : Nat) (x : Int) : List.replicate N (Value.int .i64 x) = cellsOf N (fun _ => x) := by
  apply List.ext_getElem?
  intro k
  by_cases hk : k < N
  · rw [cellsOf_get _ hk, List.getElem?_replicate, if_pos hk]
  · rw [List.getElem?_eq_none (by simp; omega), List.getElem?_eq_none (by simp [cellsOf_length]; omega)]

theorem repeat_at (b off c : Nat) (x : Int) (n : Nat) (w : World) (hc : w.cell? ⟨b, off, none⟩ = some (.int .i64 x)) (hb : b < w.heap.size) (hn2 : n ≤ 300) :
    Calls Tryz.prog 92 #[.slice (some ⟨b, off, none⟩) 1 c, .int .i64 n] w fun e w' => ∃ g os d, e = .returned (.slice (some ⟨g, 0, none⟩) n n) ∧ w.heap.size = g ∧ w' = w.more os d ∧ Blk (w.more os d) g 3 (cellsOf n (fun _ => x)).toArray :=
  (repeat_blk b off c x n w hc hb hn2).mono fun e w' ⟨he, hB, hb⟩ => by
    obtain ⟨os, d, rfl⟩ := More.of_below hb
    rw [rep_cells] at hB
    exact ⟨_, os, d, he, rfl, rfl, hB⟩
set_option maxRecDepth 20000 in
set_option maxHeartbeats 4000000 in
theorem solve_any (w : World) (N : Nat) (a : Option Addr) (n c : Nat) (f : Nat → Nat → Int) (hr : RowC w 3 a n f) (hG : GRight N n f) :
    Calls Tryz.prog 64 #[.agg #[.int .i64 N, .slice a n c]] w fun e w' => ∃ S gm gb, e = .returned (.tuple #[.pointer (some ⟨S, 0, none⟩), .int .i64 (solved f n N).L]) ∧ Solv w w' S gm gb N a n c f (solved f n N).M (solved f n N).B := by
  have HG := Lib.hid hG
  have hN := hG.2.1
  have hN' : N ≤ 300 := by omega
  clear hG
  have hmk := fun W => run_make_row' (P := Tryz.prog) 49 3 (.int .i64 0) 8 Tryz.underlying49 intInfo rfl .i64 .i64 N (by omega) (by omega) W
  have hbg := Blk.new w 80 #[.int .i64 N, .slice a n c]
  have hg0 : (w.alloc (.cells #[.int .i64 N, .slice a n c] 80)).cell? ⟨w.heap.size, 0, none⟩ = some (.int .i64 N) := hbg.cell 0
  have hg1 : (w.alloc (.cells #[.int .i64 N, .slice a n c] 80)).cell? ⟨w.heap.size, 1, none⟩ = some (.slice a n c) := hbg.cell 1
  have hgl := hbg.lt
  clear hbg
  go_enter Tryz.func64, Tryz.ntmps64
  go_wp2_with fail
  have hmw : More w (w.alloc (.cells #[.int .i64 N, .slice a n c] 80)) := (More.refl w).alloc _
  have hrz := hr.alloc (.cells #[.int .i64 N, .slice a n c] 80)
  generalize w.alloc (.cells #[.int .i64 N, .slice a n c] 80) = wg at *
  generalize w.heap.size = G at *
  refine wp_region_held_drew (S := (fun w' => w'.cell? ⟨G, 0, none⟩ = some (.int .i64 N) ∧ w'.cell? ⟨G, 1, none⟩ = some (.slice a n c) ∧ More wg w')) (by kernel_rfl) ?_ (fun hHeld => ?_)
  · exact more_two hgl hg0 hg1 (by repeat (first | (with_reducible assumption) | (with_reducible exact More.refl _) | (with_reducible refine More.alloc ?_ _) | (with_reducible refine More.more ?_ _ _) | (with_reducible refine More.drewN ?_ _) | (with_reducible refine More.drew ?_)))
  refine wpAnyH_take (i := 1) (v := ?_) rfl (by kernel_rfl) (by kernel_rfl) (by kernel_rfl) (fun _ _ _ h => h) (Or.inl ⟨by rfl, ?_⟩) (by assumption) ?_
  rotate_left 1
  · intro w' hSw
    have hl0 := hSw.1
    have hl1 := hSw.2.1
    go_simp
    try (with_reducible rfl)
  try simp only [List.getElem_toArray, List.getElem_cons_zero, List.getElem_cons_succ, Act.put, List.setIfInBounds_toArray, List.set_cons_zero, List.set_cons_succ]
  refine wpAnyH_take (i := 2) (v := ?_) rfl (by kernel_rfl) (by kernel_rfl) (by kernel_rfl) (fun _ _ _ h => h) (Or.inl ⟨by rfl, ?_⟩) (by assumption) ?_
  rotate_left 1
  · intro w' hSw
    have hl0 := hSw.1
    have hl1 := hSw.2.1
    go_simp
    try (with_reducible rfl)
  try simp only [List.getElem_toArray, List.getElem_cons_zero, List.getElem_cons_succ, Act.put, List.setIfInBounds_toArray, List.set_cons_zero, List.set_cons_succ]
  refine wpAnyH_take (i := 5) (v := ?_) rfl (by kernel_rfl) (by kernel_rfl) (by kernel_rfl) (fun _ _ _ h => h) (Or.inl ⟨by rfl, ?_⟩) (by assumption) ?_
  rotate_left 1
  · intro w' hSw
    have hl0 := hSw.1
    have hl1 := hSw.2.1
    go_simp
    try (with_reducible rfl)
  try simp only [List.getElem_toArray, List.getElem_cons_zero, List.getElem_cons_succ, Act.put, List.setIfInBounds_toArray, List.set_cons_zero, List.set_cons_succ]
  refine wpAnyH_take (i := 6) (v := ?_) rfl (by kernel_rfl) (by kernel_rfl) (by kernel_rfl) (fun _ _ _ h => h) (Or.inl ⟨by rfl, ?_⟩) (by assumption) ?_
  rotate_left 1
  · intro w' hSw
    have hl0 := hSw.1
    have hl1 := hSw.2.1
    go_simp
    try (with_reducible rfl)
  try simp only [List.getElem_toArray, List.getElem_cons_zero, List.getElem_cons_succ, Act.put, List.setIfInBounds_toArray, List.set_cons_zero, List.set_cons_succ]
  refine wpAnyH_take (i := 0) (v := ?_) rfl (by kernel_rfl) (by kernel_rfl) (by kernel_rfl) (fun _ _ _ h => h) (Or.inl ⟨by rfl, ?_⟩) (by assumption) ?_
  rotate_left 1
  · intro w' hSw
    have hl0 := hSw.1
    have hl1 := hSw.2.1
    go_simp
    try (with_reducible rfl)
  try simp only [List.getElem_toArray, List.getElem_cons_zero, List.getElem_cons_succ, Act.put, List.setIfInBounds_toArray, List.set_cons_zero, List.set_cons_succ]
  refine wpAnyH_ready (rs := [3, 4]) (by kernel_rfl) (by simp) ?_
  refine AllReadyH.cons rfl (fun K hK => ?_) (AllReadyH.cons rfl (fun K hK => ?_) AllReadyH.nil)
  ·
    go_simp
    refine hK.out _ _ ?_ (fun hHeld => ?_)
    · exact more_two hgl hg0 hg1 (by repeat (first | (with_reducible assumption) | (with_reducible exact More.refl _) | (with_reducible refine More.alloc ?_ _) | (with_reducible refine More.more ?_ _ _) | (with_reducible refine More.drewN ?_ _) | (with_reducible refine More.drew ?_)))
    clear hK K
    try simp only [List.getElem_toArray, List.getElem_cons_zero, List.getElem_cons_succ, Act.put, List.setIfInBounds_toArray, List.set_cons_zero, List.set_cons_succ]
    refine wpAnyH_ready (rs := [4]) (by kernel_rfl) (by simp) ?_
    refine AllReadyH.cons rfl (fun K hK => ?_) AllReadyH.nil
    go_simp
    refine hK.out _ _ ?_ (fun hHeld => ?_)
    · exact more_two hgl hg0 hg1 (by repeat (first | (with_reducible assumption) | (with_reducible exact More.refl _) | (with_reducible refine More.alloc ?_ _) | (with_reducible refine More.more ?_ _ _) | (with_reducible refine More.drewN ?_ _) | (with_reducible refine More.drew ?_)))
    clear hK K
    try simp only [List.getElem_toArray, List.getElem_cons_zero, List.getElem_cons_succ, Act.put, List.setIfInBounds_toArray, List.set_cons_zero, List.set_cons_succ]
    refine wpAnyH_ready (rs := [7]) (by kernel_rfl) (by simp) ?_
    refine AllReadyH.cons rfl (fun K hK => ?_) AllReadyH.nil
    go_simp
    refine (repeat_at _ _ _ (-1) N _ ((show Blk _ _ 3 #[.int .i64 (-1)] from (by repeat (first | (with_reducible assumption) | ((with_reducible refine Blk.new' ?_); (simp [Nat.add_assoc]; done)) | (with_reducible refine Blk.alloc ?_ _) | (with_reducible refine Blk.more ?_ _ _) | (with_reducible refine Blk.drew ?_) | (with_reducible refine Blk.drewN ?_ _)))).cell 0) (by first | (simp; done) | (simp; omega)) hN').mono ?_
    rintro e w7 ⟨gb, os7, d7, rfl, hgb, rfl, hB7⟩
    refine hK.out _ _ ?_ (fun hHeld => ?_)
    · exact more_two hgl hg0 hg1 (by repeat (first | (with_reducible assumption) | (with_reducible exact More.refl _) | (with_reducible refine More.alloc ?_ _) | (with_reducible refine More.more ?_ _ _) | (with_reducible refine More.drewN ?_ _) | (with_reducible refine More.drew ?_)))
    clear hK K
    try simp only [List.getElem_toArray, List.getElem_cons_zero, List.getElem_cons_succ, Act.put, List.setIfInBounds_toArray, List.set_cons_zero, List.set_cons_succ]
    have hZ : Blk (((wg.alloc (.cells (madeCells #[.int .i64 0] N) 3)).alloc (.cells #[.int .i64 (-1)] 3)).drew.more os7 d7) (wg.heap.size) 3 (madeCells #[.int .i64 0] N) := (by repeat (first | (with_reducible assumption) | ((with_reducible refine Blk.new' ?_); (simp [Nat.add_assoc]; done)) | (with_reducible refine Blk.alloc ?_ _) | (with_reducible refine Blk.more ?_ _ _) | (with_reducible refine Blk.drew ?_) | (with_reducible refine Blk.drewN ?_ _)))
    have hB : Blk (((wg.alloc (.cells (madeCells #[.int .i64 0] N) 3)).alloc (.cells #[.int .i64 (-1)] 3)).drew.more os7 d7) gb 3 (cellsOf N (fun _ => -1)).toArray := hB7
    have hmq : More wg (((wg.alloc (.cells (madeCells #[.int .i64 0] N) 3)).alloc (.cells #[.int .i64 (-1)] 3)).drew.more os7 d7) := (by repeat (first | (with_reducible assumption) | (with_reducible exact More.refl _) | (with_reducible refine More.alloc ?_ _) | (with_reducible refine More.more ?_ _ _) | (with_reducible refine More.drewN ?_ _) | (with_reducible refine More.drew ?_)))
    have hx : w.heap.size ≤ wg.heap.size ∧ w.heap.size ≤ gb ∧ wg.heap.size ≠ gb := by have h9 := hB7.lt; have h8 := hmw.below.size; simp at hgb h9; omega
    clear hB7 hgb hHeld hmk
    generalize ((wg.alloc (.cells (madeCells #[.int .i64 0] N) 3)).alloc (.cells #[.int .i64 (-1)] 3)).drew.more os7 d7 = wq at *
    generalize wg.heap.size = gm at hZ hx ⊢
    rw [made_cells] at hZ
    refine wpAnyH_ready (rs := [8]) (by kernel_rfl) (by simp) ?_
    refine AllReadyH.cons rfl (fun K hK => ?_) AllReadyH.nil
    go_simp
    refine hK.out _ _ ?_ (fun hHeld => ?_)
    · exact more_two hgl hg0 hg1 (by repeat (first | (with_reducible assumption) | (with_reducible exact More.refl _) | (with_reducible refine More.alloc ?_ _) | (with_reducible refine More.more ?_ _ _) | (with_reducible refine More.drewN ?_ _) | (with_reducible refine More.drew ?_)))
    clear hK K
    try simp only [List.getElem_toArray, List.getElem_cons_zero, List.getElem_cons_succ, Act.put, List.setIfInBounds_toArray, List.set_cons_zero, List.set_cons_succ]
    refine wpAnyH_ready (rs := [9]) (by kernel_rfl) (by simp) ?_
    refine AllReadyH.cons rfl (fun K hK => ?_) AllReadyH.nil
    go_simp
    refine hK.out _ _ ?_ (fun hHeld => ?_)
    · exact more_two hgl hg0 hg1 (by repeat (first | (with_reducible assumption) | (with_reducible exact More.refl _) | (with_reducible refine More.alloc ?_ _) | (with_reducible refine More.more ?_ _ _) | (with_reducible refine More.drewN ?_ _) | (with_reducible refine More.drew ?_)))
    clear hK K
    try simp only [List.getElem_toArray, List.getElem_cons_zero, List.getElem_cons_succ, Act.put, List.setIfInBounds_toArray, List.set_cons_zero, List.set_cons_succ]
    refine wpAnyH_ready (rs := [10]) (by kernel_rfl) (by simp) ?_
    refine AllReadyH.cons rfl (fun K hK => ?_) AllReadyH.nil
    go_simp
    refine hK.out _ _ ?_ (fun hHeld => ?_)
    · exact more_two hgl hg0 hg1 (by repeat (first | (with_reducible assumption) | (with_reducible exact More.refl _) | (with_reducible refine More.alloc ?_ _) | (with_reducible refine More.more ?_ _ _) | (with_reducible refine More.drewN ?_ _) | (with_reducible refine More.drew ?_)))
    clear hK K
    try simp only [List.getElem_toArray, List.getElem_cons_zero, List.getElem_cons_succ, Act.put, List.setIfInBounds_toArray, List.set_cons_zero, List.set_cons_succ]
    refine wpAnyH_done (by kernel_rfl) ?_ _
    have hS0 : Solv w (wq.alloc (.cells #[.int .i64 N, .slice a n c, .slice (some ⟨gm, 0, none⟩) N N, .slice (some ⟨gb, 0, none⟩) N N] 127)) wq.heap.size gm gb N a n c f (fun _ => 0) (fun _ => -1) := ⟨Blk.new _ _ _, hZ.alloc _, hB.alloc _, by have := hmw.below.size; have := hmq.below.size; omega, by have := hZ.lt; have := hB.lt; omega, hr, ((hmw.trans hmq).alloc _).below⟩
    have hSg : wq.heap.size + 1 = (wq.alloc (.cells #[.int .i64 N, .slice a n c, .slice (some ⟨gm, 0, none⟩) N N, .slice (some ⟨gb, 0, none⟩) N N] 127)).heap.size := by simp
    have hgq0 := (more_cell (i := 0) hmq hgl).trans hg0
    have hgq1 := (more_cell (i := 1) hmq hgl).trans hg1
    have hgqs := (hmq.alloc (.cells #[.int .i64 N, .slice a n c, .slice (some ⟨gm, 0, none⟩) N N, .slice (some ⟨gb, 0, none⟩) N N] 127)).below.size
    have hgq0' := (more_cell (i := 0) (hmq.alloc (.cells #[.int .i64 N, .slice a n c, .slice (some ⟨gm, 0, none⟩) N N, .slice (some ⟨gb, 0, none⟩) N N] 127)) hgl).trans hg0
    have hgq1' := (more_cell (i := 1) (hmq.alloc (.cells #[.int .i64 N, .slice a n c, .slice (some ⟨gm, 0, none⟩) N N, .slice (some ⟨gb, 0, none⟩) N N] 127)) hgl).trans hg1
    clear hHeld hgq0 hgq1 hZ hB hx hSg hg0 hg1 hmq hmw
    generalize wq.alloc (.cells #[.int .i64 N, .slice a n c, .slice (some ⟨gm, 0, none⟩) N N, .slice (some ⟨gb, 0, none⟩) N N] 127) = wx at *
    generalize wq.heap.size = S at *
    go_wp2_with fail
    have HMB0 : Hid (MB N 0 (fun _ => 0)) := fun v _ => ⟨Int.le_refl _, Int.le_refl _⟩
    go_loopw [5, 19] (fun l i wr => ∃ (t : Nat) (s : PSt), l = .int .i64 s.L ∧ i = .int .i64 t ∧ t ≤ N + 1 ∧ Hid (Solv w wr S gm gb N a n c f s.M s.B) ∧ Hid (MB N (5033164800 * t) s.M) ∧ Hid (solveAt f n (N + 1 - t) s = solved f n N)) (fun _ i _ => N + 1 - (intOf i).toNat)
    case atStart => exact ⟨0, Go.Tide.start, rfl, rfl, by omega, hS0, HMB0, rfl⟩
    case round =>
      obtain ⟨t, s, rfl, rfl, ht, hS, hMB, hso⟩ := hrel
      by_cases hlt : t < N + 1
      · have t1 : (t : Int) < (N : Int) + 1 := by omega
        have hst := solve_step (show t ≤ N by omega) hso.out
        have HST := Lib.hid hst
        have hMB2 := rnd_mb (s := s) HG.out hMB.out (by omega)
        have HMB2 := Lib.hid hMB2
        have HL : Hid (-1 ≤ (rnd f n s).L ∧ (rnd f n s).L < N) := pass_L HG.out (s := ⟨s.M, s.B, -1⟩) (by simp; omega) n (Nat.le_refl _)
        have hrnd : pass f n ⟨s.M, s.B, -1⟩ = rnd f n s := rfl
        clear hst hMB2
        by_cases hneg : (rnd f n s).L < 0
        · have d1 : decide ((rnd f n s).L < 0) = true := by simpa using hneg
          have HF : Hid (rnd f n s = solved f n N) := HST.out.1 hneg
          go_wp2_with (refine (round_any w _ S gm gb N a n c f s.M s.B (5033164800 * t) hS.out HG.out (by omega) hMB.out).mono ?_; rintro e w8 ⟨rfl, hS8⟩; rw [hrnd] at hS8 ⊢)
          go_ret2
          exact ⟨S, gm, gb, by rw [← HF.out]; rfl, by rw [← HF.out]; exact hS8⟩
        · have d1 : decide ((rnd f n s).L < 0) = false := by simpa using hneg
          have HF : Hid (solveAt f n (N + 1 - (t + 1)) (rnd f n s) = solved f n N) := HST.out.2 hneg
          have HM9 : Hid (MB N (5033164800 * ((t + 1 : Nat) : Int)) (rnd f n s).M) := by
            have := HMB2.out
            rw [show (5033164800 : Int) * ((t + 1 : Nat) : Int) = 5033164800 * t + 5033164800 from by omega]
            exact this
          go_wp2_with (refine (round_any w _ S gm gb N a n c f s.M s.B (5033164800 * t) hS.out HG.out (by omega) hMB.out).mono ?_; rintro e w8 ⟨rfl, hS8⟩; rw [hrnd] at hS8 ⊢)
          have hS9 : Hid (Solv w w8 S gm gb N a n c f (rnd f n s).M (rnd f n s).B) := hS8
          clear hS8
          go_roundw
          case rel => exact ⟨t + 1, rnd f n s, rfl, by go_num, by omega, hS9, HM9, HF⟩
          case measure => simp [intOf]; omega
      · obtain rfl : t = N + 1 := by omega
        go_wp2
        go_ret2
        exact ⟨S, gm, gb, by rw [← hso.out]; simp [solveAt], by have h1 := hso.out; simp [solveAt] at h1; rw [← h1]; exact hS.out⟩
  ·
    go_simp
    refine hK.out _ _ ?_ (fun hHeld => ?_)
    · exact more_two hgl hg0 hg1 (by repeat (first | (with_reducible assumption) | (with_reducible exact More.refl _) | (with_reducible refine More.alloc ?_ _) | (with_reducible refine More.more ?_ _ _) | (with_reducible refine More.drewN ?_ _) | (with_reducible refine More.drew ?_)))
    clear hK K
    try simp only [List.getElem_toArray, List.getElem_cons_zero, List.getElem_cons_succ, Act.put, List.setIfInBounds_toArray, List.set_cons_zero, List.set_cons_succ]
    refine wpAnyH_ready (rs := [3, 7]) (by kernel_rfl) (by simp) ?_
    refine AllReadyH.cons rfl (fun K hK => ?_) (AllReadyH.cons rfl (fun K hK => ?_) AllReadyH.nil)
    ·
      go_simp
      refine hK.out _ _ ?_ (fun hHeld => ?_)
      · exact more_two hgl hg0 hg1 (by repeat (first | (with_reducible assumption) | (with_reducible exact More.refl _) | (with_reducible refine More.alloc ?_ _) | (with_reducible refine More.more ?_ _ _) | (with_reducible refine More.drewN ?_ _) | (with_reducible refine More.drew ?_)))
      clear hK K
      try simp only [List.getElem_toArray, List.getElem_cons_zero, List.getElem_cons_succ, Act.put, List.setIfInBounds_toArray, List.set_cons_zero, List.set_cons_succ]
      refine wpAnyH_ready (rs := [7]) (by kernel_rfl) (by simp) ?_
      refine AllReadyH.cons rfl (fun K hK => ?_) AllReadyH.nil
      go_simp
      refine (repeat_at _ _ _ (-1) N _ ((show Blk _ _ 3 #[.int .i64 (-1)] from (by repeat (first | (with_reducible assumption) | ((with_reducible refine Blk.new' ?_); (simp [Nat.add_assoc]; done)) | (with_reducible refine Blk.alloc ?_ _) | (with_reducible refine Blk.more ?_ _ _) | (with_reducible refine Blk.drew ?_) | (with_reducible refine Blk.drewN ?_ _)))).cell 0) (by first | (simp; done) | (simp; omega)) hN').mono ?_
      rintro e w7 ⟨gb, os7, d7, rfl, hgb, rfl, hB7⟩
      refine hK.out _ _ ?_ (fun hHeld => ?_)
      · exact more_two hgl hg0 hg1 (by repeat (first | (with_reducible assumption) | (with_reducible exact More.refl _) | (with_reducible refine More.alloc ?_ _) | (with_reducible refine More.more ?_ _ _) | (with_reducible refine More.drewN ?_ _) | (with_reducible refine More.drew ?_)))
      clear hK K
      try simp only [List.getElem_toArray, List.getElem_cons_zero, List.getElem_cons_succ, Act.put, List.setIfInBounds_toArray, List.set_cons_zero, List.set_cons_succ]
      have hZ : Blk (((wg.alloc (.cells #[.int .i64 (-1)] 3)).alloc (.cells (madeCells #[.int .i64 0] N) 3)).drew.more os7 d7) (wg.heap.size + 1) 3 (madeCells #[.int .i64 0] N) := (by repeat (first | (with_reducible assumption) | ((with_reducible refine Blk.new' ?_); (simp [Nat.add_assoc]; done)) | (with_reducible refine Blk.alloc ?_ _) | (with_reducible refine Blk.more ?_ _ _) | (with_reducible refine Blk.drew ?_) | (with_reducible refine Blk.drewN ?_ _)))
      have hB : Blk (((wg.alloc (.cells #[.int .i64 (-1)] 3)).alloc (.cells (madeCells #[.int .i64 0] N) 3)).drew.more os7 d7) gb 3 (cellsOf N (fun _ => -1)).toArray := hB7
      have hmq : More wg (((wg.alloc (.cells #[.int .i64 (-1)] 3)).alloc (.cells (madeCells #[.int .i64 0] N) 3)).drew.more os7 d7) := (by repeat (first | (with_reducible assumption) | (with_reducible exact More.refl _) | (with_reducible refine More.alloc ?_ _) | (with_reducible refine More.more ?_ _ _) | (with_reducible refine More.drewN ?_ _) | (with_reducible refine More.drew ?_)))
      have hx : w.heap.size ≤ wg.heap.size + 1 ∧ w.heap.size ≤ gb ∧ wg.heap.size + 1 ≠ gb := by have h9 := hB7.lt; have h8 := hmw.below.size; simp at hgb h9; omega
      clear hB7 hgb hHeld hmk
      generalize ((wg.alloc (.cells #[.int .i64 (-1)] 3)).alloc (.cells (madeCells #[.int .i64 0] N) 3)).drew.more os7 d7 = wq at *
      generalize wg.heap.size + 1 = gm at hZ hx ⊢
      rw [made_cells] at hZ
      refine wpAnyH_ready (rs := [8]) (by kernel_rfl) (by simp) ?_
      refine AllReadyH.cons rfl (fun K hK => ?_) AllReadyH.nil
      go_simp
      refine hK.out _ _ ?_ (fun hHeld => ?_)
      · exact more_two hgl hg0 hg1 (by repeat (first | (with_reducible assumption) | (with_reducible exact More.refl _) | (with_reducible refine More.alloc ?_ _) | (with_reducible refine More.more ?_ _ _) | (with_reducible refine More.drewN ?_ _) | (with_reducible refine More.drew ?_)))
      clear hK K
      try simp only [List.getElem_toArray, List.getElem_cons_zero, List.getElem_cons_succ, Act.put, List.setIfInBounds_toArray, List.set_cons_zero, List.set_cons_succ]
      refine wpAnyH_ready (rs := [9]) (by kernel_rfl) (by simp) ?_
      refine AllReadyH.cons rfl (fun K hK => ?_) AllReadyH.nil
      go_simp
      refine hK.out _ _ ?_ (fun hHeld => ?_)
      · exact more_two hgl hg0 hg1 (by repeat (first | (with_reducible assumption) | (with_reducible exact More.refl _) | (with_reducible refine More.alloc ?_ _) | (with_reducible refine More.more ?_ _ _) | (with_reducible refine More.drewN ?_ _) | (with_reducible refine More.drew ?_)))
      clear hK K
      try simp only [List.getElem_toArray, List.getElem_cons_zero, List.getElem_cons_succ, Act.put, List.setIfInBounds_toArray, List.set_cons_zero, List.set_cons_succ]
      refine wpAnyH_ready (rs := [10]) (by kernel_rfl) (by simp) ?_
      refine AllReadyH.cons rfl (fun K hK => ?_) AllReadyH.nil
      go_simp
      refine hK.out _ _ ?_ (fun hHeld => ?_)
      · exact more_two hgl hg0 hg1 (by repeat (first | (with_reducible assumption) | (with_reducible exact More.refl _) | (with_reducible refine More.alloc ?_ _) | (with_reducible refine More.more ?_ _ _) | (with_reducible refine More.drewN ?_ _) | (with_reducible refine More.drew ?_)))
      clear hK K
      try simp only [List.getElem_toArray, List.getElem_cons_zero, List.getElem_cons_succ, Act.put, List.setIfInBounds_toArray, List.set_cons_zero, List.set_cons_succ]
      refine wpAnyH_done (by kernel_rfl) ?_ _
      have hS0 : Solv w (wq.alloc (.cells #[.int .i64 N, .slice a n c, .slice (some ⟨gm, 0, none⟩) N N, .slice (some ⟨gb, 0, none⟩) N N] 127)) wq.heap.size gm gb N a n c f (fun _ => 0) (fun _ => -1) := ⟨Blk.new _ _ _, hZ.alloc _, hB.alloc _, by have := hmw.below.size; have := hmq.below.size; omega, by have := hZ.lt; have := hB.lt; omega, hr, ((hmw.trans hmq).alloc _).below⟩
      have hSg : wq.heap.size + 1 = (wq.alloc (.cells #[.int .i64 N, .slice a n c, .slice (some ⟨gm, 0, none⟩) N N, .slice (some ⟨gb, 0, none⟩) N N] 127)).heap.size := by simp
      have hgq0 := (more_cell (i := 0) hmq hgl).trans hg0
      have hgq1 := (more_cell (i := 1) hmq hgl).trans hg1
      have hgqs := (hmq.alloc (.cells #[.int .i64 N, .slice a n c, .slice (some ⟨gm, 0, none⟩) N N, .slice (some ⟨gb, 0, none⟩) N N] 127)).below.size
      have hgq0' := (more_cell (i := 0) (hmq.alloc (.cells #[.int .i64 N, .slice a n c, .slice (some ⟨gm, 0, none⟩) N N, .slice (some ⟨gb, 0, none⟩) N N] 127)) hgl).trans hg0
      have hgq1' := (more_cell (i := 1) (hmq.alloc (.cells #[.int .i64 N, .slice a n c, .slice (some ⟨gm, 0, none⟩) N N, .slice (some ⟨gb, 0, none⟩) N N] 127)) hgl).trans hg1
      clear hHeld hgq0 hgq1 hZ hB hx hSg hg0 hg1 hmq hmw
      generalize wq.alloc (.cells #[.int .i64 N, .slice a n c, .slice (some ⟨gm, 0, none⟩) N N, .slice (some ⟨gb, 0, none⟩) N N] 127) = wx at *
      generalize wq.heap.size = S at *
      go_wp2_with fail
      have HMB0 : Hid (MB N 0 (fun _ => 0)) := fun v _ => ⟨Int.le_refl _, Int.le_refl _⟩
      go_loopw [5, 19] (fun l i wr => ∃ (t : Nat) (s : PSt), l = .int .i64 s.L ∧ i = .int .i64 t ∧ t ≤ N + 1 ∧ Hid (Solv w wr S gm gb N a n c f s.M s.B) ∧ Hid (MB N (5033164800 * t) s.M) ∧ Hid (solveAt f n (N + 1 - t) s = solved f n N)) (fun _ i _ => N + 1 - (intOf i).toNat)
      case atStart => exact ⟨0, Go.Tide.start, rfl, rfl, by omega, hS0, HMB0, rfl⟩
      case round =>
        obtain ⟨t, s, rfl, rfl, ht, hS, hMB, hso⟩ := hrel
        by_cases hlt : t < N + 1
        · have t1 : (t : Int) < (N : Int) + 1 := by omega
          have hst := solve_step (show t ≤ N by omega) hso.out
          have HST := Lib.hid hst
          have hMB2 := rnd_mb (s := s) HG.out hMB.out (by omega)
          have HMB2 := Lib.hid hMB2
          have HL : Hid (-1 ≤ (rnd f n s).L ∧ (rnd f n s).L < N) := pass_L HG.out (s := ⟨s.M, s.B, -1⟩) (by simp; omega) n (Nat.le_refl _)
          have hrnd : pass f n ⟨s.M, s.B, -1⟩ = rnd f n s := rfl
          clear hst hMB2
          by_cases hneg : (rnd f n s).L < 0
          · have d1 : decide ((rnd f n s).L < 0) = true := by simpa using hneg
            have HF : Hid (rnd f n s = solved f n N) := HST.out.1 hneg
            go_wp2_with (refine (round_any w _ S gm gb N a n c f s.M s.B (5033164800 * t) hS.out HG.out (by omega) hMB.out).mono ?_; rintro e w8 ⟨rfl, hS8⟩; rw [hrnd] at hS8 ⊢)
            go_ret2
            exact ⟨S, gm, gb, by rw [← HF.out]; rfl, by rw [← HF.out]; exact hS8⟩
          · have d1 : decide ((rnd f n s).L < 0) = false := by simpa using hneg
            have HF : Hid (solveAt f n (N + 1 - (t + 1)) (rnd f n s) = solved f n N) := HST.out.2 hneg
            have HM9 : Hid (MB N (5033164800 * ((t + 1 : Nat) : Int)) (rnd f n s).M) := by
              have := HMB2.out
              rw [show (5033164800 : Int) * ((t + 1 : Nat) : Int) = 5033164800 * t + 5033164800 from by omega]
              exact this
            go_wp2_with (refine (round_any w _ S gm gb N a n c f s.M s.B (5033164800 * t) hS.out HG.out (by omega) hMB.out).mono ?_; rintro e w8 ⟨rfl, hS8⟩; rw [hrnd] at hS8 ⊢)
            have hS9 : Hid (Solv w w8 S gm gb N a n c f (rnd f n s).M (rnd f n s).B) := hS8
            clear hS8
            go_roundw
            case rel => exact ⟨t + 1, rnd f n s, rfl, by go_num, by omega, hS9, HM9, HF⟩
            case measure => simp [intOf]; omega
        · obtain rfl : t = N + 1 := by omega
          go_wp2
          go_ret2
          exact ⟨S, gm, gb, by rw [← hso.out]; simp [solveAt], by have h1 := hso.out; simp [solveAt] at h1; rw [← h1]; exact hS.out⟩
    ·
      go_simp
      refine (repeat_at _ _ _ (-1) N _ ((show Blk _ _ 3 #[.int .i64 (-1)] from (by repeat (first | (with_reducible assumption) | ((with_reducible refine Blk.new' ?_); (simp [Nat.add_assoc]; done)) | (with_reducible refine Blk.alloc ?_ _) | (with_reducible refine Blk.more ?_ _ _) | (with_reducible refine Blk.drew ?_) | (with_reducible refine Blk.drewN ?_ _)))).cell 0) (by first | (simp; done) | (simp; omega)) hN').mono ?_
      rintro e w7 ⟨gb, os7, d7, rfl, hgb, rfl, hB7⟩
      refine hK.out _ _ ?_ (fun hHeld => ?_)
      · exact more_two hgl hg0 hg1 (by repeat (first | (with_reducible assumption) | (with_reducible exact More.refl _) | (with_reducible refine More.alloc ?_ _) | (with_reducible refine More.more ?_ _ _) | (with_reducible refine More.drewN ?_ _) | (with_reducible refine More.drew ?_)))
      clear hK K
      try simp only [List.getElem_toArray, List.getElem_cons_zero, List.getElem_cons_succ, Act.put, List.setIfInBounds_toArray, List.set_cons_zero, List.set_cons_succ]
      refine wpAnyH_ready (rs := [3]) (by kernel_rfl) (by simp) ?_
      refine AllReadyH.cons rfl (fun K hK => ?_) AllReadyH.nil
      go_simp
      refine hK.out _ _ ?_ (fun hHeld => ?_)
      · exact more_two hgl hg0 hg1 (by repeat (first | (with_reducible assumption) | (with_reducible exact More.refl _) | (with_reducible refine More.alloc ?_ _) | (with_reducible refine More.more ?_ _ _) | (with_reducible refine More.drewN ?_ _) | (with_reducible refine More.drew ?_)))
      clear hK K
      try simp only [List.getElem_toArray, List.getElem_cons_zero, List.getElem_cons_succ, Act.put, List.setIfInBounds_toArray, List.set_cons_zero, List.set_cons_succ]
      have hZ : Blk (((wg.alloc (.cells #[.int .i64 (-1)] 3)).more os7 d7).alloc (.cells (madeCells #[.int .i64 0] N) 3)) (wg.heap.size + (1 + os7.size)) 3 (madeCells #[.int .i64 0] N) := by refine Blk.new' ?_; first | (simp; done) | (simp; omega) | omega
      have hB : Blk (((wg.alloc (.cells #[.int .i64 (-1)] 3)).more os7 d7).alloc (.cells (madeCells #[.int .i64 0] N) 3)) gb 3 (cellsOf N (fun _ => -1)).toArray := hB7.alloc _
      have hmq : More wg (((wg.alloc (.cells #[.int .i64 (-1)] 3)).more os7 d7).alloc (.cells (madeCells #[.int .i64 0] N) 3)) := (by repeat (first | (with_reducible assumption) | (with_reducible exact More.refl _) | (with_reducible refine More.alloc ?_ _) | (with_reducible refine More.more ?_ _ _) | (with_reducible refine More.drewN ?_ _) | (with_reducible refine More.drew ?_)))
      have hx : w.heap.size ≤ wg.heap.size + (1 + os7.size) ∧ w.heap.size ≤ gb ∧ wg.heap.size + (1 + os7.size) ≠ gb := by have h9 := hB7.lt; have h8 := hmw.below.size; simp at hgb h9; omega
      clear hB7 hgb hHeld hmk
      generalize ((wg.alloc (.cells #[.int .i64 (-1)] 3)).more os7 d7).alloc (.cells (madeCells #[.int .i64 0] N) 3) = wq at *
      generalize wg.heap.size + (1 + os7.size) = gm at hZ hx ⊢
      rw [made_cells] at hZ
      refine wpAnyH_ready (rs := [8]) (by kernel_rfl) (by simp) ?_
      refine AllReadyH.cons rfl (fun K hK => ?_) AllReadyH.nil
      go_simp
      refine hK.out _ _ ?_ (fun hHeld => ?_)
      · exact more_two hgl hg0 hg1 (by repeat (first | (with_reducible assumption) | (with_reducible exact More.refl _) | (with_reducible refine More.alloc ?_ _) | (with_reducible refine More.more ?_ _ _) | (with_reducible refine More.drewN ?_ _) | (with_reducible refine More.drew ?_)))
      clear hK K
      try simp only [List.getElem_toArray, List.getElem_cons_zero, List.getElem_cons_succ, Act.put, List.setIfInBounds_toArray, List.set_cons_zero, List.set_cons_succ]
      refine wpAnyH_ready (rs := [9]) (by kernel_rfl) (by simp) ?_
      refine AllReadyH.cons rfl (fun K hK => ?_) AllReadyH.nil
      go_simp
      refine hK.out _ _ ?_ (fun hHeld => ?_)
      · exact more_two hgl hg0 hg1 (by repeat (first | (with_reducible assumption) | (with_reducible exact More.refl _) | (with_reducible refine More.alloc ?_ _) | (with_reducible refine More.more ?_ _ _) | (with_reducible refine More.drewN ?_ _) | (with_reducible refine More.drew ?_)))
      clear hK K
      try simp only [List.getElem_toArray, List.getElem_cons_zero, List.getElem_cons_succ, Act.put, List.setIfInBounds_toArray, List.set_cons_zero, List.set_cons_succ]
      refine wpAnyH_ready (rs := [10]) (by kernel_rfl) (by simp) ?_
      refine AllReadyH.cons rfl (fun K hK => ?_) AllReadyH.nil
      go_simp
      refine hK.out _ _ ?_ (fun hHeld => ?_)
      · exact more_two hgl hg0 hg1 (by repeat (first | (with_reducible assumption) | (with_reducible exact More.refl _) | (with_reducible refine More.alloc ?_ _) | (with_reducible refine More.more ?_ _ _) | (with_reducible refine More.drewN ?_ _) | (with_reducible refine More.drew ?_)))
      clear hK K
      try simp only [List.getElem_toArray, List.getElem_cons_zero, List.getElem_cons_succ, Act.put, List.setIfInBounds_toArray, List.set_cons_zero, List.set_cons_succ]
      refine wpAnyH_done (by kernel_rfl) ?_ _
      have hS0 : Solv w (wq.alloc (.cells #[.int .i64 N, .slice a n c, .slice (some ⟨gm, 0, none⟩) N N, .slice (some ⟨gb, 0, none⟩) N N] 127)) wq.heap.size gm gb N a n c f (fun _ => 0) (fun _ => -1) := ⟨Blk.new _ _ _, hZ.alloc _, hB.alloc _, by have := hmw.below.size; have := hmq.below.size; omega, by have := hZ.lt; have := hB.lt; omega, hr, ((hmw.trans hmq).alloc _).below⟩
      have hSg : wq.heap.size + 1 = (wq.alloc (.cells #[.int .i64 N, .slice a n c, .slice (some ⟨gm, 0, none⟩) N N, .slice (some ⟨gb, 0, none⟩) N N] 127)).heap.size := by simp
      have hgq0 := (more_cell (i := 0) hmq hgl).trans hg0
      have hgq1 := (more_cell (i := 1) hmq hgl).trans hg1
      have hgqs := (hmq.alloc (.cells #[.int .i64 N, .slice a n c, .slice (some ⟨gm, 0, none⟩) N N, .slice (some ⟨gb, 0, none⟩) N N] 127)).below.size
      have hgq0' := (more_cell (i := 0) (hmq.alloc (.cells #[.int .i64 N, .slice a n c, .slice (some ⟨gm, 0, none⟩) N N, .slice (some ⟨gb, 0, none⟩) N N] 127)) hgl).trans hg0
      have hgq1' := (more_cell (i := 1) (hmq.alloc (.cells #[.int .i64 N, .slice a n c, .slice (some ⟨gm, 0, none⟩) N N, .slice (some ⟨gb, 0, none⟩) N N] 127)) hgl).trans hg1
      clear hHeld hgq0 hgq1 hZ hB hx hSg hg0 hg1 hmq hmw
      generalize wq.alloc (.cells #[.int .i64 N, .slice a n c, .slice (some ⟨gm, 0, none⟩) N N, .slice (some ⟨gb, 0, none⟩) N N] 127) = wx at *
      generalize wq.heap.size = S at *
      go_wp2_with fail
      have HMB0 : Hid (MB N 0 (fun _ => 0)) := fun v _ => ⟨Int.le_refl _, Int.le_refl _⟩
      go_loopw [5, 19] (fun l i wr => ∃ (t : Nat) (s : PSt), l = .int .i64 s.L ∧ i = .int .i64 t ∧ t ≤ N + 1 ∧ Hid (Solv w wr S gm gb N a n c f s.M s.B) ∧ Hid (MB N (5033164800 * t) s.M) ∧ Hid (solveAt f n (N + 1 - t) s = solved f n N)) (fun _ i _ => N + 1 - (intOf i).toNat)
      case atStart => exact ⟨0, Go.Tide.start, rfl, rfl, by omega, hS0, HMB0, rfl⟩
      case round =>
        obtain ⟨t, s, rfl, rfl, ht, hS, hMB, hso⟩ := hrel
        by_cases hlt : t < N + 1
        · have t1 : (t : Int) < (N : Int) + 1 := by omega
          have hst := solve_step (show t ≤ N by omega) hso.out
          have HST := Lib.hid hst
          have hMB2 := rnd_mb (s := s) HG.out hMB.out (by omega)
          have HMB2 := Lib.hid hMB2
          have HL : Hid (-1 ≤ (rnd f n s).L ∧ (rnd f n s).L < N) := pass_L HG.out (s := ⟨s.M, s.B, -1⟩) (by simp; omega) n (Nat.le_refl _)
          have hrnd : pass f n ⟨s.M, s.B, -1⟩ = rnd f n s := rfl
          clear hst hMB2
          by_cases hneg : (rnd f n s).L < 0
          · have d1 : decide ((rnd f n s).L < 0) = true := by simpa using hneg
            have HF : Hid (rnd f n s = solved f n N) := HST.out.1 hneg
            go_wp2_with (refine (round_any w _ S gm gb N a n c f s.M s.B (5033164800 * t) hS.out HG.out (by omega) hMB.out).mono ?_; rintro e w8 ⟨rfl, hS8⟩; rw [hrnd] at hS8 ⊢)
            go_ret2
            exact ⟨S, gm, gb, by rw [← HF.out]; rfl, by rw [← HF.out]; exact hS8⟩
          · have d1 : decide ((rnd f n s).L < 0) = false := by simpa using hneg
            have HF : Hid (solveAt f n (N + 1 - (t + 1)) (rnd f n s) = solved f n N) := HST.out.2 hneg
            have HM9 : Hid (MB N (5033164800 * ((t + 1 : Nat) : Int)) (rnd f n s).M) := by
              have := HMB2.out
              rw [show (5033164800 : Int) * ((t + 1 : Nat) : Int) = 5033164800 * t + 5033164800 from by omega]
              exact this
            go_wp2_with (refine (round_any w _ S gm gb N a n c f s.M s.B (5033164800 * t) hS.out HG.out (by omega) hMB.out).mono ?_; rintro e w8 ⟨rfl, hS8⟩; rw [hrnd] at hS8 ⊢)
            have hS9 : Hid (Solv w w8 S gm gb N a n c f (rnd f n s).M (rnd f n s).B) := hS8
            clear hS8
            go_roundw
            case rel => exact ⟨t + 1, rnd f n s, rfl, by go_num, by omega, hS9, HM9, HF⟩
            case measure => simp [intOf]; omega
        · obtain rfl : t = N + 1 := by omega
          go_wp2
          go_ret2
          exact ⟨S, gm, gb, by rw [← hso.out]; simp [solveAt], by have h1 := hso.out; simp [solveAt] at h1; rw [← h1]; exact hS.out⟩
end Go.Proofs.YtgmljgcmfooniaaGreatDoor
/- PotM -/
set_option linter.unusedVariables false
set_option linter.unusedSimpArgs false
namespace Go.Tide
/-- Edges x 0 .. x (m - 1), each of which begins where the one ahead ends. -/
def WalkOk (n : Nat) (f : Nat → Nat → Int) (m : Nat) (x : Nat → Int) : Prop := ∀ k, k < m → 0 ≤ x k ∧ x k < n ∧ (0 < k → f (x (k - 1)).toNat 1 = f (x k).toNat 0)
def wSum (f : Nat → Nat → Int) (x : Nat → Int) : Nat → Int
  | 0 => 0
  | m + 1 => wSum f x m + f (x m).toNat 2
theorem wSum_bound {N : Int} {n : Nat} {f : Nat → Nat → Int} {x : Nat → Int} (hG : GRight N n f) : ∀ m, (∀ k, k < m → 0 ≤ x k ∧ x k < n) → -(1048576 * (m : Int)) ≤ wSum f x m ∧ wSum f x m ≤ 1048576 * m := by
  intro m
  induction m with
  | zero => intro _; simp [wSum]
  | succ m ih =>
    intro h
    have h1 := ih fun k hk => h k (by omega)
    have h2 := h m (by omega)
    have h3 := hG.2.2.2 (x m).toNat (by omega)
    show _ ≤ wSum f x m + f (x m).toNat 2 ∧ wSum f x m + f (x m).toNat 2 ≤ _
    omega
end Go.Tide
namespace Go.Proofs.YtgmljgcmfooniaaGreatDoor
open Go.RowKit Go.Tide
set_option linter.unusedVariables false
set_option linter.unusedSimpArgs false
theorem Solv.below_ {w w' : World} {S gm gb N : Nat} {a : Option Addr} {n c : Nat} {f : Nat → Nat → Int} {M B : Nat → Int} (h : Solv w w' S gm gb N a n c f M B) : Below w.heap.size w w' := h.below
theorem Solv.mostRow {w0 w : World} {S gm gb N : Nat} {a : Option Addr} {n c : Nat} {f : Nat → Nat → Int} {M B : Nat → Int} (h : Solv w0 w S gm gb N a n c f M B) : Row w (some ⟨gm, 0, none⟩) N M :=
  fun _ => ⟨gm, 0, rfl, h.most.lt, fun k hk => by rw [Nat.zero_add]; exact h.mostAt hk⟩
set_option maxRecDepth 20000 in
set_option maxHeartbeats 2000000 in
theorem most_bad (N : Int) (a : Option Addr) (n c : Nat) (f : Nat → Nat → Int) (w : World) (hf : RowC w 3 a n f) (hn : n ≤ 1152921504606846976) (hG : ¬ GRight N n f) :
    Calls Tryz.prog 37 #[.agg #[.int .i64 N, .slice a n c]] w fun e w' => e = .returned (.tuple #[.slice none 0 0, .int .i64 2]) ∧ Below w.heap.size w w' := by
  have HG := Lib.hid hG
  go_enter Tryz.func37, Tryz.ntmps37
  go_wp2_with (refine (pwrong_any N a n c f _ (by repeat (first | (with_reducible assumption) | (with_reducible exact RowC.nil) | (with_reducible apply RowC.drewN) | (with_reducible apply RowC.drew) | (with_reducible apply RowC.more) | (with_reducible apply RowC.alloc))) hn).mono ?_; rintro e w1 ⟨rfl, os1, d1, rfl⟩; rw [gWrong_bad HG.out])
  go_ret2
  exact ⟨rfl, (More.below (by repeat (first | (with_reducible assumption) | (with_reducible exact More.refl _) | (with_reducible refine More.alloc ?_ _) | (with_reducible refine More.more ?_ _ _) | (with_reducible refine More.drewN ?_ _) | (with_reducible refine More.drew ?_))))⟩
set_option maxRecDepth 20000 in
set_option maxHeartbeats 2000000 in
theorem most_any (N : Nat) (a : Option Addr) (n c : Nat) (f : Nat → Nat → Int) (w : World) (hf : RowC w 3 a n f) (hG : GRight N n f) :
    Calls Tryz.prog 37 #[.agg #[.int .i64 N, .slice a n c]] w fun e w' => ((0 ≤ (solved f n N).L ∧ e = .returned (.tuple #[.slice none 0 0, .int .i64 3])) ∨ ((solved f n N).L < 0 ∧ ∃ g, e = .returned (.tuple #[.slice (some ⟨g, 0, none⟩) N N, .int .i64 0]) ∧ w.heap.size ≤ g ∧ Row w' (some ⟨g, 0, none⟩) N (solved f n N).M)) ∧ Below w.heap.size w w' := by
  have HG := Lib.hid hG
  have hn := hG.2.2.1
  have hmw : More w (w.alloc (.cells #[.int .i64 N, .slice a n c] 80)) := (More.refl w).alloc _
  by_cases hneg : (solved f n N).L < 0
  · have HN := Lib.hid hneg
    have d1 : decide (0 ≤ (solved f n N).L) = false := by simp; omega
    clear hneg
    go_enter Tryz.func37, Tryz.ntmps37
    go_wp2_with (refine (pwrong_any N a n c f _ (by repeat (first | (with_reducible assumption) | (with_reducible exact RowC.nil) | (with_reducible apply RowC.drewN) | (with_reducible apply RowC.drew) | (with_reducible apply RowC.more) | (with_reducible apply RowC.alloc))) (by omega)).mono ?_; rintro e w1 ⟨rfl, os1, d1, rfl⟩; rw [gWrong_ok HG.out])
    refine (solve_any _ N a n c f (by repeat (first | (with_reducible assumption) | (with_reducible exact RowC.nil) | (with_reducible apply RowC.drewN) | (with_reducible apply RowC.drew) | (with_reducible apply RowC.more) | (with_reducible apply RowC.alloc))) HG.out).mono ?_
    rintro e w2 ⟨S, gm, gb, rfl, hS⟩
    have hbS := hS.solver
    have hc2 := hbS.cell 2
    simp at hc2
    go_wp2
    go_ret2
    exact ⟨.inr ⟨HN.out, gm, rfl, by have := hS.ns.2.1; simp at this; omega, hS.mostRow⟩, below_then (More.below (by repeat (first | (with_reducible assumption) | (with_reducible exact More.refl _) | (with_reducible refine More.alloc ?_ _) | (with_reducible refine More.more ?_ _ _) | (with_reducible refine More.drewN ?_ _) | (with_reducible refine More.drew ?_)))) (by simp; omega) (More.of_below hS.below)⟩
  · have HN := Lib.hid hneg
    have d1 : decide (0 ≤ (solved f n N).L) = true := by simp; omega
    clear hneg
    go_enter Tryz.func37, Tryz.ntmps37
    go_wp2_with (refine (pwrong_any N a n c f _ (by repeat (first | (with_reducible assumption) | (with_reducible exact RowC.nil) | (with_reducible apply RowC.drewN) | (with_reducible apply RowC.drew) | (with_reducible apply RowC.more) | (with_reducible apply RowC.alloc))) (by omega)).mono ?_; rintro e w1 ⟨rfl, os1, d1, rfl⟩; rw [gWrong_ok HG.out])
    refine (solve_any _ N a n c f (by repeat (first | (with_reducible assumption) | (with_reducible exact RowC.nil) | (with_reducible apply RowC.drewN) | (with_reducible apply RowC.drew) | (with_reducible apply RowC.more) | (with_reducible apply RowC.alloc))) HG.out).mono ?_
    rintro e w2 ⟨S, gm, gb, rfl, hS⟩
    have hbS := hS.solver
    have hc2 := hbS.cell 2
    simp at hc2
    go_wp2
    go_ret2
    exact ⟨.inl ⟨by have := HN.out; omega, rfl⟩, below_then (More.below (by repeat (first | (with_reducible assumption) | (with_reducible exact More.refl _) | (with_reducible refine More.alloc ?_ _) | (with_reducible refine More.more ?_ _ _) | (with_reducible refine More.drewN ?_ _) | (with_reducible refine More.drew ?_)))) (by simp; omega) (More.of_below hS.below)⟩
end Go.Proofs.YtgmljgcmfooniaaGreatDoor
/- PotC -/
set_option linter.unusedVariables false
set_option linter.unusedSimpArgs false
namespace Go.Tide
/-- The node ahead of v. -/
def back (f : Nat → Nat → Int) (B : Nat → Int) (v : Nat) : Nat := (f (B v).toNat 0).toNat
def backs (f : Nat → Nat → Int) (B : Nat → Int) : Nat → Nat → Nat
  | 0, v => v
  | i + 1, v => back f B (backs f B i v)
theorem backs_add (f : Nat → Nat → Int) (B : Nat → Int) (i j v : Nat) : backs f B (i + j) v = backs f B i (backs f B j v) := by
  induction i with
  | zero => rw [Nat.zero_add]; rfl
  | succ i ih => rw [show i + 1 + j = (i + j) + 1 from by omega]; show back f B (backs f B (i + j) v) = back f B (backs f B i (backs f B j v)); rw [ih]
end Go.Tide
namespace Go.Proofs.YtgmljgcmfooniaaGreatDoor
open Go.RowKit Go.Tide
set_option linter.unusedVariables false
set_option linter.unusedSimpArgs false
theorem ownsRow_frozen {w : World} {base : Nat} {e : TypeId} {g n cap : Nat} {xs : List Value} (h : w.ownsRow base e 1 (.slice (some ⟨g, 0, none⟩) n cap) n xs) (k : Nat) : w.frozen? ⟨g, k, none⟩ = false := by
  rcases h.2 with ⟨hv, _⟩ | ⟨g', cap', cur, hv, hb, hg, hc, hm, hs, ht⟩
  · cases hv
  · injection hv with h1 h2 h3
    injection h1 with h1
    injection h1 with h4 h5
    subst h4 h3
    simp [World.frozen?, hg]
set_option maxRecDepth 20000 in
set_option maxHeartbeats 2000000 in
theorem cycle_bad (N : Int) (a : Option Addr) (n c : Nat) (f : Nat → Nat → Int) (w : World) (hf : RowC w 3 a n f) (hn : n ≤ 1152921504606846976) (hG : ¬ GRight N n f) :
    Calls Tryz.prog 38 #[.agg #[.int .i64 N, .slice a n c]] w fun e w' => e = .returned (.tuple #[.slice none 0 0, .int .i64 2]) ∧ Below w.heap.size w w' := by
  have HG := Lib.hid hG
  go_enter Tryz.func38, Tryz.ntmps38
  go_wp2_with (refine (pwrong_any N a n c f _ (by repeat (first | (with_reducible assumption) | (with_reducible exact RowC.nil) | (with_reducible apply RowC.drewN) | (with_reducible apply RowC.drew) | (with_reducible apply RowC.more) | (with_reducible apply RowC.alloc))) hn).mono ?_; rintro e w1 ⟨rfl, os1, d1, rfl⟩; rw [gWrong_bad HG.out])
  go_ret2
  exact ⟨rfl, (More.below (by repeat (first | (with_reducible assumption) | (with_reducible exact More.refl _) | (with_reducible refine More.alloc ?_ _) | (with_reducible refine More.more ?_ _ _) | (with_reducible refine More.drewN ?_ _) | (with_reducible refine More.drew ?_))))⟩
set_option maxRecDepth 20000 in
set_option maxHeartbeats 2000000 in
theorem cycle_none (N : Nat) (a : Option Addr) (n c : Nat) (f : Nat → Nat → Int) (w : World) (hf : RowC w 3 a n f) (hG : GRight N n f) (hneg : (solved f n N).L < 0) :
    Calls Tryz.prog 38 #[.agg #[.int .i64 N, .slice a n c]] w fun e w' => e = .returned (.tuple #[.slice none 0 0, .int .i64 3]) ∧ Below w.heap.size w w' := by
  have HG := Lib.hid hG
  have hn := hG.2.2.1
  have hmw : More w (w.alloc (.cells #[.int .i64 N, .slice a n c] 80)) := (More.refl w).alloc _
  have HN := Lib.hid hneg
  have d1 : decide ((solved f n N).L < 0) = true := by simpa using hneg
  clear hneg
  go_enter Tryz.func38, Tryz.ntmps38
  go_wp2_with (refine (pwrong_any N a n c f _ (by repeat (first | (with_reducible assumption) | (with_reducible exact RowC.nil) | (with_reducible apply RowC.drewN) | (with_reducible apply RowC.drew) | (with_reducible apply RowC.more) | (with_reducible apply RowC.alloc))) (by omega)).mono ?_; rintro e w1 ⟨rfl, os1, d1, rfl⟩; rw [gWrong_ok HG.out])
  refine (solve_any _ N a n c f (by repeat (first | (with_reducible assumption) | (with_reducible exact RowC.nil) | (with_reducible apply RowC.drewN) | (with_reducible apply RowC.drew) | (with_reducible apply RowC.more) | (with_reducible apply RowC.alloc))) HG.out).mono ?_
  rintro e w2 ⟨S, gm, gb, rfl, hS⟩
  go_wp2
  go_ret2
  exact ⟨rfl, below_then (More.below (by repeat (first | (with_reducible assumption) | (with_reducible exact More.refl _) | (with_reducible refine More.alloc ?_ _) | (with_reducible refine More.more ?_ _ _) | (with_reducible refine More.drewN ?_ _) | (with_reducible refine More.drew ?_)))) (by simp; omega) (More.of_below hS.below)⟩
set_option maxRecDepth 20000 in
set_option maxHeartbeats 4000000 in
theorem cycle_any (N : Nat) (a : Option Addr) (n c : Nat) (f : Nat → Nat → Int) (w : World) (hf : RowC w 3 a n f) (hG : GRight N n f) (v m : Nat) (B : Nat → Int) (V : Nat) (hv : (solved f n N).L = v) (hBe : (solved f n N).B = B) (hVe : Hid (backs f B N v = V))
    (H1 : ∀ i, backs f B i v < N ∧ 0 ≤ B (backs f B i v) ∧ B (backs f B i v) < n)
    (hm : 1 ≤ m ∧ m ≤ N) (H2 : backs f B m V = V) (H3 : ∀ i, 0 < i → i < m → backs f B i V ≠ V) :
    Calls Tryz.prog 38 #[.agg #[.int .i64 N, .slice a n c]] w fun e w' => ∃ g c', e = .returned (.tuple #[.slice (some ⟨g, 0, none⟩) m c', .int .i64 0]) ∧ m ≤ c' ∧ Row w' (some ⟨g, 0, none⟩) m (fun k => B (backs f B (m - 1 - k) V)) ∧ Below w.heap.size w w' := by
  have HG := Lib.hid hG
  have hn := hG.2.2.1
  have hN := hG.2.1
  obtain ⟨hm1, hm2⟩ := hm
  obtain ⟨i0, hi, hz0, hz1, hz2⟩ := info_parts intInfo
  have hbg := Blk.new w 80 #[.int .i64 N, .slice a n c]
  have HH1 := Lib.hid H1
  have HH2 := Lib.hid H2
  have HH3 := Lib.hid H3
  have d1 : decide ((v : Int) < 0) = false := by simp
  clear H1 H2 H3
  go_enter Tryz.func38, Tryz.ntmps38
  go_wp2_with (refine (pwrong_any N a n c f _ (by repeat (first | (with_reducible assumption) | (with_reducible exact RowC.nil) | (with_reducible apply RowC.drewN) | (with_reducible apply RowC.drew) | (with_reducible apply RowC.more) | (with_reducible apply RowC.alloc))) (by omega)).mono ?_; rintro e w1 ⟨rfl, os1, d1, rfl⟩; rw [gWrong_ok HG.out])
  refine (solve_any _ N a n c f (by repeat (first | (with_reducible assumption) | (with_reducible exact RowC.nil) | (with_reducible apply RowC.drewN) | (with_reducible apply RowC.drew) | (with_reducible apply RowC.more) | (with_reducible apply RowC.alloc))) HG.out).mono ?_
  rintro e w2 ⟨S, gm, gb, rfl, hS⟩
  rw [hv]
  rw [hBe] at hS
  have hbz : Below w.heap.size w w2 := below_then (More.below (by repeat (first | (with_reducible assumption) | (with_reducible exact More.refl _) | (with_reducible refine More.alloc ?_ _) | (with_reducible refine More.more ?_ _ _) | (with_reducible refine More.drewN ?_ _) | (with_reducible refine More.drew ?_)))) (by simp; omega) (More.of_below hS.below)
  have hbq := (hbg.more os1 d1).below hS.below (hbg.more os1 d1).lt
  have hfq : RowC w2 3 a n f := hS.row
  clear hbg
  generalize (w.alloc (.cells #[.int .i64 N, .slice a n c] 80)).more os1 d1 = wz at *
  have HB := Lib.hid hbz
  clear hbz hf
  generalize hGe : w.heap.size = G at hbq ⊢
  have hgl := hbq.lt
  have hg0 := hbq.cell 0
  have hg1 := hbq.cell 1
  simp at hg0 hg1
  have hbS := hS.solver
  have hs3 := hbS.cell 3
  simp at hs3
  have hSl := hbS.lt
  have hbl := hS.by_.lt
  have HBY : Hid (∀ j, j < N → w2.cell? ⟨gb, j, none⟩ = some (.int .i64 (B j))) := fun j hj => hS.byAt hj
  clear hBe
  have HGl : Hid (w.heap.size ≤ w2.heap.size) := HB.out.size
  clear hbq hbS hS hGe
  go_wp2_with fail
  go_loopw [6, 23] (fun t i wr => ∃ (k d : Nat), t = .int .i64 (backs f B k v : Nat) ∧ i = .int .i64 k ∧ k ≤ N ∧ wr = w2.drewN d) (fun _ i _ => N - (intOf i).toNat)
  case atStart => exact ⟨0, 0, rfl, rfl, Nat.zero_le _, rfl⟩
  case round =>
    obtain ⟨k, d, rfl, rfl, hk, rfl⟩ := hrel
    by_cases hlt : k < N
    · have h1 := HH1.out k
      have h2 := HBY.out _ h1.1
      have HN : Hid ((backs f B (k + 1) v : Nat) = back f B (backs f B k v)) := rfl
      unfold back at HN
      obtain ⟨V0, hV0⟩ : ∃ V0, Hid (backs f B k v = V0) := ⟨_, rfl⟩
      rw [hV0.out] at HN h1 h2 ⊢
      obtain ⟨E, hE0⟩ : ∃ J : Nat, B V0 = J := ⟨(B V0).toNat, by omega⟩
      rw [hE0] at HN h2 h1
      clear hE0
      rw [Int.toNat_natCast] at HN
      have hE : E < n := by omega
      obtain ⟨h10, h11, h12⟩ := h1
      obtain ⟨b, off, x0, x1, x2, rfl, hb, hc0, hc1, hc2, e0, e1, e2⟩ := hfq.at3 hE
      rw [← e0.out] at HN
      have hx0 := (HG.out.2.2.2 E hE).1
      rw [← e0.out] at hx0
      obtain ⟨X, rfl⟩ : ∃ J : Nat, x0 = J := ⟨x0.toNat, by omega⟩
      rw [Int.toNat_natCast] at HN
      have t1 : (k : Int) < (N : Int) := by omega
      have j1 : (V0 : Int) < (N : Int) := by omega
      have j0 : (0 : Int) ≤ (V0 : Int) := by omega
      have j2 : (0 : Int) ≤ (E : Int) := by omega
      go_wp2_with fail
      go_quiet (fail)
      go_wp2
      go_roundw
      case rel => exact ⟨k + 1, _, by rw [HN.out], by go_num, by omega, rfl⟩
      case measure => simp [intOf]; omega
    · obtain rfl : k = N := by omega
      clear hlt hk
      have HV : Hid (∀ i, backs f B i V < k ∧ 0 ≤ B (backs f B i V) ∧ B (backs f B i V) < n) := fun i => by
        have := HH1.out (i + k)
        rwa [backs_add, hVe.out] at this
      rw [hVe.out]
      clear HH1
      have hq0 : Hid (∀ j, j < k → (w2.drewN d).cell? ⟨gb, j, none⟩ = some (.int .i64 (B j))) := HBY
      have hq1 : (w2.drewN d).cell? ⟨G, 1, none⟩ = some (.slice a n c) := hg1
      have hq2 : (w2.drewN d).cell? ⟨S, 3, none⟩ = some (.slice (some ⟨gb, 0, none⟩) k k) := hs3
      have hfd : RowC (w2.drewN d) 3 a n f := hfq.drewN d
      have hgl' : G < (w2.drewN d).heap.size := hgl
      have hSl' : S < (w2.drewN d).heap.size := hSl
      have hbl' : gb < (w2.drewN d).heap.size := hbl
      have HBz : Hid (Below w.heap.size w (w2.drewN d)) := HB.out.drewN d
      have HGz : Hid (w.heap.size ≤ (w2.drewN d).heap.size) := HGl
      clear hg0 hg1 hs3 hfq hgl hSl hbl HB HGl HBY
      generalize w2.drewN d = wq at *
      go_wp2_with fail
      go_loopw [7, 8] (fun out t wr => ∃ k2 : Nat, t = .int .i64 (backs f B k2 V : Nat) ∧ k2 ≤ m ∧ wr.ownsRow wq.heap.size 3 1 out k2 (cellsOf k2 (fun i => B (backs f B i V))) ∧ Below wq.heap.size wq wr) (fun out _ _ => match out with | .slice _ n _ => m - n | _ => 0)
      case atStart => exact ⟨0, rfl, Nat.zero_le _, World.ownsRow_nil _ _ _ _, Below.refl _ _⟩
      case round =>
        rename_i out _ _
        obtain ⟨k2, rfl, hk2, hown, hbe⟩ := hrel
        obtain ⟨oa, oc, rfl, hoc⟩ := own_slice hown
        have hsz := hbe.size
        by_cases hlt : k2 < m
        · have h1 := HV.out k2
          have h2 := hq0.out _ h1.1
          have HN : Hid ((backs f B (k2 + 1) V : Nat) = back f B (backs f B k2 V)) := rfl
          unfold back at HN
          have HC : Hid (k2 = 0 ∨ backs f B k2 V ≠ V) := by
            rcases Nat.eq_zero_or_pos k2 with h | h
            · exact .inl h
            · exact .inr (HH3.out k2 h hlt)
          obtain ⟨V2, hV2⟩ : ∃ V2, Hid (backs f B k2 V = V2) := ⟨_, rfl⟩
          rw [hV2.out] at HN h1 h2 HC ⊢
          obtain ⟨h10, h11, h12⟩ := h1
          obtain ⟨E, hE0⟩ : ∃ J : Nat, B V2 = J := ⟨(B V2).toNat, by omega⟩
          have HE0 := Lib.hid hE0
          rw [hE0] at HN h2 h12
          rw [Int.toNat_natCast] at HN
          have hE : E < n := by omega
          clear hE0 h11 h12
          obtain ⟨b, off, x0, x1, x2, rfl, hb, hc0, hc1, hc2, e0, e1, e2⟩ := hfd.at3 hE
          rw [← e0.out] at HN
          have hx0 := (HG.out.2.2.2 E hE).1
          rw [← e0.out] at hx0
          obtain ⟨X, rfl⟩ : ∃ J : Nat, x0 = J := ⟨x0.toNat, by omega⟩
          rw [Int.toNat_natCast] at HN
          have j1 : (V2 : Int) < (k : Int) := by omega
          have j0 : (0 : Int) ≤ (V2 : Int) := by omega
          have j2 : (0 : Int) ≤ (E : Int) := by omega
          have r1 : wr.cell? ⟨gb, V2, none⟩ = some (.int .i64 E) := (hbe.cell (p := ⟨gb, V2, none⟩) hbl').trans h2
          have r2 : wr.cell? ⟨G, 1, none⟩ = some (.slice (some ⟨b, off, none⟩) n c) := (hbe.cell (p := ⟨G, 1, none⟩) hgl').trans hq1
          have r3 : wr.cell? ⟨S, 3, none⟩ = some (.slice (some ⟨gb, 0, none⟩) k k) := (hbe.cell (p := ⟨S, 3, none⟩) hSl').trans hq2
          have r4 : wr.cell? ⟨b, off + E * 3, none⟩ = some (.int .i64 X) := (hbe.cell (p := ⟨b, off + E * 3, none⟩) hb).trans hc0
          by_cases hk0 : k2 = 0
          · have hz : ((k2 : Int) == 0) = true := by simpa using hk0
            go_wp2_with ((at_builtin; refine wpList_append_own _ rfl _ _ 49 rfl _ 3 i0 (.int .i64 0) 1 8 Tryz.underlying49 hi hz0 hz1 hz2 rfl (by decide) _ _ _ rfl (hown.alloc _) _ _ _ [.int .i64 _] rfl rfl (cell_one _ _ _) (oneCell_int _ _) (by simp only [maxLen]; omega) (by omega) (by simp; omega) ?_; intro v' w1 hown' hgrow hnil; clear hnil); have hbe' := below_append hbe hsz hown hgrow; have s1 := (hbe'.cell (p := ⟨gb, V2, none⟩) hbl').trans h2; have s2 := (hbe'.cell (p := ⟨G, 1, none⟩) hgl').trans hq1; have s3 := (hbe'.cell (p := ⟨S, 3, none⟩) hSl').trans hq2; have s4 := (hbe'.cell (p := ⟨b, off + E * 3, none⟩) hb).trans hc0)
            go_quiet (fail)
            go_wp2
            go_roundw
            case rel =>
              refine ⟨k2 + 1, by rw [HN.out], by omega, ?_, hbe'.drewN _⟩
              rw [cellsOf_succ, hV2.out, HE0.out]
              exact own_drewN hown' _
            case measure => (try obtain ⟨ao, co, rfl, hco⟩ := own_slice hown'); simp; omega
          · have hz : ((k2 : Int) == 0) = false := by simpa using hk0
            have hne : ((V2 : Int) != (V : Int)) = true := by
              have := HC.out
              simp
              omega
            go_wp2_with ((at_builtin; refine wpList_append_own _ rfl _ _ 49 rfl _ 3 i0 (.int .i64 0) 1 8 Tryz.underlying49 hi hz0 hz1 hz2 rfl (by decide) _ _ _ rfl (hown.alloc _) _ _ _ [.int .i64 _] rfl rfl (cell_one _ _ _) (oneCell_int _ _) (by simp only [maxLen]; omega) (by omega) (by simp; omega) ?_; intro v' w1 hown' hgrow hnil; clear hnil); have hbe' := below_append hbe hsz hown hgrow; have s1 := (hbe'.cell (p := ⟨gb, V2, none⟩) hbl').trans h2; have s2 := (hbe'.cell (p := ⟨G, 1, none⟩) hgl').trans hq1; have s3 := (hbe'.cell (p := ⟨S, 3, none⟩) hSl').trans hq2; have s4 := (hbe'.cell (p := ⟨b, off + E * 3, none⟩) hb).trans hc0)
            go_quiet (fail)
            go_wp2
            go_roundw
            case rel =>
              refine ⟨k2 + 1, by rw [HN.out], by omega, ?_, hbe'.drewN _⟩
              rw [cellsOf_succ, hV2.out, HE0.out]
              exact own_drewN hown' _
            case measure => (try obtain ⟨ao, co, rfl, hco⟩ := own_slice hown'); simp; omega
        · obtain rfl : k2 = m := by omega
          have h1 := HH2.out
          have z0 : ((k2 : Int) == 0) = false := by simp; omega
          have z1 : ((V : Int) != (V : Int)) = false := by simp
          rw [h1]
          obtain ⟨g, cap, hv', hcap, hglt⟩ := hown.form (by omega)
          obtain ⟨rfl, rfl⟩ : oa = some ⟨g, 0, none⟩ ∧ oc = cap := by
            injection hv' with e1 e2 e3
            exact ⟨e1, e3⟩
          have hcc : Hid (∀ j, j < k2 → wr.cell? ⟨g, 0 + j, none⟩ = some (.int .i64 (B (backs f B j V)))) := fun j hj => by
            have := hown.cells (g := g) rfl j _ (cellsOf_get _ hj)
            rwa [Addr.add_lit] at this
          have hff : Hid (∀ j, wr.frozen? ⟨g, j, none⟩ = false) := fun j => ownsRow_frozen hown j
          have hgB : wq.heap.size ≤ g := hcap
          go_wp2_with fail
          refine (reverse_any wq.heap.size g 0 k2 _ (fun i => B (backs f B i V)) _ (by omega) hcc.out hff.out hgB hglt).mono ?_
          rintro e w9 ⟨rfl, hcr, hb9, hg9⟩
          go_wp2
          go_ret2
          exact ⟨g, _, rfl, hoc, fun _ => ⟨g, 0, rfl, hg9, hcr⟩, HBz.out.trans ((hbe.trans hb9).mono HGz.out)⟩
end Go.Proofs.YtgmljgcmfooniaaGreatDoor
/- PotBF -/
set_option linter.unusedVariables false
set_option linter.unusedSimpArgs false
namespace Go.Tide
theorem pigeon : ∀ (N : Nat) (g : Nat → Nat), (∀ i, i ≤ N → g i < N) → ∃ i j, i < j ∧ j ≤ N ∧ g i = g j := by
  intro N
  induction N with
  | zero => intro g h; exact absurd (h 0 (Nat.le_refl _)) (by omega)
  | succ N ih =>
    intro g h
    by_cases hx : ∃ i, i ≤ N ∧ g i = g (N + 1)
    · obtain ⟨i, hi, e⟩ := hx
      exact ⟨i, N + 1, by omega, Nat.le_refl _, e⟩
    · have hne : ∀ i, i ≤ N → g i ≠ g (N + 1) := fun i hi e => hx ⟨i, hi, e⟩
      have hb := h (N + 1) (Nat.le_refl _)
      obtain ⟨i, j, hij, hj, e⟩ := ih (fun i => if g i < g (N + 1) then g i else g i - 1) (fun i hi => by
        have h1 := h i (by omega)
        have h2 := hne i hi
        show (if g i < g (N + 1) then g i else g i - 1) < N
        split <;> omega)
      refine ⟨i, j, hij, by omega, ?_⟩
      have h1 := hne i (by omega)
      have h2 := hne j (by omega)
      split at e <;> split at e <;> omega
theorem least_of {P : Nat → Prop} {N : Nat} : ∀ m, 1 ≤ m → m ≤ N → P m → ∃ m, 1 ≤ m ∧ m ≤ N ∧ P m ∧ ∀ i, 0 < i → i < m → ¬ P i := by
  intro m
  induction m using Nat.strongRecOn with
  | _ m ih =>
    intro h1 h2 h3
    by_cases hx : ∃ i, 0 < i ∧ i < m ∧ P i
    · obtain ⟨i, a, b, c⟩ := hx
      exact ih i b a (by omega) c
    · exact ⟨m, h1, h2, h3, fun i a b c => hx ⟨i, a, b, c⟩⟩

/-- What is known of a solver's state in round r, behind k edges: T is the round in which a node became more at last, t the time. -/
structure Inv (f : Nat → Nat → Int) (n r k : Nat) (s : PSt) (T t : Nat → Nat) (z : Nat) : Prop where
  rounds : ∀ v, T v ≤ r
  times : ∀ v, t v ≤ z
  none_ : ∀ v, t v = 0 → T v = 0 ∧ s.M v = 0
  some_ : ∀ v, 0 < t v → ∃ j : Nat, j < n ∧ s.B v = j ∧ f j 1 = v ∧ T v ≤ T (f j 0).toNat + 1 ∧ s.M v ≤ s.M (f j 0).toNat + f j 2 ∧ ((t v < t (f j 0).toNat ∨ (f j 0).toNat = v) → s.M v < s.M (f j 0).toNat + f j 2)
  apart : ∀ u v, 0 < t u → t u = t v → u = v
  tight : ∀ j, j < n → s.M (f j 0).toNat + f j 2 ≤ s.M (f j 1).toNat ∨ (r ≤ T (f j 0).toNat ∨ (k ≤ j ∧ r ≤ T (f j 0).toNat + 1))
  last : 0 ≤ s.L → T s.L.toNat = r
def putN (f : Nat → Nat) (j v : Nat) (k : Nat) : Nat := if k = j then v else f k
theorem putN_same (f : Nat → Nat) (j v : Nat) : putN f j v j = v := by simp [putN]
theorem putN_ne (f : Nat → Nat) {j k : Nat} (v : Nat) (h : k ≠ j) : putN f j v k = f k := by simp [putN, h]
theorem inv_relax {N : Int} {f : Nat → Nat → Int} {n r k z : Nat} {s : PSt} {T t : Nat → Nat} (hG : GRight N n f) (hr : 1 ≤ r) (hk : k < n) (h : Inv f n r k s T t z) :
    ∃ T' t' z', Inv f n r (k + 1) (relax f k s) T' t' z' := by
  have hf := hG.2.2.2 k hk
  unfold relax
  by_cases hc : s.M (f k 1).toNat < s.M (f k 0).toNat + f k 2
  · rw [if_pos hc]
    obtain ⟨v, hv⟩ : ∃ v, (f k 1).toNat = v := ⟨_, rfl⟩
    obtain ⟨u, hu⟩ : ∃ u, (f k 0).toNat = u := ⟨_, rfl⟩
    have hv1 : f k 1 = v := by omega
    have hu1 : f k 0 = u := by omega
    rw [hv, hu] at hc ⊢
    have ht := h.tight k hk
    rw [hv, hu] at ht
    have htu : r ≤ T u + 1 := by omega
    refine ⟨putN T v r, putN t v (z + 1), z + 1, ?_, ?_, ?_, ?_, ?_, ?_, ?_⟩
    · intro y
      have := h.rounds y
      unfold putN
      split <;> omega
    · intro y
      have := h.times y
      unfold putN
      split <;> omega
    · intro y hy
      by_cases e : y = v
      · subst e; rw [putN_same] at hy; omega
      · rw [putN_ne _ _ e] at hy ⊢
        show T y = 0 ∧ putAt s.M v _ y = 0
        rw [putAt_ne _ _ e]
        exact h.none_ y hy
    · intro y hy
      by_cases e : y = v
      · subst e
        refine ⟨k, hk, putAt_same _ _ _, hv1, ?_, ?_, ?_⟩
        · rw [hu, putN_same]
          by_cases e2 : u = y
          · rw [e2, putN_same]; omega
          · rw [putN_ne _ _ e2]; exact htu
        · rw [hu]
          show putAt s.M y _ y ≤ putAt s.M y _ u + _
          rw [putAt_same]
          by_cases e2 : u = y
          · rw [e2, putAt_same]; rw [e2] at hc; omega
          · rw [putAt_ne _ _ e2]; omega
        · rw [hu]
          intro hs
          show putAt s.M y _ y < putAt s.M y _ u + _
          rw [putAt_same]
          by_cases e2 : u = y
          · rw [e2, putAt_same]; rw [e2] at hc; omega
          · rw [putN_same, putN_ne _ _ e2] at hs
            have := h.times u
            omega
      · rw [putN_ne _ _ e] at hy ⊢
        obtain ⟨j, hj, h1, h2, h3, h4, h5⟩ := h.some_ y hy
        refine ⟨j, hj, by rw [← h1]; exact putAt_ne _ _ e, h2, ?_, ?_, ?_⟩
        · by_cases e2 : (f j 0).toNat = v
          · rw [e2, putN_same]
            have := h.rounds y
            omega
          · rw [putN_ne _ _ e2]
            exact h3
        · show putAt s.M v _ y ≤ putAt s.M v _ (f j 0).toNat + _
          rw [putAt_ne _ _ e]
          by_cases e2 : (f j 0).toNat = v
          · rw [e2] at h4 ⊢
            rw [putAt_same]; omega
          · rw [putAt_ne _ _ e2]; exact h4
        · intro hs
          show putAt s.M v _ y < putAt s.M v _ (f j 0).toNat + _
          rw [putAt_ne _ _ e]
          by_cases e2 : (f j 0).toNat = v
          · rw [e2] at h4 ⊢
            rw [putAt_same]; omega
          · rw [putAt_ne _ _ e2]
            rw [putN_ne _ _ e, putN_ne _ _ e2] at hs
            exact h5 hs
    · intro x y hx hxy
      by_cases e1 : x = v
      · subst e1
        by_cases e2 : y = x
        · exact e2.symm
        · rw [putN_same, putN_ne _ _ e2] at hxy
          have := h.times y
          omega
      · rw [putN_ne _ _ e1] at hx hxy
        by_cases e2 : y = v
        · subst e2
          rw [putN_same] at hxy
          have := h.times x
          omega
        · rw [putN_ne _ _ e2] at hxy
          exact h.apart x y hx hxy
    · intro j hj
      show putAt s.M v _ (f j 0).toNat + f j 2 ≤ putAt s.M v _ (f j 1).toNat ∨ _
      by_cases e1 : (f j 0).toNat = v
      · right; left
        rw [e1, putN_same]
        exact Nat.le_refl _
      · rw [putAt_ne _ _ e1, putN_ne _ _ e1]
        by_cases ejk : j = k
        · subst ejk
          left
          rw [hu, hv, putAt_same]
          exact Int.le_refl _
        · have ht2 := h.tight j hj
          by_cases e2 : (f j 1).toNat = v
          · rw [e2] at ht2 ⊢
            rw [putAt_same]
            rcases ht2 with ht2 | ht2 | ht2
            · left; omega
            · right; left; exact ht2
            · right; right; exact ⟨by omega, ht2.2⟩
          · rw [putAt_ne _ _ e2]
            rcases ht2 with ht2 | ht2 | ht2
            · left; exact ht2
            · right; left; exact ht2
            · right; right; exact ⟨by omega, ht2.2⟩
    · intro _
      show putN T v r (f k 1).toNat = r
      rw [hv, putN_same]
  · rw [if_neg hc]
    refine ⟨T, t, z, h.rounds, h.times, h.none_, h.some_, h.apart, ?_, h.last⟩
    intro j hj
    by_cases ejk : j = k
    · subst ejk
      left
      omega
    · rcases h.tight j hj with h1 | h1 | h1
      · exact .inl h1
      · exact .inr (.inl h1)
      · exact .inr (.inr ⟨by omega, h1.2⟩)
theorem inv_pass {N : Int} {f : Nat → Nat → Int} {n r z : Nat} {s : PSt} {T t : Nat → Nat} (hG : GRight N n f) (hr : 1 ≤ r) (h : Inv f n r 0 s T t z) : ∀ k, k ≤ n → ∃ T' t' z', Inv f n r k (pass f k s) T' t' z' := by
  intro k
  induction k with
  | zero => intro _; exact ⟨T, t, z, h⟩
  | succ k ih =>
    intro hk
    obtain ⟨T', t', z', h'⟩ := ih (by omega)
    exact inv_relax hG hr (by omega) h'
theorem inv_next {f : Nat → Nat → Int} {n r z : Nat} {s : PSt} {T t : Nat → Nat} (h : Inv f n r n s T t z) : Inv f n (r + 1) 0 ⟨s.M, s.B, -1⟩ T t z :=
  ⟨fun v => by have := h.rounds v; omega, h.times, h.none_, h.some_, h.apart, fun j hj => by
    rcases h.tight j hj with h1 | h1 | h1
    · exact .inl h1
    · exact .inr (.inr ⟨Nat.zero_le _, by omega⟩)
    · omega, fun h => by simp at h⟩
theorem inv_start (f : Nat → Nat → Int) (n : Nat) : Inv f n 1 0 ⟨start.M, start.B, -1⟩ (fun _ => 0) (fun _ => 0) 0 :=
  ⟨fun _ => by simp, fun _ => by simp, fun _ _ => ⟨rfl, rfl⟩, fun v h => by simp at h, fun u v h => by simp at h, fun j _ => .inr (.inr ⟨Nat.zero_le _, by simp⟩), fun h => by simp at h⟩
theorem inv_solve {N : Int} {f : Nat → Nat → Int} {n : Nat} (hG : GRight N n f) : ∀ (q r : Nat) (s : PSt) (T t : Nat → Nat) (z : Nat), 1 ≤ r → Inv f n r 0 ⟨s.M, s.B, -1⟩ T t z →
    ∃ r' T' t' z', Inv f n r' n (solveAt f n (q + 1) s) T' t' z' ∧ (0 ≤ (solveAt f n (q + 1) s).L → r' = r + q) := by
  intro q
  induction q with
  | zero =>
    intro r s T t z hr h
    obtain ⟨T', t', z', h'⟩ := inv_pass hG hr h n (Nat.le_refl _)
    refine ⟨r, T', t', z', ?_, fun _ => rfl⟩
    unfold solveAt
    split
    · exact h'
    · exact h'
  | succ q ih =>
    intro r s T t z hr h
    obtain ⟨T', t', z', h'⟩ := inv_pass hG hr h n (Nat.le_refl _)
    unfold solveAt
    by_cases hc : (rnd f n s).L < 0
    · rw [if_pos hc]
      exact ⟨r, T', t', z', h', fun h0 => by omega⟩
    · rw [if_neg hc]
      obtain ⟨r2, T2, t2, z2, h2, e2⟩ := ih (r + 1) (rnd f n s) T' t' z' (by omega) (inv_next h')
      exact ⟨r2, T2, t2, z2, h2, fun h0 => by have := e2 h0; omega⟩
theorem inv_solved {N : Nat} {f : Nat → Nat → Int} {n : Nat} (hG : GRight N n f) : ∃ r T t z, Inv f n r n (solved f n N) T t z ∧ (0 ≤ (solved f n N).L → r = N + 1) := by
  obtain ⟨r, T, t, z, h, e⟩ := inv_solve hG N 1 start _ _ _ (Nat.le_refl _) (inv_start f n)
  exact ⟨r, T, t, z, h, fun h0 => by have := e h0; omega⟩
/-- Where a round changed nothing, each edge keeps to it. -/
theorem pass_still {N : Int} {f : Nat → Nat → Int} {n : Nat} {s : PSt} (hG : GRight N n f) : ∀ k, k ≤ n → (pass f k s).L < 0 → s.L < 0 → pass f k s = s ∧ ∀ j, j < k → s.M (f j 0).toNat + f j 2 ≤ s.M (f j 1).toNat := by
  intro k
  induction k with
  | zero => intro _ _ _; exact ⟨rfl, fun j hj => absurd hj (by omega)⟩
  | succ k ih =>
    intro hk hL hs
    have hf := hG.2.2.2 k (by omega)
    have e : pass f (k + 1) s = relax f k (pass f k s) := rfl
    rw [e] at hL ⊢
    unfold relax at hL ⊢
    by_cases hc : (pass f k s).M (f k 1).toNat < (pass f k s).M (f k 0).toNat + f k 2
    · rw [if_pos hc] at hL
      simp only at hL
      omega
    · rw [if_neg hc] at hL ⊢
      obtain ⟨h1, h2⟩ := ih (by omega) hL hs
      rw [h1] at hc ⊢
      exact ⟨rfl, fun j hj => by
        rcases Nat.lt_succ_iff_lt_or_eq.1 hj with h | rfl
        · exact h2 j h
        · omega⟩
theorem solve_still {N : Int} {f : Nat → Nat → Int} {n : Nat} (hG : GRight N n f) : ∀ (q : Nat) (s : PSt), (solveAt f n (q + 1) s).L < 0 → ∀ j, j < n → (solveAt f n (q + 1) s).M (f j 0).toNat + f j 2 ≤ (solveAt f n (q + 1) s).M (f j 1).toNat := by
  intro q
  induction q with
  | zero =>
    intro s hL j hj
    have e : solveAt f n (0 + 1) s = rnd f n s := by unfold solveAt; split <;> rfl
    rw [e] at hL ⊢
    obtain ⟨h1, h2⟩ := pass_still (s := ⟨s.M, s.B, -1⟩) hG n (Nat.le_refl _) hL (by simp)
    unfold rnd
    rw [h1]
    exact h2 j hj
  | succ q ih =>
    intro s hL j hj
    unfold solveAt at hL ⊢
    by_cases hc : (rnd f n s).L < 0
    · rw [if_pos hc] at hL ⊢
      obtain ⟨h1, h2⟩ := pass_still (s := ⟨s.M, s.B, -1⟩) hG n (Nat.le_refl _) hL (by simp)
      unfold rnd
      rw [h1]
      exact h2 j hj
    · rw [if_neg hc] at hL ⊢
      exact ih _ hL j hj
theorem solved_still {N : Nat} {f : Nat → Nat → Int} {n : Nat} (hG : GRight N n f) (hL : (solved f n N).L < 0) : ∀ j, j < n → (solved f n N).M (f j 0).toNat + f j 2 ≤ (solved f n N).M (f j 1).toNat := solve_still hG N start hL
/-- Each is 0, or just so much more along some edge. -/
theorem solved_just {N : Nat} {f : Nat → Nat → Int} {n : Nat} (hG : GRight N n f) (hL : (solved f n N).L < 0) (v : Nat) : (solved f n N).M v = 0 ∨ ∃ j, j < n ∧ f j 1 = v ∧ (solved f n N).M v = (solved f n N).M (f j 0).toNat + f j 2 := by
  obtain ⟨r, T, t, z, h, _⟩ := inv_solved hG
  rcases Nat.eq_zero_or_pos (t v) with h0 | h0
  · exact .inl (h.none_ v h0).2
  · obtain ⟨j, hj, h1, h2, _, h4, _⟩ := h.some_ v h0
    have := solved_still hG hL j hj
    rw [h2, Int.toNat_natCast] at this
    exact .inr ⟨j, hj, h2, by omega⟩
theorem solve_mb {N : Nat} {f : Nat → Nat → Int} {n : Nat} (hG : GRight N n f) : ∀ (q : Nat) (s : PSt) (c : Int), 0 ≤ c → MB N c s.M → MB N (c + 5033164800 * q) (solveAt f n q s).M := by
  intro q
  induction q with
  | zero => intro s c _ h; simpa [solveAt] using h
  | succ q ih =>
    intro s c hc h
    have h1 := rnd_mb hG h hc
    unfold solveAt
    split
    · intro v hv
      have := h1 v hv
      omega
    · have h2 := ih _ _ (by omega) h1
      intro v hv
      have := h2 v hv
      omega
theorem solved_mb {N : Nat} {f : Nat → Nat → Int} {n : Nat} (hG : GRight N n f) : MB N 2000000000000 (solved f n N).M := by
  have h := solve_mb hG (N + 1) start 0 (Int.le_refl _) (fun v _ => ⟨Int.le_refl _, Int.le_refl _⟩)
  have := hG.2.1
  intro v hv
  have h1 := h v hv
  unfold solved
  omega
end Go.Tide
/- PotBG -/
set_option linter.unusedVariables false
set_option linter.unusedSimpArgs false
namespace Go.Tide
/-- A way round: m edges by V, all of them right, once round, and they weigh more than nothing. -/
structure Round (N : Nat) (f : Nat → Nat → Int) (n v m V : Nat) (B : Nat → Int) : Prop where
  at_ : backs f B N v = V
  right : ∀ i, backs f B i v < N ∧ 0 ≤ B (backs f B i v) ∧ B (backs f B i v) < n
  many : 1 ≤ m ∧ m ≤ N
  round : backs f B m V = V
  once : ∀ i, 0 < i → i < m → backs f B i V ≠ V
  walk : WalkOk n f m (fun k => B (backs f B (m - 1 - k) V))
  ends : f (B V).toNat 1 = V
  more : 0 < wSum f (fun k => B (backs f B (m - 1 - k) V)) m

theorem backs_T {N : Nat} {f : Nat → Nat → Int} {n z : Nat} {s : PSt} {T t : Nat → Nat} {v : Nat} (hG : GRight N n f) (h : Inv f n (N + 1) n s T t z) (hv : v < N) (hT : T v = N + 1) :
    ∀ i, i ≤ N → backs f s.B i v < N ∧ N + 1 - i ≤ T (backs f s.B i v) := by
  intro i
  induction i with
  | zero => intro _; exact ⟨hv, by show _ ≤ T v; omega⟩
  | succ i ih =>
    intro hi
    obtain ⟨h1, h2⟩ := ih (by omega)
    have ht : 0 < t (backs f s.B i v) := by
      rcases Nat.eq_zero_or_pos (t (backs f s.B i v)) with h0 | h0
      · have := (h.none_ _ h0).1; omega
      · exact h0
    obtain ⟨j, hj, e1, e2, e3, _⟩ := h.some_ _ ht
    have hf := hG.2.2.2 j hj
    have e : backs f s.B (i + 1) v = (f j 0).toNat := by
      show (f (s.B (backs f s.B i v)).toNat 0).toNat = _
      rw [e1, Int.toNat_natCast]
    rw [e]
    exact ⟨by omega, by omega⟩
theorem cycle_round {N : Nat} {f : Nat → Nat → Int} {n : Nat} (hG : GRight N n f) (hL : 0 ≤ (solved f n N).L) : ∃ v m V, (solved f n N).L = (v : Nat) ∧ Round N f n v m V (solved f n N).B := by
  obtain ⟨r, T, t, z, h, hr⟩ := inv_solved hG
  have hr' := hr hL
  subst hr'
  have hlast := h.last hL
  generalize solved f n N = s at *
  obtain ⟨v, hv⟩ : ∃ v : Nat, s.L = v := ⟨s.L.toNat, by omega⟩
  rw [hv, Int.toNat_natCast] at hlast
  have hvt : 0 < t v := by
    rcases Nat.eq_zero_or_pos (t v) with h0 | h0
    · have := (h.none_ _ h0).1; omega
    · exact h0
  have hvN : v < N := by
    obtain ⟨j, hj, e1, e2, _⟩ := h.some_ v hvt
    have := hG.2.2.2 j hj
    omega
  have hT := backs_T hG h hvN hlast
  -- each node on the way back has its edge
  have hnode : ∀ y, y < N → 1 ≤ T y → ∃ j : Nat, j < n ∧ s.B y = j ∧ f j 1 = y ∧ back f s.B y = (f j 0).toNat ∧ s.M y ≤ s.M (back f s.B y) + f j 2 ∧ (t y < t (back f s.B y) ∨ back f s.B y = y → s.M y < s.M (back f s.B y) + f j 2) ∧ 0 < t y := by
    intro y hy hy1
    have hty : 0 < t y := by
      rcases Nat.eq_zero_or_pos (t y) with h0 | h0
      · have := (h.none_ _ h0).1; omega
      · exact h0
    obtain ⟨j, hj, e1, e2, e3, e4, e5⟩ := h.some_ y hty
    have e : back f s.B y = (f j 0).toNat := by unfold back; rw [e1, Int.toNat_natCast]
    rw [← e] at e4 e5
    exact ⟨j, hj, e1, e2, e, e4, e5, hty⟩
  obtain ⟨i, j, hij, hjN, heq⟩ := pigeon N (fun i => backs f s.B i v) (fun i hi => (hT i hi).1)
  have hall : ∀ q, ∃ q', q' ≤ N ∧ backs f s.B q v = backs f s.B q' v := by
    intro q
    induction q with
    | zero => exact ⟨0, Nat.zero_le _, rfl⟩
    | succ q ih =>
      obtain ⟨q', hq', e⟩ := ih
      have e1 : backs f s.B (q + 1) v = backs f s.B (q' + 1) v := by show back f s.B (backs f s.B q v) = back f s.B (backs f s.B q' v); rw [e]
      by_cases hlt : q' + 1 ≤ N
      · exact ⟨q' + 1, hlt, e1⟩
      · refine ⟨N + 1 - j + i, by omega, ?_⟩
        rw [e1, show q' + 1 = (N + 1 - j) + j from by omega, backs_add, ← heq, ← backs_add]
  have hok : ∀ q, backs f s.B q v < N ∧ 1 ≤ T (backs f s.B q v) := fun q => by
    obtain ⟨q', hq', e⟩ := hall q
    rw [e]
    have := hT q' hq'
    exact ⟨this.1, by omega⟩
  have hV : backs f s.B (j - i) (backs f s.B N v) = backs f s.B N v := by
    rw [← backs_add, show j - i + N = (N - i) + j from by omega, backs_add, ← heq, ← backs_add, show N - i + i = N from by omega]
  obtain ⟨m, hm1, hm2, hm3, hm4⟩ := least_of (P := fun m => backs f s.B m (backs f s.B N v) = backs f s.B N v) (N := N) (j - i) (by omega) (by omega) hV
  have hokV : ∀ q, backs f s.B q (backs f s.B N v) < N ∧ 1 ≤ T (backs f s.B q (backs f s.B N v)) := fun q => by
    rw [← backs_add]
    exact hok _
  generalize hVV : backs f s.B N v = V at *
  have hback : ∀ q, back f s.B (backs f s.B q V) = backs f s.B (q + 1) V := fun q => rfl
  refine ⟨v, m, V, hv, hVV, fun q => ?_, ⟨hm1, hm2⟩, hm3, hm4, ?_, ?_, ?_⟩
  · obtain ⟨a1, a2⟩ := hok q
    obtain ⟨j, hj, e1, _⟩ := hnode _ a1 a2
    exact ⟨a1, by rw [e1]; omega, by rw [e1]; omega⟩
  · intro k hk
    obtain ⟨a1, a2⟩ := hokV (m - 1 - k)
    obtain ⟨j, hj, e1, e2, e3, _⟩ := hnode _ a1 a2
    refine ⟨by show 0 ≤ s.B _; rw [e1]; omega, by show s.B _ < _; rw [e1]; omega, fun h0 => ?_⟩
    show f (s.B (backs f s.B (m - 1 - (k - 1)) V)).toNat 1 = f (s.B (backs f s.B (m - 1 - k) V)).toNat 0
    rw [show m - 1 - (k - 1) = (m - 1 - k) + 1 from by omega, e1, Int.toNat_natCast]
    obtain ⟨b1, b2⟩ := hokV (m - 1 - k + 1)
    obtain ⟨j2, hj2, g1, g2, _⟩ := hnode _ b1 b2
    rw [g1, Int.toNat_natCast, g2, ← hback, e3]
    have := (hG.2.2.2 j hj).1
    omega
  · obtain ⟨a1, a2⟩ := hokV 0
    obtain ⟨j, hj, e1, e2, _⟩ := hnode V a1 a2
    rw [e1, Int.toNat_natCast]
    exact e2
  · have hsum : ∀ k, k ≤ m → s.M (backs f s.B (m - k) V) - s.M (backs f s.B m V) ≤ wSum f (fun k => s.B (backs f s.B (m - 1 - k) V)) k ∧
        (wSum f (fun k => s.B (backs f s.B (m - 1 - k) V)) k = s.M (backs f s.B (m - k) V) - s.M (backs f s.B m V) → t (backs f s.B m V) + k ≤ t (backs f s.B (m - k) V)) := by
      intro k
      induction k with
      | zero =>
        intro _
        rw [Nat.sub_zero]
        refine ⟨?_, fun _ => Nat.le_refl _⟩
        show _ ≤ (0 : Int)
        omega
      | succ k ih =>
        intro hk
        obtain ⟨h1, h2⟩ := ih (by omega)
        obtain ⟨a1, a2⟩ := hokV (m - 1 - k)
        obtain ⟨j, hj, e1, e2, e3, e4, e5, e6⟩ := hnode _ a1 a2
        have hb := hback (m - 1 - k)
        rw [show m - 1 - k + 1 = m - k from by omega] at hb
        rw [hb] at e4 e5
        have hw : wSum f (fun k => s.B (backs f s.B (m - 1 - k) V)) (k + 1) = wSum f (fun k => s.B (backs f s.B (m - 1 - k) V)) k + f j 2 := by
          show wSum f _ k + f (s.B (backs f s.B (m - 1 - k) V)).toNat 2 = _
          rw [e1, Int.toNat_natCast]
        rw [hw, show m - (k + 1) = m - 1 - k from by omega]
        refine ⟨by omega, fun heq2 => ?_⟩
        have h3 := h2 (by omega)
        by_cases hs : t (backs f s.B (m - 1 - k) V) < t (backs f s.B (m - k) V) ∨ backs f s.B (m - k) V = backs f s.B (m - 1 - k) V
        · have := e5 hs
          omega
        · have hne : t (backs f s.B (m - 1 - k) V) ≠ t (backs f s.B (m - k) V) := fun h0 => hs (.inr (h.apart _ _ e6 h0).symm)
          omega
    obtain ⟨h1, h2⟩ := hsum m (Nat.le_refl _)
    rw [Nat.sub_self, hm3] at h1 h2
    have e0 : backs f s.B 0 V = V := rfl
    rw [e0] at h1 h2
    by_cases hz : wSum f (fun k => s.B (backs f s.B (m - 1 - k) V)) m = 0
    · have := h2 (by omega)
      omega
    · omega
end Go.Tide
/- StPl -/
set_option linter.unusedVariables false
set_option linter.unusedSimpArgs false
namespace Go.Proofs.YtgmljgcmfooniaaGreatDoor
open Go.RowKit Go.Shelf Go.Tide
set_option linter.unusedVariables false
set_option linter.unusedSimpArgs false
def dNum (J : Nat) (f : Nat → Nat → Int) (k : Nat) : Nat := (f k 0).toNat * (J + 1) + (f k 1).toNat
theorem num_at {r : DRules} {J : Nat} {f : Nat → Nat → Int} {k : Nat} (hJ : r.jit = J) (h : dLate r (f k 0) (f k 1)) : dNum J f k < (J + 1) * (J + 1) ∧ ((dNum J f k / (J + 1) : Nat) : Int) = f k 0 ∧ ((dNum J f k % (J + 1) : Nat) : Int) = f k 1 := by
  obtain ⟨⟨h1, h2⟩, h3, h4⟩ := h
  obtain ⟨a, ha⟩ : ∃ a : Nat, f k 0 = a := ⟨(f k 0).toNat, by omega⟩
  obtain ⟨b, hb⟩ : ∃ b : Nat, f k 1 = b := ⟨(f k 1).toNat, by omega⟩
  have ha' : a ≤ J := by omega
  have hb' : b < J + 1 := by omega
  have e : dNum J f k = a * (J + 1) + b := by unfold dNum; rw [ha, hb]; simp
  rw [e, ha, hb]
  have e1 : (a * (J + 1) + b) / (J + 1) = a := by
    rw [Nat.mul_comm, Nat.mul_add_div (by omega), Nat.div_eq_of_lt hb', Nat.add_zero]
  have e2 : (a * (J + 1) + b) % (J + 1) = b := by
    rw [Nat.mul_comm, Nat.mul_add_mod, Nat.mod_eq_of_lt hb']
  rw [e1, e2]
  have h5 : a * (J + 1) ≤ J * (J + 1) := Nat.mul_le_mul_right _ ha'
  have h6 : (J + 1) * (J + 1) = J * (J + 1) + (J + 1) := Nat.succ_mul _ _
  exact ⟨by omega, rfl, rfl⟩
theorem run_num {r : DRules} {J : Nat} {f : Nat → Nat → Int} (hJ : r.jit = J) : ∀ n, dAll r f n → dRun r f n = ((List.range n).map (dNum J f)).foldl (dNx r J) (dBegin r) := by
  intro n
  induction n with
  | zero => intro _; rfl
  | succ n ih =>
    intro h
    obtain ⟨_, h1, h2⟩ := num_at (f := f) (k := n) hJ (h n (by omega))
    rw [List.range_succ, List.map_append, List.foldl_append, ← ih fun k hk => h k (by omega)]
    show dGo r (dRun r f n) (f n 0) (f n 1) = dNx r J (dRun r f n) (dNum J f n)
    unfold dNx
    rw [h1, h2]
/-- Whatever is late: the state is one that was found, and its lead is no longer. -/
theorem run_found {r : DRules} {J n : Nat} {f : Nat → Nat → Int} {s : Fnd DSt} (hJ : r.jit = J) (hs : dFin r J = some s) (h : dAll r f n) : ∃ i, s.l[i]? = some (dRun r f n) ∧ (leadAt s 300 i).length ≤ n := by
  obtain ⟨i, h1, h2⟩ := lead_short (m_pos J) (by omega) hs ((List.range n).map (dNum J f)).reverse (fun i hi => by
    simp only [List.mem_reverse, List.mem_map, List.mem_range] at hi
    obtain ⟨k, hk, rfl⟩ := hi
    exact (num_at hJ (h k hk)).1)
  rw [List.reverse_reverse, ← run_num hJ n h] at h1
  exact ⟨i, h1, by simpa using h2⟩
theorem dr_run {r : DRules} {J : Nat} {d : List Nat} : ∀ k, k ≤ d.length → dRun r (drF J d) k = (d.take k).foldl (dNx r J) (dBegin r) := by
  intro k
  induction k with
  | zero => intro _; rfl
  | succ k ih =>
    intro hk
    rw [List.take_succ_eq_append_getElem (by omega), List.foldl_append, ← ih (by omega)]
    show dGo r (dRun r (drF J d) k) (drF J d k 0) (drF J d k 1) = dNx r J (dRun r (drF J d) k) d[k]
    simp [dNx, drF, List.getD, List.getElem?_eq_getElem (show k < d.length by omega)]
theorem dr_all {r : DRules} {J : Nat} {d : List Nat} (hJ : r.jit = J) (h : ∀ i ∈ d, i < (J + 1) * (J + 1)) : dAll r (drF J d) d.length := fun k hk => by
  have h1 := late_at hJ (h d[k] (List.getElem_mem hk))
  simpa [drF, List.getD, List.getElem?_eq_getElem hk] using h1
/-- Each is come to by its lead. -/
theorem lead_comes {r : DRules} {J n : Nat} {s : Fnd DSt} {y : DSt} (hJ : r.jit = J) (hs : dFin r J = some s) (hn : n ≤ 300) (hy : s.l[n]? = some y) : dAll r (drF J (leadAt s 300 n).reverse) (leadAt s 300 n).length ∧ dRun r (drF J (leadAt s 300 n).reverse) (leadAt s 300 n).length = y := by
  have hI : FInv (dNx r J) ((J + 1) * (J + 1)) 300 (dBegin r) (300 * ((J + 1) * (J + 1))) s := finv_run (m_pos J) (by omega) _ _ hs
  obtain ⟨h1, h2⟩ := lead_walk hI n 300 y hn hy
  have h3 := dr_all (d := (leadAt s 300 n).reverse) hJ (fun i hi => h2 i (List.mem_reverse.1 hi))
  have h4 := dr_run (r := r) (J := J) (d := (leadAt s 300 n).reverse) _ (Nat.le_refl _)
  rw [List.take_length, h1] at h4
  rw [List.length_reverse] at h3 h4
  exact ⟨h3, h4⟩
theorem found_once {r : DRules} {J i j : Nat} {s : Fnd DSt} {x : DSt} (hs : dFin r J = some s) (hi : s.l[i]? = some x) (hj : s.l[j]? = some x) : i = j :=
  (finv_run (m_pos J) (by omega) _ _ hs : FInv (dNx r J) ((J + 1) * (J + 1)) 300 (dBegin r) (300 * ((J + 1) * (J + 1))) s).apart i j x hi hj
end Go.Proofs.YtgmljgcmfooniaaGreatDoor
/- StCmp -/
set_option linter.unusedVariables false
set_option linter.unusedSimpArgs false
namespace Go.Proofs.YtgmljgcmfooniaaGreatDoor
open Go.RowKit Go.Shelf Go.Tide
set_option linter.unusedVariables false
set_option linter.unusedSimpArgs false
theorem row14 {w : World} {a : Option Addr} {n k : Nat} {s : Fnd DSt} {x : DSt} (h : RowC w 14 a n (stF s)) (hk : k < n) (hx : s.l[k]? = some x) : ∃ b off, a = some ⟨b, off, none⟩ ∧ b < w.heap.size ∧ w.cell? ⟨b, off + k * 14, none⟩ = some (.int .i64 x.a.c0) ∧ w.cell? ⟨b, off + (k * 14 + 1), none⟩ = some (.int .i64 x.a.c1) ∧ w.cell? ⟨b, off + (k * 14 + 2), none⟩ = some (.int .i64 x.a.c2) ∧ w.cell? ⟨b, off + (k * 14 + 3), none⟩ = some (.int .i64 x.a.c3) ∧ w.cell? ⟨b, off + (k * 14 + 4), none⟩ = some (.int .i64 x.a.c4) ∧ w.cell? ⟨b, off + (k * 14 + 5), none⟩ = some (.int .i64 x.a.c5) ∧ w.cell? ⟨b, off + (k * 14 + 6), none⟩ = some (.int .i64 x.b.c0) ∧ w.cell? ⟨b, off + (k * 14 + 7), none⟩ = some (.int .i64 x.b.c1) ∧ w.cell? ⟨b, off + (k * 14 + 8), none⟩ = some (.int .i64 x.b.c2) ∧ w.cell? ⟨b, off + (k * 14 + 9), none⟩ = some (.int .i64 x.b.c3) ∧ w.cell? ⟨b, off + (k * 14 + 10), none⟩ = some (.int .i64 x.b.c4) ∧ w.cell? ⟨b, off + (k * 14 + 11), none⟩ = some (.int .i64 x.b.c5) ∧ w.cell? ⟨b, off + (k * 14 + 12), none⟩ = some (.int .i64 x.w0) ∧ w.cell? ⟨b, off + (k * 14 + 13), none⟩ = some (.int .i64 x.w1) := by
  obtain ⟨b, off, rfl, hb, hc⟩ := h (by omega)
  have e : ∀ j, j < 14 → w.cell? ⟨b, off + (k * 14 + j), none⟩ = some (.int .i64 (dCell x j)) := fun j hj => by
    have h1 := hc k j hk hj
    simpa [stF, hx] using h1
  exact ⟨b, off, rfl, hb, e 0 (by omega), e 1 (by omega), e 2 (by omega), e 3 (by omega), e 4 (by omega), e 5 (by omega), e 6 (by omega), e 7 (by omega), e 8 (by omega), e 9 (by omega), e 10 (by omega), e 11 (by omega), e 12 (by omega), e 13 (by omega)⟩
theorem range14 {w : World} {a : Option Addr} {n k : Nat} {s : Fnd DSt} {x : DSt} (h : RowC w 14 a n (stF s)) (hk : k < n) (hx : s.l[k]? = some x) : ∃ b off, a = some ⟨b, off, none⟩ ∧ b < w.heap.size ∧ w.rangeAt b (off + k * 14) [.int .i64 x.a.c0, .int .i64 x.a.c1, .int .i64 x.a.c2, .int .i64 x.a.c3, .int .i64 x.a.c4, .int .i64 x.a.c5, .int .i64 x.b.c0, .int .i64 x.b.c1, .int .i64 x.b.c2, .int .i64 x.b.c3, .int .i64 x.b.c4, .int .i64 x.b.c5, .int .i64 x.w0, .int .i64 x.w1] := by
  obtain ⟨b, off, rfl, hb, hc⟩ := h (by omega)
  refine ⟨b, off, rfl, hb, fun j v hv => ?_⟩
  have hj : j < 14 := by have := (List.getElem?_eq_some_iff.1 hv).1; simpa using this
  have h1 := hc k j hk hj
  rw [Nat.add_assoc, h1]
  have h2 : stF s k j = dCell x j := by simp [stF, hx]
  rw [h2]
  have h3 : ([.int .i64 x.a.c0, .int .i64 x.a.c1, .int .i64 x.a.c2, .int .i64 x.a.c3, .int .i64 x.a.c4, .int .i64 x.a.c5, .int .i64 x.b.c0, .int .i64 x.b.c1, .int .i64 x.b.c2, .int .i64 x.b.c3, .int .i64 x.b.c4, .int .i64 x.b.c5, .int .i64 x.w0, .int .i64 x.w1] : List Value)[j]? = some (.int .i64 (dCell x j)) := by
    match j, hj with
    | 0, _ => rfl
    | 1, _ => rfl
    | 2, _ => rfl
    | 3, _ => rfl
    | 4, _ => rfl
    | 5, _ => rfl
    | 6, _ => rfl
    | 7, _ => rfl
    | 8, _ => rfl
    | 9, _ => rfl
    | 10, _ => rfl
    | 11, _ => rfl
    | 12, _ => rfl
    | 13, _ => rfl
  rw [h3] at hv
  exact hv
theorem cmp_state (x t : DSt) (hx : x.inI) (ht : t.inI) (w : World) : ∃ r : Bool, (Op.equalIn 10000 44 (.agg #[.int .i64 x.a.c0, .int .i64 x.a.c1, .int .i64 x.a.c2, .int .i64 x.a.c3, .int .i64 x.a.c4, .int .i64 x.a.c5, .int .i64 x.b.c0, .int .i64 x.b.c1, .int .i64 x.b.c2, .int .i64 x.b.c3, .int .i64 x.b.c4, .int .i64 x.b.c5, .int .i64 x.w0, .int .i64 x.w1]) (.agg #[.int .i64 t.a.c0, .int .i64 t.a.c1, .int .i64 t.a.c2, .int .i64 t.a.c3, .int .i64 t.a.c4, .int .i64 t.a.c5, .int .i64 t.b.c0, .int .i64 t.b.c1, .int .i64 t.b.c2, .int .i64 t.b.c3, .int .i64 t.b.c4, .int .i64 t.b.c5, .int .i64 t.w0, .int .i64 t.w1])).run Tryz.prog w = .ok r w ∧ r = decide (x = t) := by
  obtain ⟨r, h1, h2⟩ := equal_state x.a.c0 x.a.c1 x.a.c2 x.a.c3 x.a.c4 x.a.c5 x.b.c0 x.b.c1 x.b.c2 x.b.c3 x.b.c4 x.b.c5 x.w0 x.w1 t.a.c0 t.a.c1 t.a.c2 t.a.c3 t.a.c4 t.a.c5 t.b.c0 t.b.c1 t.b.c2 t.b.c3 t.b.c4 t.b.c5 t.w0 t.w1 hx.1.1 hx.1.2.1 hx.1.2.2.1 hx.1.2.2.2.1 hx.1.2.2.2.2.1 hx.1.2.2.2.2.2 hx.2.1.1 hx.2.1.2.1 hx.2.1.2.2.1 hx.2.1.2.2.2.1 hx.2.1.2.2.2.2.1 hx.2.1.2.2.2.2.2 hx.2.2.1 hx.2.2.2 ht.1.1 ht.1.2.1 ht.1.2.2.1 ht.1.2.2.2.1 ht.1.2.2.2.2.1 ht.1.2.2.2.2.2 ht.2.1.1 ht.2.1.2.1 ht.2.1.2.2.1 ht.2.1.2.2.2.1 ht.2.1.2.2.2.2.1 ht.2.1.2.2.2.2.2 ht.2.2.1 ht.2.2.2 w
  refine ⟨r, h1, ?_⟩
  have h3 : r = true ↔ x = t := by
    rw [h2]
    constructor
    · intro h
      simp only [List.cons.injEq, and_true] at h
      obtain ⟨e0, e1, e2, e3, e4, e5, e6, e7, e8, e9, e10, e11, e12, e13⟩ := h
      obtain ⟨⟨_, _, _, _, _, _⟩, ⟨_, _, _, _, _, _⟩, _, _⟩ := x
      obtain ⟨⟨_, _, _, _, _, _⟩, ⟨_, _, _, _, _, _⟩, _, _⟩ := t
      simp only at e0 e1 e2 e3 e4 e5 e6 e7 e8 e9 e10 e11 e12 e13
      subst e0 e1 e2 e3 e4 e5 e6 e7 e8 e9 e10 e11
      obtain rfl := Int.ofNat.inj e12
      obtain rfl := Int.ofNat.inj e13
      rfl
    · rintro rfl; rfl
  cases r with
  | true => exact (decide_eq_true (h3.1 rfl)).symm
  | false => exact (decide_eq_false fun e => absurd (h3.2 e) (by simp)).symm
end Go.Proofs.YtgmljgcmfooniaaGreatDoor
/- StCmp2 -/
set_option linter.unusedVariables false
set_option linter.unusedSimpArgs false
namespace Go.Proofs.YtgmljgcmfooniaaGreatDoor
open Go.RowKit Go.Shelf Go.Tide
set_option linter.unusedVariables false
set_option linter.unusedSimpArgs false
/-- A state's cells. -/
def stL (x : DSt) : List Value := [.int .i64 x.a.c0, .int .i64 x.a.c1, .int .i64 x.a.c2, .int .i64 x.a.c3, .int .i64 x.a.c4, .int .i64 x.a.c5, .int .i64 x.b.c0, .int .i64 x.b.c1, .int .i64 x.b.c2, .int .i64 x.b.c3, .int .i64 x.b.c4, .int .i64 x.b.c5, .int .i64 x.w0, .int .i64 x.w1]
theorem stL_len (x : DSt) : (stL x).length = 14 := rfl
theorem stL_one (x : DSt) : (stL x).toArray.all (·.oneCell') = true := by simp [stL, Value.oneCell']
theorem cmp_stL (x t : DSt) (hx : x.inI) (ht : t.inI) (w : World) : (Op.equalIn 10000 44 (.agg (stL x).toArray) (.agg (stL t).toArray)).run Tryz.prog w = .ok (decide (x = t)) w := by
  obtain ⟨r, h1, h2⟩ := cmp_state x t hx ht w
  subst h2
  exact h1
theorem stL_info (x : DSt) : (Tryz.prog.info? 44).map (·.size) = some (stL x).length := by
  rw [stL_len]
  kernel_rfl
theorem blk_range {w : World} {g : Nat} {t : TypeId} {cs : List Value} (h : Blk w g t cs.toArray) : w.rangeAt g 0 cs := fun j v hv => by
  rw [Nat.zero_add, h.cell j]
  simpa using hv
theorem rangeL {w : World} {a : Option Addr} {n k : Nat} {s : Fnd DSt} {x : DSt} (h : RowC w 14 a n (stF s)) (hk : k < n) (hx : s.l[k]? = some x) : ∃ b off, a = some ⟨b, off, none⟩ ∧ b < w.heap.size ∧ w.rangeAt b (off + k * 14) (stL x) := range14 h hk hx
theorem range_below {B : Nat} {w w' : World} {b o : Nat} {cs : List Value} (h : w.rangeAt b o cs) (hb : Below B w w') (hB : b < B) : w'.rangeAt b o cs := fun j v hv => by
  rw [← h j v hv]
  exact hb.cell (p := ⟨b, o + j, none⟩) hB
theorem run_eql {P : Program} {oi : Oper} {ρ : Operand → Value} {w : World} (ty ty2 : TypeId) (x y : Operand) (ho : oi.op = .binOp .eql ty x y ty2) (cs ds : Array Value) (hx : ρ x = .agg cs) (hy : ρ y = .agg ds) (hg : P.eqGuardType P.depth ty = false)
    (r : Bool) (hE : (Op.equal ty (.agg cs) (.agg ds)).run P w = .ok r w) : (execOp ρ oi).run P w = .ok (.value (.bool r)) w := by
  obtain ⟨d, op, t, p, af, g⟩ := oi
  have ho' : op = .binOp .eql ty x y ty2 := ho
  subst ho'
  have h1 : (eqGuard BinOp.eql ty x y (.agg cs) (.agg ds)).run P w = .ok () w := by simp [run_eqGuard_agg, hg]
  have h2 : (binOp BinOp.eql ty (.agg cs) (.agg ds)).run P w = .ok (.bool r) w := by
    unfold binOp
    simp only [Sem.run_bind, hE, Result.andThen_ok, Sem.run_pure]
  show (do let a ← (do eqGuard BinOp.eql ty x y (ρ x) (ρ y); binOp BinOp.eql ty (ρ x) (ρ y)); pure (Next.value a) : Sem Next).run P w = _
  rw [hx, hy]
  simp only [Sem.run_bind, h1, h2, Result.andThen_ok, Sem.run_pure]
theorem run_neq {P : Program} {oi : Oper} {ρ : Operand → Value} {w : World} (ty ty2 : TypeId) (x y : Operand) (ho : oi.op = .binOp .neq ty x y ty2) (cs ds : Array Value) (hx : ρ x = .agg cs) (hy : ρ y = .agg ds) (hg : P.eqGuardType P.depth ty = false)
    (r : Bool) (hE : (Op.equal ty (.agg cs) (.agg ds)).run P w = .ok r w) : (execOp ρ oi).run P w = .ok (.value (.bool (!r))) w := by
  obtain ⟨d, op, t, p, af, g⟩ := oi
  have ho' : op = .binOp .neq ty x y ty2 := ho
  subst ho'
  have h1 : (eqGuard BinOp.neq ty x y (.agg cs) (.agg ds)).run P w = .ok () w := by simp [run_eqGuard_agg, hg]
  have h2 : (binOp BinOp.neq ty (.agg cs) (.agg ds)).run P w = .ok (.bool (!r)) w := by
    unfold binOp
    simp only [Sem.run_bind, hE, Result.andThen_ok, Sem.run_pure]
  show (do let a ← (do eqGuard BinOp.neq ty x y (ρ x) (ρ y); binOp BinOp.neq ty (ρ x) (ρ y)); pure (Next.value a) : Sem Next).run P w = _
  rw [hx, hy]
  simp only [Sem.run_bind, h1, h2, Result.andThen_ok, Sem.run_pure]
theorem wpList_eql {P : Program} {ops : Array Oper} {rest : List Oper} {o : Oper} {a : Act} {w : World} {Q : Exit → Act → World → Prop} (hgd : o.guard = none) (ty ty2 : TypeId) (x y : Operand) (ho : o.op = .binOp .eql ty x y ty2) (cs ds : Array Value) (hx : a.eval x = .agg cs) (hy : a.eval y = .agg ds) (hg : P.eqGuardType P.depth ty = false)
    (r : Bool) (hE : (Op.equal ty (.agg cs) (.agg ds)).run P w = .ok r w) (h : wpList P ops Q rest (a.put o.dst (.bool r)) w) : wpList P ops Q (o :: rest) a w :=
  wpList_plain hgd fun _ hK => by
    simp only [Oper.wp, run_eql ty ty2 x y ho cs ds hx hy hg r hE, Oper.upon]
    first | exact hK _ _ h | exact .inl (hK _ _ h)
theorem equal_of {P : Program} {w : World} {ty : TypeId} {a b : Value} {r : Bool} (h : (Op.equalIn 10000 ty a b).run P w = .ok r w) : (Op.equal ty a b).run P w = .ok r w := by unfold Op.equal Op.maxDepth; exact h
theorem guard_st : Tryz.prog.eqGuardType Tryz.prog.depth 44 = false := by kernel_rfl
theorem eq_st (x t : DSt) (hx : x.inI) (ht : t.inI) (w : World) : (Op.equal 44 (.agg (stL x).toArray) (.agg (stL t).toArray)).run Tryz.prog w = .ok (decide (x = t)) w := equal_of (cmp_stL x t hx ht w)
theorem newRow {w : World} {t : TypeId} {Z cs : Array Value} : Blk ((w.alloc (.cells Z t)).setRow w.heap.size cs) w.heap.size t cs := setRow_heap _ _ _ _ _ _ (Blk.new w t Z)
theorem newRow_below {w : World} {t : TypeId} {Z cs : Array Value} : Below w.heap.size w ((w.alloc (.cells Z t)).setRow w.heap.size cs) := below_setRow ((Below.refl _ _).alloc (Nat.le_refl _) _) (Nat.le_refl _) _
end Go.Proofs.YtgmljgcmfooniaaGreatDoor
/- StNat -/
set_option linter.unusedVariables false
set_option linter.unusedSimpArgs false
namespace Go.Proofs.YtgmljgcmfooniaaGreatDoor
open Go.RowKit Go.Shelf Go.Tide
set_option linter.unusedVariables false
set_option linter.unusedSimpArgs false
def LeadNat (r : DRules) (J N : Nat) (w : World) (e : Ending) (w' : World) : Prop :=
  Below w.heap.size w w' ∧ ((∃ s a c, dFin r J = some s ∧ N < s.l.length ∧ e = .returned (.tuple #[.slice a (leadAt s 300 N).length c, .int .i64 0]) ∧ RowC w' 2 a (leadAt s 300 N).length (drF J (leadAt s 300 N).reverse) ∧ ∀ p : Addr, a = some p → w.heap.size ≤ p.block) ∨
    (∃ s, dFin r J = some s ∧ s.l.length ≤ N ∧ e = .returned (.tuple #[.slice none 0 0, .int .i64 3])) ∨ (dFin r J = none ∧ e = .returned (.tuple #[.slice none 0 0, .int .i64 4])))
theorem lead_nat (r : DRules) (J : Nat) (hJ : Hid (r.jit = J)) (hr : r.ok) (N : Nat) (w : World) :
    Calls Tryz.prog 39 #[.agg #[.int .i64 r.k0, .int .i64 r.k1, .int .i64 r.rate, .int .i64 r.buf, .int .i64 r.jit], .int .i64 (N : Nat)] w (LeadNat r J N w) :=
  (lead_any r J hJ hr (N : Nat) w).mono fun e w' ⟨h1, h2⟩ => ⟨h1, by
    rcases h2 with ⟨s, a, c, g1, g2, g3, g4, g5⟩ | ⟨s, g1, g2, g3⟩ | ⟨g1, g2⟩
    · rw [Int.toNat_natCast] at g4 g5
      exact .inl ⟨s, a, c, g1, by omega, g4, g5⟩
    · exact .inr (.inl ⟨s, g1, by omega, g3⟩)
    · exact .inr (.inr ⟨g1, g2⟩)⟩
end Go.Proofs.YtgmljgcmfooniaaGreatDoor
/- StTold -/
set_option linter.unusedVariables false
set_option linter.unusedSimpArgs false
namespace Go.Proofs.YtgmljgcmfooniaaGreatDoor
open Go.RowKit Go.Shelf Go.Tide
set_option linter.unusedVariables false
set_option linter.unusedSimpArgs false
/-- The graph's numbers. -/
theorem told_at {r : DRules} {J : Nat} {s : Fnd DSt} {E : List Edge} (hT : Told r J s E) {who : Nat} {ratio : Int} {u : Nat} (hu : u < E.length) : ∃ x n, s.l[u / ((J + 1) * (J + 1))]? = some x ∧ s.l[n]? = some (dNx r J x (u % ((J + 1) * (J + 1)))) ∧
    egF who ratio E u 0 = (u / ((J + 1) * (J + 1)) : Nat) ∧ egF who ratio E u 1 = (n : Nat) ∧ egF who ratio E u 2 = eWt who ratio (dRow r x) := by
  obtain ⟨x, n, h1, h2, h3⟩ := hT.2 u (by rw [← hT.1]; exact hu)
  refine ⟨x, n, h1, h2, ?_, ?_, ?_⟩ <;> simp [egF, h3]
/-- A run's round is an edge. -/
theorem told_run {r : DRules} {J : Nat} (hJ : r.jit = J) {s : Fnd DSt} {E : List Edge} (hs : dFin r J = some s) (hT : Told r J s E) {who : Nat} {ratio : Int} {f : Nat → Nat → Int} {n k i : Nat} (ha : dAll r f n) (hk : k < n) (hi : s.l[i]? = some (dRun r f k)) :
    ∃ i', i * ((J + 1) * (J + 1)) + dNum J f k < E.length ∧ s.l[i']? = some (dRun r f (k + 1)) ∧ egF who ratio E (i * ((J + 1) * (J + 1)) + dNum J f k) 0 = (i : Nat) ∧ egF who ratio E (i * ((J + 1) * (J + 1)) + dNum J f k) 1 = (i' : Nat) ∧
      egF who ratio E (i * ((J + 1) * (J + 1)) + dNum J f k) 2 = eWt who ratio (dRow r (dRun r f k)) := by
  obtain ⟨hd, q0, q1⟩ := num_at hJ (ha k hk)
  have l1 := get_lt hi
  have hlt : i * ((J + 1) * (J + 1)) + dNum J f k < E.length := by
    rw [hT.1]
    have := Nat.mul_le_mul_right ((J + 1) * (J + 1)) (show i + 1 ≤ s.l.length by omega)
    rw [Nat.add_mul] at this
    omega
  obtain ⟨x, n', h1, h2, e0, e1, e2⟩ := told_at hT (who := who) (ratio := ratio) hlt
  obtain ⟨d1, d2⟩ := stamp_eq (m := (J + 1) * (J + 1)) (k := i) (i := dNum J f k) (t := i * ((J + 1) * (J + 1)) + dNum J f k) (m_pos J) hd rfl
  rw [← d1] at h1 e0
  rw [← d2] at h2
  obtain rfl : x = dRun r f k := by rw [hi] at h1; exact (Option.some.inj h1).symm
  refine ⟨n', hlt, ?_, e0, e1, e2⟩
  rw [h2]
  show some (dNx r J (dRun r f k) (dNum J f k)) = some (dGo r (dRun r f k) (f k 0) (f k 1))
  unfold dNx
  rw [q0, q1]
end Go.Proofs.YtgmljgcmfooniaaGreatDoor
/- VdLaw -/
set_option linter.unusedVariables false
set_option linter.unusedSimpArgs false
namespace Go.Proofs.YtgmljgcmfooniaaGreatDoor
open Go.RowKit Go.Shelf Go.Tide
set_option linter.unusedVariables false
set_option linter.unusedSimpArgs false
/-- The state behind k rounds from y on. -/
def runFrom (r : DRules) (y : DSt) (f : Nat → Nat → Int) : Nat → DSt
  | 0 => y
  | k + 1 => dGo r (runFrom r y f k) (f k 0) (f k 1)
/-- What one brings more in them. -/
def wFrom (r : DRules) (who : Nat) (ratio : Int) (y : DSt) (f : Nat → Nat → Int) : Nat → Int
  | 0 => 0
  | k + 1 => wFrom r who ratio y f k + eWt who ratio (dRow r (runFrom r y f k))
theorem run_begin (r : DRules) (f : Nat → Nat → Int) : ∀ n, dRun r f n = runFrom r (dBegin r) f n := by
  intro n
  induction n with
  | zero => rfl
  | succ n ih => show dGo r (dRun r f n) _ _ = dGo r (runFrom r (dBegin r) f n) _ _; rw [ih]
theorem from_add (r : DRules) (y : DSt) (f : Nat → Nat → Int) (i : Nat) : ∀ k, runFrom r y f (i + k) = runFrom r (runFrom r y f i) (fun k => f (i + k)) k := by
  intro k
  induction k with
  | zero => rfl
  | succ k ih => show dGo r (runFrom r y f (i + k)) _ _ = dGo r (runFrom r (runFrom r y f i) _ k) _ _; rw [ih]; rfl
theorem from_congr (r : DRules) (y : DSt) {f g : Nat → Nat → Int} : ∀ n, (∀ k j, k < n → f k j = g k j) → runFrom r y f n = runFrom r y g n := by
  intro n
  induction n with
  | zero => intro _; rfl
  | succ n ih => intro h; show dGo r (runFrom r y f n) _ _ = dGo r (runFrom r y g n) _ _; rw [ih fun k j hk => h k j (by omega), h n 0 (by omega), h n 1 (by omega)]
theorem wfrom_congr (r : DRules) (who : Nat) (ratio : Int) (y : DSt) {f g : Nat → Nat → Int} : ∀ n, (∀ k j, k < n → f k j = g k j) → wFrom r who ratio y f n = wFrom r who ratio y g n := by
  intro n
  induction n with
  | zero => intro _; rfl
  | succ n ih => intro h; show wFrom r who ratio y f n + _ = wFrom r who ratio y g n + _; rw [ih fun k j hk => h k j (by omega), from_congr r y n fun k j hk => h k j (by omega)]
theorem wfrom_add (r : DRules) (who : Nat) (ratio : Int) (y : DSt) (f : Nat → Nat → Int) (i : Nat) : ∀ k, wFrom r who ratio y f (i + k) = wFrom r who ratio y f i + wFrom r who ratio (runFrom r y f i) (fun k => f (i + k)) k := by
  intro k
  induction k with
  | zero => show wFrom r who ratio y f i = wFrom r who ratio y f i + 0; omega
  | succ k ih =>
    show wFrom r who ratio y f (i + k) + eWt who ratio (dRow r (runFrom r y f (i + k))) = wFrom r who ratio y f i + (wFrom r who ratio (runFrom r y f i) _ k + eWt who ratio (dRow r (runFrom r (runFrom r y f i) _ k)))
    rw [ih, from_add]
    omega
/-- What one brings in d rounds from round i on. -/
def vSum (r : DRules) (who : Nat) (ratio : Int) (f : Nat → Nat → Int) (i d : Nat) : Int := wFrom r who ratio (dRun r f i) (fun k => f (i + k)) d
theorem vsum_succ (r : DRules) (who : Nat) (ratio : Int) (f : Nat → Nat → Int) (i d : Nat) : vSum r who ratio f i (d + 1) = vSum r who ratio f i d + eWt who ratio (dRow r (dRun r f (i + d))) := by
  show wFrom r who ratio (dRun r f i) (fun k => f (i + k)) d + eWt who ratio (dRow r (runFrom r (dRun r f i) (fun k => f (i + k)) d)) = _
  rw [run_begin r f i, ← from_add, ← run_begin, ← run_begin]
  rfl
/-- In no rounds that follow one another more than M. -/
def VB (r : DRules) (who : Nat) (ratio M : Int) : Prop := ∀ f n, dAll r f n → ∀ i d, i + d ≤ n → vSum r who ratio f i d ≤ M
/-- Draws that lead somewhere, and draws that go round there, and bring more. -/
structure Starve (r : DRules) (who : Nat) (ratio : Int) (ld : Nat) (lf : Nat → Nat → Int) (m : Nat) (rf : Nat → Nat → Int) : Prop where
  lead : dAll r lf ld
  some_ : 1 ≤ m
  round : dAll r rf m
  back : runFrom r (dRun r lf ld) rf m = dRun r lf ld
  more : 1 ≤ wFrom r who ratio (dRun r lf ld) rf m
theorem from_times (r : DRules) (who : Nat) (ratio : Int) {y : DSt} {m : Nat} {rf : Nat → Nat → Int} (hb : runFrom r y rf m = y) (hw : 1 ≤ wFrom r who ratio y rf m) {g : Nat → Nat → Int} : ∀ t : Nat,
    (∀ q k j, q < t → k < m → g (q * m + k) j = rf k j) → runFrom r y g (t * m) = y ∧ (t : Int) ≤ wFrom r who ratio y g (t * m) := by
  intro t
  induction t with
  | zero => intro _; rw [Nat.zero_mul]; exact ⟨rfl, by show ((0 : Nat) : Int) ≤ 0; omega⟩
  | succ t ih =>
    intro h
    obtain ⟨h1, h2⟩ := ih fun q k j hq hk => h q k j (by omega) hk
    have e : ∀ k j, k < m → (fun k => g (t * m + k)) k j = rf k j := fun k j hk => h t k j (by omega) hk
    rw [Nat.add_mul, Nat.one_mul, from_add, wfrom_add, h1]
    rw [from_congr r y m e, wfrom_congr r who ratio y m e, hb]
    exact ⟨rfl, by omega⟩
/-- A run that begins with the lead and goes t times round. -/
theorem starve_run {r : DRules} {who : Nat} {ratio : Int} {ld m : Nat} {lf rf : Nat → Nat → Int} (h : Starve r who ratio ld lf m rf) {f : Nat → Nat → Int} {t : Nat} (h0 : ∀ k j, k < ld → f k j = lf k j)
    (h1 : ∀ q k j, q < t → k < m → f (ld + (q * m + k)) j = rf k j) : dAll r f (ld + t * m) ∧ (t : Int) ≤ vSum r who ratio f ld (t * m) := by
  have e : dRun r f ld = dRun r lf ld := by rw [run_begin, run_begin]; exact from_congr r _ ld h0
  refine ⟨fun k hk => ?_, ?_⟩
  · by_cases hl : k < ld
    · rw [h0 k 0 hl, h0 k 1 hl]; exact h.lead k hl
    · obtain ⟨u, rfl⟩ : ∃ u, k = ld + u := ⟨k - ld, by omega⟩
      have hu : u < t * m := by omega
      have hm := h.some_
      have hq : u / m < t := (Nat.div_lt_iff_lt_mul (by omega)).2 hu
      have hr := Nat.mod_lt u (show 0 < m by omega)
      have hk2 : ld + u = ld + (u / m * m + u % m) := by rw [Nat.mul_comm, Nat.div_add_mod]
      rw [hk2, h1 _ _ 0 hq hr, h1 _ _ 1 hq hr]
      exact h.round _ hr
  · unfold vSum
    rw [e]
    exact (from_times r who ratio h.back h.more (g := fun k => f (ld + k)) t h1).2
/-- Both at once there is not. -/
theorem starve_not {r : DRules} {who : Nat} {ratio M : Int} {ld m : Nat} {lf rf : Nat → Nat → Int} (h : Starve r who ratio ld lf m rf) : ¬ VB r who ratio M := by
  intro hv
  have hm := h.some_
  have h1 := starve_run h (t := (M + 1).toNat + 1) (f := fun k j => if k < ld then lf k j else rf ((k - ld) % m) j) (fun k j hk => by simp [hk]) (fun q k j hq hk => by
    rw [if_neg (by omega), show ld + (q * m + k) - ld = k + m * q by rw [Nat.mul_comm]; omega, Nat.add_mul_mod_self_left, Nat.mod_eq_of_lt hk])
  have h2 := hv _ _ h1.1 ld _ (Nat.le_refl _)
  omega
theorem row_pos {r : DRules} {s : DSt} (hr : r.ok) (h : s.ok r) (q : Nat) : 0 ≤ dRow r s q ∧ dRow r s q ≤ 100 := (pass_law hr h).1 q
theorem ewt_bound {who : Nat} {ratio : Int} {q : Nat → Int} (hq : ∀ j, 0 ≤ q j ∧ q j ≤ 100) (h : 1 ≤ ratio ∧ ratio ≤ 100) : -10000 ≤ eWt who ratio q ∧ eWt who ratio q ≤ 100 := by
  have h1 := hq (2 + who)
  have h2 := hq (2 + (1 - who))
  unfold eWt
  generalize q (2 + who) = a at *
  generalize q (2 + (1 - who)) = b at *
  have h3 : 0 ≤ ratio * b := Int.mul_nonneg (by omega) h2.1
  have h4 : ratio * b ≤ 100 * 100 := Int.mul_le_mul h.2 h2.2 h2.1 (by omega)
  omega
theorem ewt_mono {who : Nat} {ratio more : Int} {q : Nat → Int} (hq : ∀ j, 0 ≤ q j) (h : 0 ≤ more) : eWt who (ratio + more) q ≤ eWt who ratio q := by
  unfold eWt
  have h3 : 0 ≤ more * q (2 + (1 - who)) := Int.mul_nonneg h (hq _)
  have h4 : (ratio + more) * q (2 + (1 - who)) = ratio * q (2 + (1 - who)) + more * q (2 + (1 - who)) := Int.add_mul _ _ _
  omega
theorem vb_ratio {r : DRules} {who : Nat} {ratio more M : Int} (hr : r.ok) (h0 : 0 ≤ more) (h : VB r who ratio M) : VB r who (ratio + more) M := by
  intro f n ha i d hd
  refine Int.le_trans ?_ (h f n ha i d hd)
  clear h
  induction d with
  | zero => exact Int.le_refl _
  | succ d ih =>
    rw [vsum_succ, vsum_succ]
    have h1 := ih (by omega)
    have h2 := ewt_mono (who := who) (ratio := ratio) (more := more) (q := dRow r (dRun r f (i + d))) (fun j => (row_pos hr (run_ok hr _ (fun k hk => ha k (by omega))) j).1) h0
    omega
theorem run_jit (k0 k1 : Int) (rate buf : Nat) (j j' : Int) (f : Nat → Nat → Int) : ∀ n, dRun ⟨k0, k1, rate, buf, j⟩ f n = dRun ⟨k0, k1, rate, buf, j'⟩ f n := by
  intro n
  induction n with
  | zero => rfl
  | succ n ih => show dGo _ (dRun _ f n) _ _ = dGo _ (dRun _ f n) _ _; rw [ih]; rfl
theorem vsum_jit (k0 k1 : Int) (rate buf : Nat) (j j' : Int) (who : Nat) (ratio : Int) (f : Nat → Nat → Int) (i : Nat) : ∀ d, vSum ⟨k0, k1, rate, buf, j⟩ who ratio f i d = vSum ⟨k0, k1, rate, buf, j'⟩ who ratio f i d := by
  intro d
  induction d with
  | zero => rfl
  | succ d ih => rw [vsum_succ, vsum_succ, ih, run_jit k0 k1 rate buf j j']; rfl
/-- Less that may be late: what is bounded stays so. -/
theorem vb_jit {k0 k1 : Int} {rate buf : Nat} {j j' : Int} {who : Nat} {ratio M : Int} (hj : j' ≤ j) (h : VB ⟨k0, k1, rate, buf, j⟩ who ratio M) : VB ⟨k0, k1, rate, buf, j'⟩ who ratio M := by
  intro f n ha i d hd
  rw [vsum_jit k0 k1 rate buf j' j]
  exact h f n (fun k hk => by
    obtain ⟨⟨h1, h2⟩, h3, h4⟩ := ha k hk
    exact ⟨⟨h1, Int.le_trans h2 hj⟩, h3, Int.le_trans h4 hj⟩) i d hd

theorem told_right {r : DRules} {J : Nat} (hr : r.ok) (hJ : J ≤ 3) {s : Fnd DSt} {E : List Edge} (hG : GI r s) (hT : Told r J s E) {who : Nat} {ratio : Int} (hra : 1 ≤ ratio ∧ ratio ≤ 100) : GRight (s.l.length : Nat) E.length (egF who ratio E) := by
  have hle := hG.le
  refine ⟨by omega, by omega, ?_, fun u hu => ?_⟩
  · rw [hT.1]
    have h1 : (J + 1) * (J + 1) ≤ 4 * 4 := Nat.mul_le_mul (by omega) (by omega)
    exact Nat.le_trans (Nat.mul_le_mul hle h1) (by omega)
  · obtain ⟨x, n, h1, h2, e0, e1, e2⟩ := told_at hT (who := who) (ratio := ratio) hu
    have l1 := get_lt h1
    have l2 := get_lt h2
    have hb := ewt_bound (who := who) (row_pos hr (hG.ok x (List.mem_of_getElem? h1))) hra
    rw [e0, e1, e2]
    generalize u / ((J + 1) * (J + 1)) = z at *
    refine ⟨by omega, by omega, by omega, by omega, by omega, by omega⟩
/-- Where potentials are told, nothing brings more than the greatest. -/
theorem bounded_of {r : DRules} {J : Nat} (hr : r.ok) (hJ : r.jit = J) (hJ3 : J ≤ 3) {s : Fnd DSt} {E : List Edge} (hs : dFin r J = some s) (hG : GI r s) (hT : Told r J s E) {who : Nat} {ratio : Int} (hra : 1 ≤ ratio ∧ ratio ≤ 100)
    (hL : (solved (egF who ratio E) E.length s.l.length).L < 0) {M : Int} (hM : ∀ v, v < s.l.length → (solved (egF who ratio E) E.length s.l.length).M v ≤ M) : VB r who ratio M := by
  have hGR := told_right hr hJ3 hG hT (who := who) hra
  have hst := solved_still hGR hL
  have hmb := solved_mb hGR
  intro f n ha i d hd
  obtain ⟨x0, hx0, _⟩ := run_found hJ hs (n := i) (f := f) (fun k hk => ha k (by omega))
  have main : ∀ d, i + d ≤ n → ∃ x, s.l[x]? = some (dRun r f (i + d)) ∧ vSum r who ratio f i d ≤ (solved (egF who ratio E) E.length s.l.length).M x - (solved (egF who ratio E) E.length s.l.length).M x0 := by
    intro d
    induction d with
    | zero => intro _; exact ⟨x0, hx0, by show (0 : Int) ≤ _; omega⟩
    | succ d ih =>
      intro hd
      obtain ⟨x, hx, hv⟩ := ih (by omega)
      obtain ⟨x', hlt, hx', e0, e1, e2⟩ := told_run hJ hs hT (who := who) (ratio := ratio) ha (show i + d < n by omega) hx
      have h1 := hst _ hlt
      rw [e0, e1, e2, Int.toNat_natCast, Int.toNat_natCast] at h1
      refine ⟨x', hx', ?_⟩
      rw [vsum_succ]
      omega
  obtain ⟨x, hx, hv⟩ := main d hd
  have h1 := hM x (get_lt hx)
  have h2 := (hmb x0 (get_lt hx0)).1
  omega
/-- What was late at an edge, by its number. -/
def lateOf (J : Nat) (x : Nat → Int) (k j : Nat) : Int := if j = 0 then (((x k).toNat % ((J + 1) * (J + 1)) / (J + 1) : Nat) : Int) else (((x k).toNat % (J + 1) : Nat) : Int)
theorem mod_mod_mul (u n : Nat) : u % (n * n) % n = u % n := Nat.mod_mod_of_dvd u ⟨n, rfl⟩
/-- Where there is a way round that weighs more, one starves the other. -/
theorem starves_of {r : DRules} {J : Nat} (hr : r.ok) (hJ : r.jit = J) (hJ3 : J ≤ 3) {s : Fnd DSt} {E : List Edge} (hs : dFin r J = some s) (hG : GI r s) (hT : Told r J s E) {who : Nat} {ratio : Int} (hra : 1 ≤ ratio ∧ ratio ≤ 100)
    {v m V : Nat} {B : Nat → Int} (hR : Round s.l.length (egF who ratio E) E.length v m V B) : egF who ratio E (B (backs (egF who ratio E) B (m - 1) V)).toNat 0 = V ∧ V < s.l.length ∧
      Starve r who ratio (leadAt s 300 V).length (drF J (leadAt s 300 V).reverse) m (lateOf J fun k => B (backs (egF who ratio E) B (m - 1 - k) V)) := by
  have hGR := told_right hr hJ3 hG hT (who := who) hra
  obtain ⟨hm1, hm2⟩ := hR.many
  have hbV : ∀ q, backs (egF who ratio E) B q V = backs (egF who ratio E) B (q + s.l.length) v := fun q => by rw [backs_add, hR.at_]
  have hV : V < s.l.length := by have := (hR.right s.l.length).1; rwa [hR.at_] at this
  have hx : ∀ k, k < m → ∃ u : Nat, B (backs (egF who ratio E) B (m - 1 - k) V) = u ∧ u < E.length := fun k hk => by
    obtain ⟨h1, h2, -⟩ := hR.walk k hk
    dsimp only at h1 h2
    exact ⟨(B (backs (egF who ratio E) B (m - 1 - k) V)).toNat, by omega, by omega⟩
  have hf0 : egF who ratio E (B (backs (egF who ratio E) B (m - 1) V)).toNat 0 = V := by
    have h1 : backs (egF who ratio E) B (m - 1 + 1) V = V := by rw [show m - 1 + 1 = m by omega]; exact hR.round
    have h2 : backs (egF who ratio E) B (m - 1 + 1) V = (egF who ratio E (B (backs (egF who ratio E) B (m - 1) V)).toNat 0).toNat := rfl
    obtain ⟨u, hu, hul⟩ := hx 0 (by omega)
    rw [Nat.sub_zero] at hu
    have h3 := (hGR.2.2.2 u hul).1
    rw [hu, Int.toNat_natCast] at h2 ⊢
    omega
  obtain ⟨y, hy⟩ : ∃ y, s.l[V]? = some y := ⟨_, List.getElem?_eq_getElem hV⟩
  obtain ⟨hl1, hl2⟩ := lead_comes hJ hs (by have := hG.le; omega) hy
  have hstep : ∀ k, k < m → ∀ (u : Nat) (x : DSt), B (backs (egF who ratio E) B (m - 1 - k) V) = u → s.l[u / ((J + 1) * (J + 1))]? = some x →
      dLate r (lateOf J (fun k => B (backs (egF who ratio E) B (m - 1 - k) V)) k 0) (lateOf J (fun k => B (backs (egF who ratio E) B (m - 1 - k) V)) k 1) ∧
      dGo r x (lateOf J (fun k => B (backs (egF who ratio E) B (m - 1 - k) V)) k 0) (lateOf J (fun k => B (backs (egF who ratio E) B (m - 1 - k) V)) k 1) = dNx r J x (u % ((J + 1) * (J + 1))) := by
    intro k hk u x hu hx
    have e0 : lateOf J (fun k => B (backs (egF who ratio E) B (m - 1 - k) V)) k 0 = ((u % ((J + 1) * (J + 1)) / (J + 1) : Nat) : Int) := by unfold lateOf; rw [if_pos rfl]; dsimp only; rw [hu, Int.toNat_natCast]
    have e1 : lateOf J (fun k => B (backs (egF who ratio E) B (m - 1 - k) V)) k 1 = ((u % ((J + 1) * (J + 1)) % (J + 1) : Nat) : Int) := by unfold lateOf; rw [if_neg (by omega)]; dsimp only; rw [hu, Int.toNat_natCast, mod_mod_mul]
    rw [e0, e1]
    exact ⟨late_at hJ (Nat.mod_lt _ (m_pos J)), rfl⟩
  -- the walk's states
  have hat : ∀ k, k < m → s.l[((B (backs (egF who ratio E) B (m - 1 - k) V)).toNat) / ((J + 1) * (J + 1))]? = some (runFrom r y (lateOf J fun k => B (backs (egF who ratio E) B (m - 1 - k) V)) k) := by
    intro k
    induction k with
    | zero =>
      intro _
      obtain ⟨u, hu, hul⟩ := hx 0 (by omega)
      rw [Nat.sub_zero] at hu ⊢
      rw [hu, Int.toNat_natCast] at hf0 ⊢
      obtain ⟨x, n', h1, h2, e0, e1, e2⟩ := told_at hT (who := who) (ratio := ratio) hul
      rw [e0] at hf0
      rw [show u / ((J + 1) * (J + 1)) = V by omega]
      exact hy
    | succ k ih =>
      intro hk
      have h1 := ih (by omega)
      obtain ⟨u, hu, hul⟩ := hx k (by omega)
      obtain ⟨u', hu', hul'⟩ := hx (k + 1) hk
      have hw := (hR.walk (k + 1) hk).2.2 (by omega)
      rw [show k + 1 - 1 = k by omega] at hw
      dsimp only at hw
      rw [hu, hu', Int.toNat_natCast, Int.toNat_natCast] at hw
      obtain ⟨x, n', g1, g2, e0, e1, e2⟩ := told_at hT (who := who) (ratio := ratio) hul
      obtain ⟨x', n'', g1', g2', e0', e1', e2'⟩ := told_at hT (who := who) (ratio := ratio) hul'
      rw [e1, e0'] at hw
      rw [hu, Int.toNat_natCast, g1] at h1
      obtain rfl := Option.some.inj h1
      rw [hu', Int.toNat_natCast, show u' / ((J + 1) * (J + 1)) = n' by omega, g2]
      show some _ = some (dGo r (runFrom r y _ k) _ _)
      rw [(hstep k (by omega) u _ hu g1).2]
  have hlast : runFrom r y (lateOf J fun k => B (backs (egF who ratio E) B (m - 1 - k) V)) m = y := by
    obtain ⟨k, rfl⟩ : ∃ k, m = k + 1 := ⟨m - 1, by omega⟩
    have h1 := hat k (by omega)
    obtain ⟨u, hu, hul⟩ := hx k (by omega)
    obtain ⟨x, n', g1, g2, e0, e1, e2⟩ := told_at hT (who := who) (ratio := ratio) hul
    have hends := hR.ends
    have hu2 := hu
    rw [show k + 1 - 1 - k = 0 by omega] at hu2
    have hu3 : B V = u := hu2
    rw [hu3, Int.toNat_natCast, e1] at hends
    rw [hu, Int.toNat_natCast, g1] at h1
    obtain rfl := Option.some.inj h1
    rw [show n' = V by omega, hy] at g2
    show dGo r (runFrom r y _ k) _ _ = y
    rw [(hstep k (by omega) u _ hu g1).2]
    exact (Option.some.inj g2).symm
  have hsum : ∀ k, k ≤ m → wFrom r who ratio y (lateOf J fun k => B (backs (egF who ratio E) B (m - 1 - k) V)) k = wSum (egF who ratio E) (fun k => B (backs (egF who ratio E) B (m - 1 - k) V)) k := by
    intro k
    induction k with
    | zero => intro _; rfl
    | succ k ih =>
      intro hk
      have h1 := hat k (by omega)
      obtain ⟨u, hu, hul⟩ := hx k (by omega)
      obtain ⟨x, n', g1, g2, e0, e1, e2⟩ := told_at hT (who := who) (ratio := ratio) hul
      rw [hu, Int.toNat_natCast, g1] at h1
      obtain rfl := Option.some.inj h1
      show wFrom r who ratio y _ k + _ = wSum (egF who ratio E) _ k + egF who ratio E (B (backs (egF who ratio E) B (m - 1 - k) V)).toNat 2
      rw [ih (by omega), hu, Int.toNat_natCast, e2]
  refine ⟨hf0, hV, hl1, hm1, fun k hk => ?_, ?_, ?_⟩
  · obtain ⟨u, hu, hul⟩ := hx k hk
    obtain ⟨x, n', g1, g2, e0, e1, e2⟩ := told_at hT (who := who) (ratio := ratio) hul
    exact (hstep k hk u x hu g1).1
  · rw [hl2]; exact hlast
  · rw [hl2, hsum m (Nat.le_refl _)]; have := hR.more; omega
end Go.Proofs.YtgmljgcmfooniaaGreatDoor
/- VdLate -/
set_option linter.unusedVariables false
set_option linter.unusedSimpArgs false
namespace Go.Proofs.YtgmljgcmfooniaaGreatDoor
open Go.RowKit Go.Tide
set_option linter.unusedVariables false
set_option linter.unusedSimpArgs false
theorem late_nums (J n : Nat) (hJ : J ≤ 3) (hn : n ≤ 1000000) : IntKind.i64.wrap ((J : Int) + 1) = ((J + 1 : Nat) : Int) ∧ IntKind.i64.wrap (((J + 1 : Nat) : Int) * ((J + 1 : Nat) : Int)) = (((J + 1) * (J + 1) : Nat) : Int) ∧ (n : Int).tmod (((J + 1) * (J + 1) : Nat) : Int) = ((n % ((J + 1) * (J + 1)) : Nat) : Int) ∧
    ((n % ((J + 1) * (J + 1)) : Nat) : Int).tdiv ((J + 1 : Nat) : Int) = ((n % ((J + 1) * (J + 1)) / (J + 1) : Nat) : Int) ∧ (n : Int).tmod ((J + 1 : Nat) : Int) = ((n % (J + 1) : Nat) : Int) := by
  have h1 : (J + 1) * (J + 1) ≤ 4 * 4 := Nat.mul_le_mul (by omega) (by omega)
  refine ⟨?_, ?_, ?_, ?_, ?_⟩
  · rw [IntWalk.i64_in _ (by omega)]; omega
  · rw [← Int.natCast_mul]; exact IntWalk.i64_in _ (by omega)
  · exact (Int.ofNat_tmod _ _).symm
  · exact (Int.ofNat_tdiv _ _).symm
  · exact (Int.ofNat_tmod _ _).symm
set_option maxRecDepth 20000 in
set_option maxHeartbeats 1000000 in
theorem late_any (k0 k1 rate buf : Int) (J n : Nat) (w : World) (hJ : J ≤ 3) (hn : n ≤ 1000000) :
    Calls Tryz.prog 40 #[.agg #[.int .i64 k0, .int .i64 k1, .int .i64 rate, .int .i64 buf, .int .i64 (J : Nat)], .int .i64 (n : Nat)] w fun e w' => e = .returned (.agg #[.int .i64 ((n % ((J + 1) * (J + 1)) / (J + 1) : Nat) : Int), .int .i64 ((n % (J + 1) : Nat) : Int)]) ∧ More w w' := by
  obtain ⟨e1, e2, e3, e4, e5⟩ := late_nums J n hJ hn
  have hm0 : 0 < (J + 1) * (J + 1) := Nat.mul_pos (by omega) (by omega)
  have hm1 : (J + 1) * (J + 1) ≤ 4 * 4 := Nat.mul_le_mul (by omega) (by omega)
  have hb : n % ((J + 1) * (J + 1)) / (J + 1) ≤ 1000000 := Nat.le_trans (Nat.div_le_self _ _) (Nat.le_trans (Nat.mod_le _ _) hn)
  generalize hq : n % (J + 1) = rq at *
  generalize hr : n % ((J + 1) * (J + 1)) / (J + 1) = rr at *
  generalize hs : n % ((J + 1) * (J + 1)) = rs at *
  generalize hm : (J + 1) * (J + 1) = m at *
  have e0 : (J : Int) + 1 = ((J + 1 : Nat) : Int) := by omega
  generalize hj : J + 1 = q at *
  clear hq hr hs
  have hm3 : ¬ m = 0 := by omega
  have hq3 : ¬ q = 0 := by omega
  have e6 : IntKind.i64.wrap (rr : Int) = (rr : Int) := IntWalk.i64_in _ (by omega)
  clear hm hj hm0 hm1
  go_enter Tryz.func40, Tryz.ntmps40
  go_wp2_with fail
  have hB : Blk ((w.alloc (.cells #[.int .i64 k0, .int .i64 k1, .int .i64 rate, .int .i64 buf, .int .i64 (J : Nat)] 32)).alloc (.cells #[.int .i64 0, .int .i64 0] 30)) (w.heap.size + 1) 30 #[.int .i64 0, .int .i64 0] := (by repeat (first | (with_reducible assumption) | ((with_reducible refine Blk.new' ?_); (simp [Nat.add_assoc]; done)) | (with_reducible refine Blk.alloc ?_ _) | (with_reducible refine Blk.more ?_ _ _) | (with_reducible refine Blk.drew ?_) | (with_reducible refine Blk.drewN ?_ _)))
  have HM : Hid (Below w.heap.size w ((w.alloc (.cells #[.int .i64 k0, .int .i64 k1, .int .i64 rate, .int .i64 buf, .int .i64 (J : Nat)] 32)).alloc (.cells #[.int .i64 0, .int .i64 0] 30))) := More.below (by repeat (first | (with_reducible assumption) | (with_reducible exact More.refl _) | (with_reducible refine More.alloc ?_ _) | (with_reducible refine More.more ?_ _ _) | (with_reducible refine More.drewN ?_ _) | (with_reducible refine More.drew ?_)))
  generalize ((w.alloc (.cells #[.int .i64 k0, .int .i64 k1, .int .i64 rate, .int .i64 buf, .int .i64 (J : Nat)] 32)).alloc (.cells #[.int .i64 0, .int .i64 0] 30)) = w2 at *
  refine wp_region_held_drew (S := (fun _ => True)) (by kernel_rfl) ?_ (fun hHeld => ?_)
  · exact trivial
  refine tk0 0 rfl ?_; try simp only [lay]
  refine tk0 1 rfl ?_; try simp only [lay]
  refine tk0 2 rfl ?_; try simp only [lay]
  refine tk0 3 rfl ?_; try simp only [lay]
  refine tk0 4 rfl ?_; try simp only [lay]
  refine tk0 5 rfl ?_; try simp only [lay]
  refine tk0 6 rfl ?_; try simp only [lay]
  refine tk0 7 rfl ?_; try simp only [lay]
  refine tk0 8 rfl ?_; try simp only [lay]
  refine tk0 9 rfl ?_; try simp only [lay]
  refine tk0 10 rfl ?_; try simp only [lay]
  refine wpAnyH_ready (rs := [11]) (by kernel_rfl) (by simp) ?_
  refine AllReadyH.cons rfl (fun K hK => ?_) AllReadyH.nil
  have c0 : w2.drew.cell? ⟨w.heap.size + 1, 0, none⟩ = some (.int .i64 0) := hB.cell 0
  have c1 : w2.drew.cell? ⟨w.heap.size + 1, 1, none⟩ = some (.int .i64 0) := hB.cell 1
  have c2 : w2.drew.frozen? ⟨w.heap.size + 1, 0, none⟩ = false := hB.frozen 0
  have c3 : w2.drew.frozen? ⟨w.heap.size + 1, 1, none⟩ = false := hB.frozen 1
  have hB3 := hB.drew
  have HM3 : Hid (Below w.heap.size w w2.drew) := HM.out.drew
  generalize w2.drew = w3 at *
  go_simp
  refine hK.out _ _ ?_ (fun hHeld => ?_)
  · exact trivial
  clear hK K
  try simp only [lay]
  refine wpAnyH_done (by kernel_rfl) ?_ _
  go_wp2
  have hF : Blk ((w3.setCell ⟨w.heap.size + 1, 0, none⟩ (.int .i64 (rr : Nat))).setCell ⟨w.heap.size + 1, 1, none⟩ (.int .i64 (rq : Nat))) (w.heap.size + 1) 30 #[.int .i64 (rr : Nat), .int .i64 (rq : Nat)] := by
    have hh := (hB3.put 0 (.int .i64 (rr : Nat))).put 1 (.int .i64 (rq : Nat))
    simp only [List.setIfInBounds_toArray, List.set_cons_zero, List.set_cons_succ] at hh
    exact hh
  have x0 := hF.cell 0
  have x1 := hF.cell 1
  simp at x0 x1
  have HB : Hid (Below w.heap.size w ((w3.setCell ⟨w.heap.size + 1, 0, none⟩ (.int .i64 (rr : Nat))).setCell ⟨w.heap.size + 1, 1, none⟩ (.int .i64 (rq : Nat)))) := (HM3.out.setCell (p := ⟨w.heap.size + 1, 0, none⟩) (by dsimp only; omega) _).setCell (p := ⟨w.heap.size + 1, 1, none⟩) (by dsimp only; omega) _
  generalize ((w3.setCell ⟨w.heap.size + 1, 0, none⟩ (.int .i64 (rr : Nat))).setCell ⟨w.heap.size + 1, 1, none⟩ (.int .i64 (rq : Nat))) = wf at *
  refine bodyPost_ret (v := .agg #[.int .i64 (rr : Nat), .int .i64 (rq : Nat)]) ?_ rfl ?_
  · simp [results, Tryz.results40, go_sem, x0, x1]
  · exact ⟨rfl, More.of_below HB.out⟩
end Go.Proofs.YtgmljgcmfooniaaGreatDoor
/- VdJudge -/
set_option linter.unusedVariables false
set_option linter.unusedSimpArgs false
namespace Go.Proofs.YtgmljgcmfooniaaGreatDoor
open Go.RowKit Go.Shelf Go.Tide
set_option linter.unusedVariables false
set_option linter.unusedSimpArgs false
/-- What Judge answers. -/
def JPost (r : DRules) (J who : Nat) (ratio : Int) (w : World) (e : Ending) (w' : World) : Prop :=
  Below w.heap.size w w' ∧ ((dFin r J = none ∧ e = .returned (.tuple #[.agg #[.int .i64 0, .int .i64 0, .slice none 0 0, .slice none 0 0], .int .i64 4])) ∨
    (∃ M : Int, dFin r J ≠ none ∧ VB r who ratio M ∧ 0 ≤ M ∧ M ≤ 2000000000000 ∧ e = .returned (.tuple #[.agg #[.int .i64 1, .int .i64 M, .slice none 0 0, .slice none 0 0], .int .i64 0])) ∨
    (∃ ld lf a c m rf a2 c2, dFin r J ≠ none ∧ Starve r who ratio ld lf m rf ∧ ld ≤ 300 ∧ m ≤ 300 ∧ e = .returned (.tuple #[.agg #[.int .i64 2, .int .i64 0, .slice a ld c, .slice a2 m c2], .int .i64 0]) ∧ RowC w' 2 a ld lf ∧ RowC w' 2 a2 m rf))
def JBad (w : World) (e : Ending) (w' : World) : Prop := ∃ er : Int, (er = 2 ∨ er = 5) ∧ e = .returned (.tuple #[.agg #[.int .i64 0, .int .i64 0, .slice none 0 0, .slice none 0 0], .int .i64 er]) ∧ Below w.heap.size w w'
theorem wrong_er25 (k0 k1 rate buf jit : Int) (h : ¬ (dKind k0 ∧ dKind k1 ∧ dNums rate buf jit)) : ∃ er : Int, Hid (er ≠ 0) ∧ (er = 2 ∨ er = 5) ∧ ∀ W, Calls Tryz.prog 52 #[.agg #[.int .i64 k0, .int .i64 k1, .int .i64 rate, .int .i64 buf, .int .i64 jit]] W fun e w' => e = .returned (.int .i64 er) ∧ More W w' := by
  by_cases h0 : dKind k0
  · by_cases h1 : dKind k1
    · exact ⟨2, by show (2 : Int) ≠ 0; decide, .inl rfl, fun W => wrong_nums k0 k1 rate buf jit W h0 h1 (fun hn => h ⟨h0, h1, hn⟩)⟩
    · exact ⟨5, by show (5 : Int) ≠ 0; decide, .inr rfl, fun W => wrong_kind1 k0 k1 rate buf jit W h0 h1⟩
  · exact ⟨5, by show (5 : Int) ≠ 0; decide, .inr rfl, fun W => wrong_kind0 k0 k1 rate buf jit W h0⟩
theorem late_r (r : DRules) (J n : Nat) (hJ : Hid (r.jit = J)) (w : World) (hJ3 : J ≤ 3) (hn : n ≤ 1000000) :
    Calls Tryz.prog 40 #[.agg #[.int .i64 r.k0, .int .i64 r.k1, .int .i64 r.rate, .int .i64 r.buf, .int .i64 r.jit], .int .i64 (n : Nat)] w fun e w' => e = .returned (.agg #[.int .i64 ((n % ((J + 1) * (J + 1)) / (J + 1) : Nat) : Int), .int .i64 ((n % (J + 1) : Nat) : Int)]) ∧ More w w' := by
  have h := late_any r.k0 r.k1 r.rate r.buf J n w hJ3 hn
  have e : (Value.int .i64 (J : Int)) = .int .i64 r.jit := by rw [hJ.out]
  rw [e] at h
  exact h
theorem late_snoc {J : Nat} {x : Nat → Int} {k u : Nat} (h : x k = (u : Int)) : cellsC 2 (k + 1) (lateOf J x) = cellsC 2 k (lateOf J x) ++ [.int .i64 ((u % ((J + 1) * (J + 1)) / (J + 1) : Nat) : Int), .int .i64 ((u % (J + 1) : Nat) : Int)] := by
  rw [cellsC_succ]
  simp [lateOf, h, List.range_succ]
theorem rowC_setRow {w : World} {C : Nat} {a : Option Addr} {n g : Nat} {f : Nat → Nat → Int} (h : RowC w C a n f) (cs : Array Value) (hg : ∀ p : Addr, a = some p → g ≠ p.block) : RowC (w.setRow g cs) C a n f := by
  intro h0
  obtain ⟨b, off, rfl, hb, hc⟩ := h h0
  have hne : g ≠ b := hg _ rfl
  refine ⟨b, off, rfl, by simpa [World.setRow] using hb, fun k j hk hj => ?_⟩
  rw [← hc k j hk hj]
  exact cell_setRow_other w g cs _ (Ne.symm hne)
set_option maxRecDepth 20000 in
set_option maxHeartbeats 1000000 in
theorem judge_err (k0 k1 rate buf jit who ratio er : Int) (w : World) (he : Hid (er ≠ 0)) (hc : ∀ W, Calls Tryz.prog 36 #[.agg #[.int .i64 k0, .int .i64 k1, .int .i64 rate, .int .i64 buf, .int .i64 jit], .int .i64 who, .int .i64 ratio] W fun e w' => e = .returned (.tuple #[.agg #[.int .i64 0, .slice none 0 0], .int .i64 er]) ∧ More W w') :
    Calls Tryz.prog 12 #[.agg #[.int .i64 k0, .int .i64 k1, .int .i64 rate, .int .i64 buf, .int .i64 jit], .int .i64 who, .int .i64 ratio] w fun e w' => e = .returned (.tuple #[.agg #[.int .i64 0, .int .i64 0, .slice none 0 0, .slice none 0 0], .int .i64 er]) ∧ Below w.heap.size w w' := by
  have g : (er != 0) = true := by simpa using he.out
  have HC := Lib.hid hc
  clear hc
  go_enter Tryz.func12, Tryz.ntmps12
  go_wp2_with fail
  refine (HC.out _).mono ?_
  rintro e w1 ⟨rfl, os1, d1, rfl⟩
  go_wp2
  refine bodyPost_ret (v := .tuple #[.agg #[.int .i64 0, .int .i64 0, .slice none 0 0, .slice none 0 0], .int .i64 er]) ?_ rfl ?_
  · simp [results, Tryz.results12, go_sem]
  · exact ⟨rfl, More.below (by repeat (first | (with_reducible assumption) | (with_reducible exact More.refl _) | (with_reducible refine More.alloc ?_ _) | (with_reducible refine More.more ?_ _ _) | (with_reducible refine More.drewN ?_ _) | (with_reducible refine More.drew ?_)))⟩
theorem judge_bad (k0 k1 rate buf jit who ratio : Int) (w : World) (h : ¬ ((dKind k0 ∧ dKind k1 ∧ dNums rate buf jit) ∧ (0 ≤ who ∧ who ≤ 1) ∧ 1 ≤ ratio ∧ ratio ≤ 100)) :
    Calls Tryz.prog 12 #[.agg #[.int .i64 k0, .int .i64 k1, .int .i64 rate, .int .i64 buf, .int .i64 jit], .int .i64 who, .int .i64 ratio] w (JBad w) := by
  by_cases hb : who < 0 ∨ 1 < who ∨ ratio < 1 ∨ 100 < ratio
  · exact (judge_err k0 k1 rate buf jit who ratio 2 w (by show (2 : Int) ≠ 0; decide) fun W => graph_bad k0 k1 rate buf jit who ratio W hb).mono fun e w' ⟨h1, h2⟩ => ⟨2, .inl rfl, h1, h2⟩
  · have hK : ¬ (dKind k0 ∧ dKind k1 ∧ dNums rate buf jit) := fun hK => h ⟨hK, ⟨by omega, by omega⟩, by omega, by omega⟩
    obtain ⟨er, HE, h25, hcw⟩ := wrong_er25 k0 k1 rate buf jit hK
    exact (judge_err k0 k1 rate buf jit who ratio er w HE fun W => graph_w k0 k1 rate buf jit who ratio er W HE hcw (by omega) (by omega) (by omega) (by omega)).mono fun e w' ⟨h1, h2⟩ => ⟨er, h25, h1, h2⟩
set_option maxRecDepth 20000 in
set_option maxHeartbeats 8000000 in
theorem judge_any (r : DRules) (J : Nat) (hJ : Hid (r.jit = J)) (hr : r.ok) (who : Nat) (ratio : Int) (hw : who = 0 ∨ who = 1) (hra : 1 ≤ ratio ∧ ratio ≤ 100) (w : World) :
    Calls Tryz.prog 12 #[.agg #[.int .i64 r.k0, .int .i64 r.k1, .int .i64 r.rate, .int .i64 r.buf, .int .i64 r.jit], .int .i64 (who : Nat), .int .i64 ratio] w (JPost r J who ratio w) := by
  obtain ⟨i0_, hi, hz0, hz1, hz2⟩ := info_parts twoInfo
  have hJ3 : J ≤ 3 := by have h := hr.2.2.2.2.2.2; have h2 := hJ.out; rw [h2] at h; omega
  have HR := Lib.hid hr
  have HW := Lib.hid hw
  have HRA := Lib.hid hra
  clear hr hw hra
  go_enter Tryz.func12, Tryz.ntmps12
  go_wp2_with fail
  have hm : More w ((w.alloc (.cells #[.int .i64 r.k0, .int .i64 r.k1, .int .i64 r.rate, .int .i64 r.buf, .int .i64 r.jit] 32)).alloc (.cells #[.int .i64 0, .int .i64 0, .slice none 0 0, .slice none 0 0] 36)) := (by repeat (first | (with_reducible assumption) | (with_reducible exact More.refl _) | (with_reducible refine More.alloc ?_ _) | (with_reducible refine More.more ?_ _ _) | (with_reducible refine More.drewN ?_ _) | (with_reducible refine More.drew ?_)))
  have hB1 : Blk ((w.alloc (.cells #[.int .i64 r.k0, .int .i64 r.k1, .int .i64 r.rate, .int .i64 r.buf, .int .i64 r.jit] 32)).alloc (.cells #[.int .i64 0, .int .i64 0, .slice none 0 0, .slice none 0 0] 36)) w.heap.size 32 #[.int .i64 r.k0, .int .i64 r.k1, .int .i64 r.rate, .int .i64 r.buf, .int .i64 r.jit] := (by repeat (first | (with_reducible assumption) | ((with_reducible refine Blk.new' ?_); (simp [Nat.add_assoc]; done)) | (with_reducible refine Blk.alloc ?_ _) | (with_reducible refine Blk.more ?_ _ _) | (with_reducible refine Blk.drew ?_) | (with_reducible refine Blk.drewN ?_ _)))
  have hB2 : Blk ((w.alloc (.cells #[.int .i64 r.k0, .int .i64 r.k1, .int .i64 r.rate, .int .i64 r.buf, .int .i64 r.jit] 32)).alloc (.cells #[.int .i64 0, .int .i64 0, .slice none 0 0, .slice none 0 0] 36)) (w.heap.size + 1) 36 #[.int .i64 0, .int .i64 0, .slice none 0 0, .slice none 0 0] := (by repeat (first | (with_reducible assumption) | ((with_reducible refine Blk.new' ?_); (simp [Nat.add_assoc]; done)) | (with_reducible refine Blk.alloc ?_ _) | (with_reducible refine Blk.more ?_ _ _) | (with_reducible refine Blk.drew ?_) | (with_reducible refine Blk.drewN ?_ _)))
  have hlg := hB2.lt
  generalize ((w.alloc (.cells #[.int .i64 r.k0, .int .i64 r.k1, .int .i64 r.rate, .int .i64 r.buf, .int .i64 r.jit] 32)).alloc (.cells #[.int .i64 0, .int .i64 0, .slice none 0 0, .slice none 0 0] 36)) = wz at *
  have hmb := hm.below
  have hms := hmb.size
  refine (graph_any r J hJ HR.out who ratio HW.out HRA.out _).mono ?_
  intro e w2 hP
  obtain ⟨hb1, hP⟩ := hP
  have hB1' := hB1.below hb1 (by omega)
  have hB2' := hB2.below hb1 hlg
  have HM : Hid (Below w.heap.size w w2) := hmb.trans (hb1.mono hms)
  have hws := HM.out.size
  have lv := hB2'.lt
  clear hm hB1 hB2 hmb hb1
  rcases hP with ⟨s, E, a, c, hF, hG, hT, he, hrow⟩ | ⟨hF, he⟩
  case inr =>
    subst he
    have HF := Lib.hid hF
    have hB2'' := hB2'.alloc (.cells #[.int .i64 0, .slice none 0 0] 80)
    have HBF : Hid (Below w.heap.size w ((w2.alloc (.cells #[.int .i64 0, .slice none 0 0] 80)).setRow (w.heap.size + 1) #[.int .i64 0, .int .i64 0, .slice none 0 0, .slice none 0 0])) := below_setRow (HM.out.alloc (by omega) _) (by omega) _
    clear hF
    go_wp2_with (refine wpList_store_row rfl _ _ _ rfl (w.heap.size + 1) #[.int .i64 0, .int .i64 0, .slice none 0 0, .slice none 0 0] rfl rfl 36 #[.int .i64 0, .int .i64 0, .slice none 0 0, .slice none 0 0] hB2'' (by kernel_rfl) rfl (by simp [Value.oneCell']) ?_)
    have hX : Blk ((w2.alloc (.cells #[.int .i64 0, .slice none 0 0] 80)).setRow (w.heap.size + 1) #[.int .i64 0, .int .i64 0, .slice none 0 0, .slice none 0 0]) (w.heap.size + 1) 36 #[.int .i64 0, .int .i64 0, .slice none 0 0, .slice none 0 0] := setRow_heap _ _ _ _ _ _ hB2''
    clear hB2'' hB2' hB1'
    generalize ((w2.alloc (.cells #[.int .i64 0, .slice none 0 0] 80)).setRow (w.heap.size + 1) #[.int .i64 0, .int .i64 0, .slice none 0 0, .slice none 0 0]) = wf at *
    have x0 : wf.cell? ⟨w.heap.size + 1, 0, none⟩ = some (.int .i64 0) := hX.cell 0
    have x1 : wf.cell? ⟨w.heap.size + 1, 1, none⟩ = some (.int .i64 0) := hX.cell 1
    have x2 : wf.cell? ⟨w.heap.size + 1, 2, none⟩ = some (.slice none 0 0) := hX.cell 2
    have x3 : wf.cell? ⟨w.heap.size + 1, 3, none⟩ = some (.slice none 0 0) := hX.cell 3
    refine bodyPost_ret (v := .tuple #[.agg #[.int .i64 0, .int .i64 0, .slice none 0 0, .slice none 0 0], .int .i64 4]) ?_ rfl ?_
    · simp [results, Tryz.results12, go_sem, x0, x1, x2, x3]
    · exact ⟨HBF.out, .inl ⟨HF.out, rfl⟩⟩
  subst he
  have hGR := told_right HR.out hJ3 hG hT (who := who) HRA.out
  have hpos : 1 ≤ s.l.length := (finv_run (m_pos J) (by omega) _ _ hF : FInv (dNx r J) ((J + 1) * (J + 1)) 300 (dBegin r) (300 * ((J + 1) * (J + 1))) s).pos
  have HF := Lib.hid hF
  have HG := Lib.hid hG
  have HT := Lib.hid hT
  have HGR := Lib.hid hGR
  have hEn := hGR.2.2.1
  have hln : s.l.length ≤ 300 := hG.le
  clear hF hG hT hGR
  go_wp2_with fail
  have hGB : Blk (w2.alloc (.cells #[.int .i64 s.l.length, .slice a E.length c] 80)) w2.heap.size 80 #[.int .i64 s.l.length, .slice a E.length c] := (by repeat (first | (with_reducible assumption) | ((with_reducible refine Blk.new' ?_); (simp [Nat.add_assoc]; done)) | (with_reducible refine Blk.alloc ?_ _) | (with_reducible refine Blk.more ?_ _ _) | (with_reducible refine Blk.drew ?_) | (with_reducible refine Blk.drewN ?_ _)))
  have hB3 := hB1'.alloc (.cells #[.int .i64 s.l.length, .slice a E.length c] 80)
  have hV3 := hB2'.alloc (.cells #[.int .i64 s.l.length, .slice a E.length c] 80)
  have hrow3 : RowC (w2.alloc (.cells #[.int .i64 s.l.length, .slice a E.length c] 80)) 3 a E.length (egF who ratio E) := hrow.alloc _
  have HM3 : Hid (Below w.heap.size w (w2.alloc (.cells #[.int .i64 s.l.length, .slice a E.length c] 80))) := HM.out.alloc (by omega) _
  have hGlt : w.heap.size + 1 < w2.heap.size := lv
  generalize (w2.alloc (.cells #[.int .i64 s.l.length, .slice a E.length c] 80)) = w3 at *
  generalize w2.heap.size = G at *
  clear hB1' hB2' hrow HM
  have hs3 := HM3.out.size
  have lV3 := hV3.lt
  have lG3 := hGB.lt
  refine (most_any s.l.length a E.length c (egF who ratio E) w3 hrow3 HGR.out).mono ?_
  rintro e w4 ⟨hP, hb4⟩
  have hB4 := hB3.below hb4 hB3.lt
  have hV4 := hV3.below hb4 lV3
  have hGB4 := hGB.below hb4 lG3
  have hrow4 : RowC w4 3 a E.length (egF who ratio E) := hrow3.below hb4 (Nat.le_refl _)
  have HM4 : Hid (Below w.heap.size w w4) := HM3.out.trans (hb4.mono hs3)
  have hs4 := HM4.out.size
  clear hB3 hV3 hGB hrow3 HM3 hb4
  have lG4 := hGB4.lt
  rcases hP with ⟨hL, rfl⟩ | ⟨hL, g, rfl, -, hrm⟩
  case inr =>
    have HL := Lib.hid hL
    clear hL
    go_wp2_with fail
    refine (max_any (some ⟨g, 0, none⟩) s.l.length s.l.length _ _ hrm (by omega) (by omega)).mono ?_
    rintro e w5 ⟨M, rfl, hM, hw5⟩
    subst hw5
    have HV : Hid (VB r who ratio M ∧ 0 ≤ M ∧ M ≤ 2000000000000) := by
      refine ⟨bounded_of HR.out hJ.out hJ3 HF.out HG.out HT.out HRA.out HL.out hM.2, ?_⟩
      obtain ⟨k, hk, hkm⟩ := hM.1
      rw [← hkm]
      exact solved_mb HGR.out k hk
    have HBF : Hid (Below w.heap.size w (w4.setRow (w.heap.size + 1) #[.int .i64 1, .int .i64 M, .slice none 0 0, .slice none 0 0])) := below_setRow HM4.out (by omega) _
    clear hM hrm
    go_wp2_with (refine wpList_store_row rfl _ _ _ rfl (w.heap.size + 1) #[.int .i64 1, .int .i64 M, .slice none 0 0, .slice none 0 0] rfl rfl 36 #[.int .i64 0, .int .i64 0, .slice none 0 0, .slice none 0 0] hV4 (by kernel_rfl) rfl (by simp [Value.oneCell']) ?_)
    have hX : Blk (w4.setRow (w.heap.size + 1) #[.int .i64 1, .int .i64 M, .slice none 0 0, .slice none 0 0]) (w.heap.size + 1) 36 #[.int .i64 1, .int .i64 M, .slice none 0 0, .slice none 0 0] := setRow_heap _ _ _ _ _ _ hV4
    clear hV4 hB4 hGB4
    generalize (w4.setRow (w.heap.size + 1) #[.int .i64 1, .int .i64 M, .slice none 0 0, .slice none 0 0]) = wf at *
    have x0 : wf.cell? ⟨w.heap.size + 1, 0, none⟩ = some (.int .i64 1) := hX.cell 0
    have x1 : wf.cell? ⟨w.heap.size + 1, 1, none⟩ = some (.int .i64 M) := hX.cell 1
    have x2 : wf.cell? ⟨w.heap.size + 1, 2, none⟩ = some (.slice none 0 0) := hX.cell 2
    have x3 : wf.cell? ⟨w.heap.size + 1, 3, none⟩ = some (.slice none 0 0) := hX.cell 3
    refine bodyPost_ret (v := .tuple #[.agg #[.int .i64 1, .int .i64 M, .slice none 0 0, .slice none 0 0], .int .i64 0]) ?_ rfl ?_
    · simp [results, Tryz.results12, go_sem, x0, x1, x2, x3]
    · exact ⟨HBF.out, .inr (.inl ⟨M, by rw [HF.out]; simp, HV.out.1, HV.out.2.1, HV.out.2.2, rfl⟩)⟩
  obtain ⟨v, m, V, hv, hR⟩ := cycle_round HGR.out hL
  obtain ⟨hf0, hVl, hst⟩ := starves_of HR.out hJ.out hJ3 HF.out HG.out HT.out HRA.out hR
  have hm1 := hR.many.1
  have hm2 : m ≤ 300 := by have := hR.many.2; omega
  have hxs : Hid (∀ k, k < m → ∃ u : Nat, (solved (egF who ratio E) E.length s.l.length).B (backs (egF who ratio E) (solved (egF who ratio E) E.length s.l.length).B (m - 1 - k) V) = u ∧ u < E.length) := fun k hk => by
    obtain ⟨h1, h2, -⟩ := hR.walk k hk
    dsimp only at h1 h2
    exact ⟨((solved (egF who ratio E) E.length s.l.length).B (backs (egF who ratio E) (solved (egF who ratio E) E.length s.l.length).B (m - 1 - k) V)).toNat, by omega, by omega⟩
  have HRd := Lib.hid hR
  have HST := Lib.hid hst
  have HF0 := Lib.hid hf0
  have HV0 := Lib.hid hv
  have d0 : decide (0 ≤ (solved (egF who ratio E) E.length s.l.length).L) = true := by simpa using hL
  clear hR hst hf0 hv hL
  have y0 : w4.cell? ⟨G, 0, none⟩ = some (.int .i64 s.l.length) := hGB4.cell 0
  have y1 : w4.cell? ⟨G, 1, none⟩ = some (.slice a E.length c) := hGB4.cell 1
  go_wp2_with fail
  refine (cycle_any s.l.length a E.length c (egF who ratio E) w4 hrow4 HGR.out v m _ V HV0.out rfl (Lib.hid HRd.out.at_) HRd.out.right HRd.out.many HRd.out.round HRd.out.once).mono ?_
  rintro e W5 ⟨g9, c9, rfl, hc9, hr9, hb5⟩
  have hB5 := hB4.below hb5 hB4.lt
  have hV5 := hV4.below hb5 hV4.lt
  have hGB5 := hGB4.below hb5 lG4
  have hrow5 : RowC W5 3 a E.length (egF who ratio E) := hrow4.below hb5 (Nat.le_refl _)
  have HM5 : Hid (Below w.heap.size w W5) := HM4.out.trans (hb5.mono hs4)
  have hs5 := HM5.out.size
  obtain ⟨u, hu, hul⟩ := hxs.out 0 (by omega)
  rw [Nat.sub_zero] at hu
  have hfe := HF0.out
  rw [hu, Int.toNat_natCast] at hfe
  obtain ⟨b, off, rfl, lb, hce⟩ := hrow5 (by omega)
  have pe : W5.cell? ⟨b, off + u * 3, none⟩ = some (.int .i64 (V : Nat)) := by
    have h := hce u 0 hul (by omega)
    rw [hfe] at h
    exact h
  obtain ⟨b9, o9, y9, hbo9, l9', hc0, hy9⟩ := hr9.at_ (k := 0) (by omega)
  cases hbo9
  have pc : W5.cell? ⟨g9, 0, none⟩ = some (.int .i64 (u : Nat)) := by
    have h := hy9.out
    try dsimp only at h
    rw [Nat.sub_zero, hu] at h
    rw [← h]
    exact hc0
  have l9 : g9 < W5.heap.size := l9'
  have pg : W5.cell? ⟨G, 1, none⟩ = some (.slice (some ⟨b, off, none⟩) E.length c) := hGB5.cell 1
  have lG := hGB5.lt
  have lR := hB5.lt
  have lV := hV5.lt
  have hrR : W5.rangeAt w.heap.size 0 [.int .i64 r.k0, .int .i64 r.k1, .int .i64 r.rate, .int .i64 r.buf, .int .i64 r.jit] := blk_range (cs := [.int .i64 r.k0, .int .i64 r.k1, .int .i64 r.rate, .int .i64 r.buf, .int .i64 r.jit]) hB5
  have tt1 : 0 < m := by omega
  have tt2 : (u : Int) < (E.length : Int) := by omega
  have tt3 : (0 : Int) ≤ (u : Int) := by omega
  clear y0 y1 hB4 hV4 hGB4 hrow4 HM4 hb5 hce hc0 hy9 hfe hu hrow5 l9'
  go_wp2_with fail
  refine wp_region_held_drew (S := fun w' => Below W5.heap.size W5 w') (by kernel_rfl) ?_ (fun hHeld => ?_)
  · exact (Below.refl _ _).drew
  refine wpAnyH_take (i := 0) (v := .agg #[.int .i64 r.k0, .int .i64 r.k1, .int .i64 r.rate, .int .i64 r.buf, .int .i64 r.jit]) rfl (by kernel_rfl) (by kernel_rfl) (by kernel_rfl) (fun _ _ _ h => h) (yieldsIf_load_mid (by rfl) _ _ rfl w.heap.size 0 rfl [.int .i64 r.k0, .int .i64 r.k1, .int .i64 r.rate, .int .i64 r.buf, .int .i64 r.jit] _ (fun w' hw => range_below hrR hw lR) Tryz.underlying32 rfl (by kernel_rfl)) (by assumption) ?_
  try simp only [lay]
  refine tk0 1 rfl ?_; try simp only [lay]
  refine tk 2 (.slice (some ⟨b, off, none⟩) E.length c) rfl ⟨by rfl, fun w' hSw => by have hl := (hSw.cell (p := ⟨G, 1, none⟩) lG).trans pg; clear hSw; go_simp; try (with_reducible rfl)⟩ ?_; try simp only [lay]
  refine tk0 3 rfl ?_; try simp only [lay]
  refine tk0 4 rfl ?_; try simp only [lay]
  refine tk 5 (.int .i64 (u : Nat)) rfl ⟨by rfl, fun w' hSw => by have hl := (hSw.cell (p := ⟨g9, 0, none⟩) l9).trans pc; clear hSw; go_simp; try (with_reducible rfl)⟩ ?_; try simp only [lay]
  refine tk0 6 rfl ?_; try simp only [lay]
  refine tk0 7 rfl ?_; try simp only [lay]
  refine tk 8 (.int .i64 (V : Nat)) rfl ⟨by rfl, fun w' hSw => by have hl := (hSw.cell (p := ⟨b, off + u * 3, none⟩) lb).trans pe; clear hSw; go_simp; try (with_reducible rfl)⟩ ?_; try simp only [lay]
  refine wpAnyH_ready (rs := [9]) (by kernel_rfl) (by simp) ?_
  refine AllReadyH.cons rfl (fun K hK => ?_) AllReadyH.nil
  go_simp
  refine (lead_nat r J hJ HR.out V _).mono ?_
  rintro e w11 ⟨hbL, hcL⟩
  have he : ∃ a c, e = .returned (.tuple #[.slice a (leadAt s 300 V).length c, .int .i64 0]) ∧ RowC w11 2 a (leadAt s 300 V).length (drF J (leadAt s 300 V).reverse) ∧ ∀ p : Addr, a = some p → W5.heap.size ≤ p.block := by
    rcases hcL with ⟨s', a, c, h1, h, h2, h3, h4⟩ | ⟨s', h1, h, _⟩ | ⟨h1, h⟩
    · rw [HF.out] at h1
      obtain rfl := Option.some.inj h1
      exact ⟨a, c, h2, h3, fun p hp => Nat.le_trans hHeld.size (h4 p hp)⟩
    · rw [HF.out] at h1
      obtain rfl := Option.some.inj h1
      omega
    · rw [HF.out] at h1; cases h1
  obtain ⟨aL, cL, rfl, hrL, hfL⟩ := he
  clear hcL
  have hH' : Below W5.heap.size W5 w11 := hHeld.trans (hbL.mono hHeld.size)
  clear hHeld hbL
  refine hK.out _ _ ?_ (fun hHeld => ?_)
  · exact hH'
  clear hK K hH'
  try simp only [lay]
  refine tk0 10 rfl ?_; try simp only [lay]
  refine tk0 11 rfl ?_; try simp only [lay]
  refine tk0 12 rfl ?_; try simp only [lay]
  refine tk0 13 rfl ?_; try simp only [lay]
  refine tk0 14 rfl ?_; try simp only [lay]
  refine wpAnyH_done (by kernel_rfl) ?_ _
  have hB6 := hB5.below hHeld lR
  have hV6 := hV5.below hHeld lV
  have hr6 := hr9.below hHeld (Nat.le_refl _)
  have HM6 : Hid (Below w.heap.size w w11) := HM5.out.trans (hHeld.mono hs5)
  have hs6 := HM6.out.size
  have hs56 := hHeld.size
  obtain ⟨P, hP⟩ : ∃ P, Hid ((leadAt s 300 V).length = P) := ⟨_, rfl⟩
  obtain ⟨lf, hlf⟩ : ∃ lf, Hid (drF J (leadAt s 300 V).reverse = lf) := ⟨_, rfl⟩
  have HP3 : Hid (P ≤ 300) := by
    have h := lead_len (finv_run (m_pos J) (by omega) _ _ HF.out : FInv (dNx r J) ((J + 1) * (J + 1)) 300 (dBegin r) (300 * ((J + 1) * (J + 1))) s) 300 V hVl
    show P ≤ 300
    rw [← hP.out]
    omega
  rw [hP.out, hlf.out] at hrL HST
  rw [hP.out]
  have HXS : Hid (∀ k, k < m → ∃ u : Nat, (fun k => (solved (egF who ratio E) E.length s.l.length).B (backs (egF who ratio E) (solved (egF who ratio E) E.length s.l.length).B (m - 1 - k) V)) k = u ∧ u < E.length) := hxs.out
  clear hxs
  generalize (fun k => (solved (egF who ratio E) E.length s.l.length).B (backs (egF who ratio E) (solved (egF who ratio E) E.length s.l.length).B (m - 1 - k) V)) = x at *
  clear hHeld hB5 hV5 hr9 HM5 pe pc pg hGB5 hrR HRd HF0 HV0 tt1 tt2 tt3 d0 hP hlf
  go_upto_region 12 with (refine wpList_store_row rfl _ _ _ rfl w11.heap.size #[.int .i64 2, .int .i64 0, .slice aL P cL, .slice none 0 0] rfl rfl 36 #[.int .i64 0, .int .i64 0, .slice none 0 0, .slice none 0 0] (Blk.new w11 _ _) (by kernel_rfl) rfl (by simp [Value.oneCell']) ?_)
  have hV := (newRow : Blk ((w11.alloc (.cells #[.int .i64 0, .int .i64 0, .slice none 0 0, .slice none 0 0] 36)).setRow w11.heap.size #[.int .i64 2, .int .i64 0, .slice aL P cL, .slice none 0 0]) w11.heap.size 36 #[.int .i64 2, .int .i64 0, .slice aL P cL, .slice none 0 0])
  have hnb : Below w11.heap.size w11 ((w11.alloc (.cells #[.int .i64 0, .int .i64 0, .slice none 0 0, .slice none 0 0] 36)).setRow w11.heap.size #[.int .i64 2, .int .i64 0, .slice aL P cL, .slice none 0 0]) := newRow_below
  generalize ((w11.alloc (.cells #[.int .i64 0, .int .i64 0, .slice none 0 0, .slice none 0 0] 36)).setRow w11.heap.size #[.int .i64 2, .int .i64 0, .slice aL P cL, .slice none 0 0]) = wL at *
  have hB7 := hB6.below hnb hB6.lt
  have hV7 := hV6.below hnb hV6.lt
  have HM7 : Hid (Below w.heap.size w wL) := HM6.out.trans (hnb.mono hs6)
  have hs7 := HM7.out.size
  have l6R := hB6.lt
  have l6V := hV6.lt
  have l69 : g9 < w11.heap.size := by omega
  have hlL := hV.lt
  have HNB := Lib.hid hnb
  clear hnb hB6 hV6 HM6
  generalize hV1e : w11.heap.size = V1 at *
  go_wp2_with fail
  go_loopw [64] (fun q wr => ∃ (k : Nat) (sv : Value), q = .int .i64 k ∧ k ≤ m ∧ Blk wr V1 36 #[.int .i64 2, .int .i64 0, .slice aL P cL, sv] ∧ wr.ownsRow (V1 + 1) 30 2 sv k (cellsC 2 k (lateOf J x)) ∧ Below V1 wL wr) (fun q _ => m - (intOf q).toNat)
  case atStart => exact ⟨0, _, rfl, Nat.zero_le _, hV, World.ownsRow_nil _ _ _ _, Below.refl _ _⟩
  case round =>
    obtain ⟨k, sv, rfl, hk, hV, hown, hbw⟩ := hrel
    have hszw := hbw.size
    by_cases hlt : k < m
    · obtain ⟨u, hu, hul⟩ := HXS.out k hlt
      have hRr := hB7.below hbw l6R
      obtain ⟨b9, o9, y9, hbo9, l9', hc0, hy9⟩ := hr6.at_ hlt
      cases hbo9
      have hcu : wr.cell? ⟨g9, k, none⟩ = some (.int .i64 (u : Nat)) := by
        have h := hy9.out
        rw [hu] at h
        rw [← h, ← hc0, Nat.zero_add]
        exact (HNB.out.trans hbw).cell (p := ⟨g9, k, none⟩) l69
      have tt1 : (k : Int) < (m : Int) := by omega
      have tt2 : (0 : Int) ≤ (k : Int) := by omega
      have lVr := hV.lt
      clear hc0 hy9 l9'
      go_upto_region 15 with fail
      refine wp_region_two (S := (fun w' => Blk w' V1 36 #[.int .i64 2, .int .i64 0, .slice aL P cL, sv] ∧ Blk w' w.heap.size 32 #[.int .i64 r.k0, .int .i64 r.k1, .int .i64 r.rate, .int .i64 r.buf, .int .i64 r.jit])) 8 (by kernel_rfl) ?_ (fun hHeld => ?_)
      · exact ⟨hV.drew, hRr.drew⟩
      have hV' := hV.drew
      have hR' := hRr.drew
      have ho' : wr.drew.ownsRow (V1 + 1) 30 2 sv k (cellsC 2 k (lateOf J x)) := hown
      have hbe' := hbw.drew
      have lV' := hV'.lt
      clear hV hRr hown hbw
      generalize wr.drew = w4 at *
      refine t2 0 ?_ rfl ⟨by rfl, ?_⟩ ?_
      rotate_left 1
      · intro w' hSw
        obtain ⟨hs1, hs2⟩ := hSw
        have f3 := hs1.cell 3
        have g0 := hs2.cell 0
        have g1 := hs2.cell 1
        have g2 := hs2.cell 2
        have g3 := hs2.cell 3
        have g4 := hs2.cell 4
        simp at f3 g0 g1 g2 g3 g4
        clear hs1 hs2
        go_simp
        try (with_reducible rfl)
      try simp only [lay]
      refine t2 1 ?_ rfl ⟨by rfl, ?_⟩ ?_
      rotate_left 1
      · intro w' hSw
        obtain ⟨hs1, hs2⟩ := hSw
        have f3 := hs1.cell 3
        have g0 := hs2.cell 0
        have g1 := hs2.cell 1
        have g2 := hs2.cell 2
        have g3 := hs2.cell 3
        have g4 := hs2.cell 4
        simp at f3 g0 g1 g2 g3 g4
        clear hs1 hs2
        go_simp
        try (with_reducible rfl)
      try simp only [lay]
      refine t2 2 ?_ rfl ⟨by rfl, ?_⟩ ?_
      rotate_left 1
      · intro w' hSw
        obtain ⟨hs1, hs2⟩ := hSw
        have f3 := hs1.cell 3
        have g0 := hs2.cell 0
        have g1 := hs2.cell 1
        have g2 := hs2.cell 2
        have g3 := hs2.cell 3
        have g4 := hs2.cell 4
        simp at f3 g0 g1 g2 g3 g4
        clear hs1 hs2
        go_simp
        try (with_reducible rfl)
      try simp only [lay]
      refine t2 3 ?_ rfl ⟨by rfl, ?_⟩ ?_
      rotate_left 1
      · intro w' hSw
        obtain ⟨hs1, hs2⟩ := hSw
        have f3 := hs1.cell 3
        have g0 := hs2.cell 0
        have g1 := hs2.cell 1
        have g2 := hs2.cell 2
        have g3 := hs2.cell 3
        have g4 := hs2.cell 4
        simp at f3 g0 g1 g2 g3 g4
        clear hs1 hs2
        go_simp
        try (with_reducible rfl)
      try simp only [lay]
      refine two_ready (rs := [4]) (by kernel_rfl) (by kernel_rfl) (by simp) ?_
      refine AllReadyB.cons rfl (fun K hK => ?_) AllReadyB.nil
      go_simp
      refine (late_r r J u hJ _ (by omega) (by omega)).mono ?_
      rintro e w' ⟨rfl, os, d, rfl⟩
      have hV2 := hV'.more os d
      have hR2 := hR'.more os d
      have ho2 : (w4.more os d).ownsRow (V1 + 1) 30 2 sv k (cellsC 2 k (lateOf J x)) := own_more ho' os d
      have hbe2 := hbe'.more (by omega) os d
      clear hV' hR' ho' hbe'
      generalize w4.more os d = w6 at *
      refine hK.out _ _ ?_ (fun hHeld => ?_)
      · exact ⟨hV2, hR2⟩
      clear hK K
      try simp only [lay]
      refine two_ready (rs := [5]) (by kernel_rfl) (by kernel_rfl) (by simp) ?_
      refine AllReadyB.cons rfl (fun K hK => ?_) AllReadyB.nil
      go_simp
      have hT := Blk.new w6 30 #[.int .i64 ((u % ((J + 1) * (J + 1)) / (J + 1) : Nat) : Int), .int .i64 ((u % (J + 1) : Nat) : Int)]
      have lV6 := hV2.lt
      refine hK.out _ _ ?_ (fun hHeld => ?_)
      · exact ⟨hV2.alloc _, hR2.alloc _⟩
      clear hK K
      try simp only [lay]
      refine two_ready (rs := [6]) (by kernel_rfl) (by kernel_rfl) (by simp) ?_
      refine AllReadyB.cons rfl (fun K hK => ?_) AllReadyB.nil
      refine step_append_lies _ (by rfl) _ _ _ (by rfl) (V1 + 1) 30 i0_ _ 2 16 Tryz.underlying29 hi hz0 hz1 hz2 rfl (by omega) sv k (cellsC 2 k (lateOf J x)) (by rfl) (ho2.alloc _) _ 1 1 [.int .i64 ((u % ((J + 1) * (J + 1)) / (J + 1) : Nat) : Int), .int .i64 ((u % (J + 1) : Nat) : Int)] (by rfl) (by rfl) (hT.news) (by simp [Value.oneCell']) (by omega) (by simp only [maxLen]; omega) (by omega) (by simp; omega) _ rfl ?_
      intro gg cap w7 hown7 hgrow hat hlt7
      have vV : sv.ownBlock ≠ some V1 := fun e => by have := (own_lt ho2 e).1; omega
      have vR : sv.ownBlock ≠ some w.heap.size := fun e => by have := (own_lt ho2 e).1; omega
      have hV7 := (hV2.alloc _).grown hgrow (fun e => vV e.symm)
      have hR7 := (hR2.alloc _).grown hgrow (fun e => vR e.symm)
      have hbe7 := (hbe2.alloc (by omega) _).grown hgrow (by simp; omega) (fun g e => by have := (own_lt ho2 e).1; omega)
      refine hK.out _ _ ?_ (fun hHeld => ?_)
      · exact ⟨hV7, hR7⟩
      clear hK K
      try simp only [lay]
      refine p20 7 rfl ?_; try simp only [lay]
      refine two_ready (rs := [8]) (by kernel_rfl) (by kernel_rfl) (by simp) ?_
      refine AllReadyB.last rfl (fun K hK => ?_)
      have q3 := hV7.cell 3
      have z3 := hV7.frozen 3
      simp at q3
      go_simp
      refine hK.out _ _ ?_
      clear hK K
      try simp only [lay]
      refine two_late (by kernel_rfl) ?_
      refine wpAny_done (by kernel_rfl) ?_ _
      have hV8 := hV7.put 3 (.slice (some ⟨gg, 0, none⟩) (k + 1) cap)
      simp only [List.setIfInBounds_toArray, List.set_cons_zero, List.set_cons_succ] at hV8
      have hown8 := own_far (p := ⟨V1, 3, none⟩) hown7 (fun e => by have := (own_lt hown7 e).1; dsimp only at this; omega) (.slice (some ⟨gg, 0, none⟩) (k + 1) cap)
      have hown9 : ((w7.setCell ⟨V1, 3, none⟩ (.slice (some ⟨gg, 0, none⟩) (k + 1) cap))).ownsRow (V1 + 1) 30 2 (.slice (some ⟨gg, 0, none⟩) (k + 1) cap) (k + 1) (cellsC 2 (k + 1) (lateOf J x)) := by
        rw [late_snoc hu]
        exact hown8
      have hbe8 := hbe7.setCell (p := ⟨V1, 3, none⟩) (by dsimp only; omega) (.slice (some ⟨gg, 0, none⟩) (k + 1) cap)
      go_wp2
      go_roundw
      case rel => exact ⟨k + 1, .slice (some ⟨gg, 0, none⟩) (k + 1) cap, by go_num, by omega, hV8, hown9, hbe8⟩
      case measure => simp [intOf]; omega
    · obtain rfl : k = m := by omega
      obtain ⟨sa, sc, hsv, -⟩ := own_sliceC hown
      subst hsv
      have hVw := hV7.below hbw l6V
      have hLw := hrL.below (HNB.out.trans hbw) (by omega)
      have hRw : RowC wr 2 sa k (lateOf J x) := RowC.of_own (by omega) hown
      have HBF : Hid (Below w.heap.size w (wr.setRow (w.heap.size + 1) #[.int .i64 2, .int .i64 0, .slice aL P cL, .slice sa k sc])) := below_setRow (HM7.out.trans (hbw.mono (by omega))) (by omega) _
      go_wp2_with (first | (refine wpList_load_row rfl _ _ rfl V1 rfl _ _ _ _ hV Tryz.underlying36 rfl (by kernel_rfl) ?_) | (refine wpList_store_row rfl _ _ _ rfl (w.heap.size + 1) #[.int .i64 2, .int .i64 0, .slice aL P cL, .slice sa k sc] rfl rfl 36 #[.int .i64 0, .int .i64 0, .slice none 0 0, .slice none 0 0] hVw (by kernel_rfl) rfl (by simp [Value.oneCell']) ?_))
      have hX : Blk (wr.setRow (w.heap.size + 1) #[.int .i64 2, .int .i64 0, .slice aL P cL, .slice sa k sc]) (w.heap.size + 1) 36 #[.int .i64 2, .int .i64 0, .slice aL P cL, .slice sa k sc] := setRow_heap _ _ _ _ _ _ hVw
      have hL9 : RowC (wr.setRow (w.heap.size + 1) #[.int .i64 2, .int .i64 0, .slice aL P cL, .slice sa k sc]) 2 aL P lf := rowC_setRow hLw _ (fun p hp => by have := hfL p hp; omega)
      have hR9 : RowC (wr.setRow (w.heap.size + 1) #[.int .i64 2, .int .i64 0, .slice aL P cL, .slice sa k sc]) 2 sa k (lateOf J x) := rowC_setRow hRw _ (fun p hp => by subst hp; have := (own_lt hown rfl).1; omega)
      clear hVw hV hown hLw hRw
      generalize (wr.setRow (w.heap.size + 1) #[.int .i64 2, .int .i64 0, .slice aL P cL, .slice sa k sc]) = wf at *
      have x0 : wf.cell? ⟨w.heap.size + 1, 0, none⟩ = some (.int .i64 2) := hX.cell 0
      have x1 : wf.cell? ⟨w.heap.size + 1, 1, none⟩ = some (.int .i64 0) := hX.cell 1
      have x2 : wf.cell? ⟨w.heap.size + 1, 2, none⟩ = some (.slice aL P cL) := hX.cell 2
      have x3 : wf.cell? ⟨w.heap.size + 1, 3, none⟩ = some (.slice sa k sc) := hX.cell 3
      refine bodyPost_ret (v := .tuple #[.agg #[.int .i64 2, .int .i64 0, .slice aL P cL, .slice sa k sc], .int .i64 0]) ?_ rfl ?_
      · simp [results, Tryz.results12, go_sem, x0, x1, x2, x3]
      · exact ⟨HBF.out, .inr (.inr ⟨P, lf, aL, cL, k, lateOf J x, sa, sc, by rw [HF.out]; simp, HST.out, HP3.out, hm2, rfl, hL9, hR9⟩)⟩
end Go.Proofs.YtgmljgcmfooniaaGreatDoor
/- VdAll -/
set_option linter.unusedVariables false
set_option linter.unusedSimpArgs false
namespace Go.Proofs.YtgmljgcmfooniaaGreatDoor
open Go.RowKit Go.Shelf Go.Tide
set_option linter.unusedVariables false
set_option linter.unusedSimpArgs false
def VdOk (k0 k1 rate buf jit who ratio : Int) : Prop := (dKind k0 ∧ dKind k1 ∧ dNums rate buf jit) ∧ (0 ≤ who ∧ who ≤ 1) ∧ 1 ≤ ratio ∧ ratio ≤ 100
def vR (k0 k1 rate buf jit : Int) : DRules := ⟨k0, k1, rate.toNat, buf.toNat, jit⟩
def vFin (k0 k1 rate buf jit : Int) : Option (Fnd DSt) := dFin (vR k0 k1 rate buf jit) jit.toNat
def vBd (k0 k1 rate buf jit who ratio : Int) : Prop := ∃ M, VB (vR k0 k1 rate buf jit) who.toNat ratio M
/-- What Judge's answer says. -/
def JFacts (k0 k1 rate buf jit who ratio kd mo er : Int) : Prop :=
  (er = 0 ∧ VdOk k0 k1 rate buf jit who ratio ∧ vFin k0 k1 rate buf jit ≠ none ∧ ((kd = 1 ∧ VB (vR k0 k1 rate buf jit) who.toNat ratio mo) ∨ (kd = 2 ∧ ¬ vBd k0 k1 rate buf jit who ratio))) ∨
    (er = 4 ∧ VdOk k0 k1 rate buf jit who ratio ∧ vFin k0 k1 rate buf jit = none) ∨ ((er = 2 ∨ er = 5) ∧ ¬ VdOk k0 k1 rate buf jit who ratio)
theorem judge_all (k0 k1 rate buf jit who ratio : Int) (w : World) :
    Calls Tryz.prog 12 #[.agg #[.int .i64 k0, .int .i64 k1, .int .i64 rate, .int .i64 buf, .int .i64 jit], .int .i64 who, .int .i64 ratio] w fun e w' => Below w.heap.size w w' ∧ ∃ (kd mo : Int) (sa : Option Addr) (sn sc : Nat) (ta : Option Addr) (tn tc : Nat) (er : Int),
      e = .returned (.tuple #[.agg #[.int .i64 kd, .int .i64 mo, .slice sa sn sc, .slice ta tn tc], .int .i64 er]) ∧ Hid (JFacts k0 k1 rate buf jit who ratio kd mo er) := by
  by_cases h : VdOk k0 k1 rate buf jit who ratio
  · have hK := h
    obtain ⟨⟨hk0, hk1, hn⟩, ⟨hw0, hw1⟩, hr0, hr1⟩ := hK
    have hnn := hn
    obtain ⟨n1, n2, n3, n4, n5, n6⟩ := hnn
    obtain ⟨rate, rfl⟩ : ∃ n : Nat, rate = n := ⟨rate.toNat, by omega⟩
    obtain ⟨buf, rfl⟩ : ∃ n : Nat, buf = n := ⟨buf.toNat, by omega⟩
    obtain ⟨J, rfl⟩ : ∃ n : Nat, jit = n := ⟨jit.toNat, by omega⟩
    obtain ⟨who, rfl⟩ : ∃ n : Nat, who = n := ⟨who.toNat, by omega⟩
    refine (judge_any ⟨k0, k1, rate, buf, (J : Nat)⟩ J rfl ⟨hk0, hk1, hn⟩ who ratio (by omega) ⟨hr0, hr1⟩ w).mono ?_
    rintro e w' ⟨hb, ⟨hF, rfl⟩ | ⟨M, hF, hV, _, _, rfl⟩ | ⟨ld, lf, a, c, m, rf, a2, c2, hF, hS, _, _, rfl, _, _⟩⟩
    · exact ⟨hb, 0, 0, none, 0, 0, none, 0, 0, 4, rfl, .inr (.inl ⟨rfl, h, hF⟩)⟩
    · exact ⟨hb, 1, M, none, 0, 0, none, 0, 0, 0, rfl, .inl ⟨rfl, h, hF, .inl ⟨rfl, hV⟩⟩⟩
    · exact ⟨hb, 2, 0, a, ld, c, a2, m, c2, 0, rfl, .inl ⟨rfl, h, hF, .inr ⟨rfl, fun ⟨M, hM⟩ => starve_not hS hM⟩⟩⟩
  · refine (judge_bad k0 k1 rate buf jit who ratio w h).mono ?_
    rintro e w' ⟨er, he, rfl, hb⟩
    exact ⟨hb, 0, 0, none, 0, 0, none, 0, 0, er, rfl, .inr (.inr ⟨he, h⟩)⟩
theorem fin2 : (vFin 1 1 2 2 0).isSome = true := by decide +kernel
theorem fin4 : (vFin 1 1 4 4 0).isSome = true := by decide +kernel
theorem jf_ok {k0 k1 rate buf jit who ratio kd mo er : Int} (h : JFacts k0 k1 rate buf jit who ratio kd mo er) (h1 : VdOk k0 k1 rate buf jit who ratio) (h2 : (vFin k0 k1 rate buf jit).isSome = true) : er = 0 ∧ (kd = 1 ∨ kd = 2) := by
  rcases h with ⟨h, _, _, ⟨h3, _⟩ | ⟨h3, _⟩⟩ | ⟨_, _, h3⟩ | ⟨_, h3⟩
  · exact ⟨h, .inl h3⟩
  · exact ⟨h, .inr h3⟩
  · rw [h3] at h2; cases h2
  · exact absurd h1 h3
theorem ok2 : VdOk 1 1 2 2 0 0 100 := by unfold VdOk dKind dNums; decide
theorem ok4 : VdOk 1 1 4 4 0 0 1 := by unfold VdOk dKind dNums; decide
end Go.Proofs.YtgmljgcmfooniaaGreatDoor
