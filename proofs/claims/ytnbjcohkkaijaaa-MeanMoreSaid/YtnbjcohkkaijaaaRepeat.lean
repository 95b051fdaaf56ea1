/- slices.Repeat at []int, of a slice of one number, so many times. Conditions: 1 to 300 times. -/
import Derived.Test.YtnbjcohkkaijaaaNum
import Derived.Test.YtnbjcohkkaijaaaKit3
import Derived.Laws.CopyOwn
import Derived.Deep.RegionLaw
set_option linter.unusedVariables false
set_option linter.unusedSimpArgs false
namespace Go.Proofs.Ytnbjcohkkaijaaa
open Go.RowKit Go.Tide
set_option linter.unusedVariables false
set_option linter.unusedSimpArgs false

theorem mask32_ (a : Int) (h0 : 0 ≤ a) (h1 : a < 4294967296) : bits .and .u64 a 4294967295 = a := by
  rw [u64_and a 4294967295 h0 (by omega) (by omega) (by omega)]
  rw [show (4294967295 : Int).toNat = 2 ^ 32 - 1 from rfl, Nat.and_two_pow_sub_one_eq_mod, Nat.mod_eq_of_lt (by omega)]
  omega
set_option maxHeartbeats 400000 in
theorem mul64_one (b : Int) (hb0 : 0 ≤ b) (hb : b ≤ 1073741824) (w : World) :
    Calls Try.prog 23 #[.int .u64 1, .int .u64 b] w fun e w' => e = .returned (.tuple #[.int .u64 0, .int .u64 b]) ∧ w = w' := by
  have h1 := mask32_ 1 (by omega) (by omega)
  have h2 := mask32_ b hb0 (by omega)
  have h4 : b / 4294967296 = 0 := Int.ediv_eq_zero_of_lt hb0 (by omega)
  have h9 := mask32_ 0 (by omega) (by omega)
  go_enter Try.func23, Try.ntmps23
  go_wp2
  go_ret2
  exact ⟨rfl, rfl⟩
theorem mul_one_any (b : Int) (hb0 : 0 ≤ b) (hb : b ≤ 1073741824) (w : World) :
    Calls Try.prog 20 #[.int .u64 1, .int .u64 b] w fun e w' => e = .returned (.tuple #[.int .u64 0, .int .u64 b]) ∧ w = w' := by
  go_enter Try.func20, Try.ntmps20
  go_wp2_with fail
  refine (mul64_one b hb0 hb _).mono ?_
  rintro e w' ⟨rfl, rfl⟩
  go_wp2
  go_ret2
  exact ⟨rfl, rfl⟩

/-- Behind the copies: the first m of n cells hold x. -/
def repRow (n m : Nat) (x : Int) : List Value := List.replicate m (.int .i64 x) ++ List.replicate (n - m) (.int .i64 0)
theorem repRow_length (n m : Nat) (x : Int) (h : m ≤ n) : (repRow n m x).length = n := by simp [repRow]; omega
theorem repRow_get {n m : Nat} (x : Int) {k : Nat} (hk : k < m) : (repRow n m x)[k]? = some (.int .i64 x) := by
  unfold repRow
  rw [List.getElem?_append_left (by simpa using hk), List.getElem?_replicate, if_pos hk]
theorem repRow_splice (n m q : Nat) (x : Int) (h : m + q ≤ n) : splice (repRow n m x) m (List.replicate q (.int .i64 x)) = repRow n (m + q) x := by
  unfold splice repRow
  rw [List.take_left' (by simp), List.length_replicate, ← List.append_assoc, List.replicate_append_replicate]
  congr 1
  rw [List.drop_append]
  simp
  omega

theorem own_full {w : World} {base g n : Nat} {e : TypeId} {xs : List Value} (h : w.ownsRow base e 1 (.slice (some ⟨g, 0, none⟩) n n) n xs) : w.heap[g]? = some (.cells xs.toArray e (0, 0)) := by
  rcases h.2 with ⟨hv, _⟩ | ⟨g', cap, cur, hv, _, hg, hc, _, hs, ht⟩
  · cases hv
  · injection hv with h1 h2 h3
    injection h1 with h1
    injection h1 with h4
    subst h4 h3
    rw [List.take_of_length_le (by simp; omega)] at ht
    rw [hg, ← ht]
theorem made_rep (n : Nat) (x : Int) : (madeCells (Value.int .i64 0).cells (n * 1)).toList = repRow n 0 x := by
  rw [Nat.mul_one]
  exact toList_madeCells_one _ _
theorem rep_mem {q : Nat} {x : Int} : ∀ v ∈ List.replicate q (Value.int .i64 x), v.oneCell' = true := by
  intro v hv
  rw [(List.mem_replicate.1 hv).2]
  rfl
set_option maxRecDepth 20000 in
set_option maxHeartbeats 1000000 in
theorem repeat_blk (b off c : Nat) (x : Int) (n : Nat) (w : World) (hc : w.cell? ⟨b, off, none⟩ = some (.int .i64 x)) (hb : b < w.heap.size) (hn2 : n ≤ 300) :
    Calls Try.prog 16 #[.slice (some ⟨b, off, none⟩) 1 c, .int .i64 n] w fun e w' => e = .returned (.slice (some ⟨w.heap.size, 0, none⟩) n n) ∧ Blk w' w.heap.size 3 (List.replicate n (.int .i64 x)).toArray ∧ Below w.heap.size w w' := by
  obtain ⟨i0_, hi, hz0, hz1, hz2⟩ := info_parts intInfo
  have hsz1 : (Try.prog.info? 3).map (·.size) = some 1 := by rw [hi]; simp [hz1]
  obtain ⟨wm, hmk, hmo, hmg⟩ := run_make_full (P := Try.prog) w w.heap.size 35 3 i0_ (.int .i64 0) 1 Try.underlying35 hi hz0 hz1 .i64 .i64 n (by rw [hz2]; omega) (by simp only [maxLen]; omega) (Nat.le_refl _)
  rw [made_rep n x] at hmo
  have hblk : wm.heap[w.heap.size]? = some (.cells (repRow n 0 x).toArray 3 (0, 0)) := own_full hmo
  have HB := Lib.hid hblk
  have hbm : Below w.heap.size w wm := (Below.refl _ _).grown hmg (Nat.le_refl _) (fun k hk => by cases hk)
  obtain ⟨q1, hq1⟩ : ∃ q, Hid (min 1 n = q) := ⟨_, rfl⟩
  have hq1' : q1 ≤ 1 ∧ q1 ≤ n ∧ (n = 0 ∨ q1 = 1) := by have := hq1.out; omega
  obtain ⟨q11, q12, q13⟩ := hq1'
  have HQ13 := Lib.hid q13
  clear q13
  have hcm : ∀ j v, (List.replicate q1 (Value.int .i64 x))[j]? = some v → wm.cell? ((⟨b, off, none⟩ : Addr).add j) = some v := fun j v hj => by
    have hj2 : j < q1 := by
      have := (List.getElem?_eq_some_iff.1 hj).1
      simpa using this
    rw [List.getElem?_replicate, if_pos hj2] at hj
    obtain rfl : j = 0 := by omega
    rw [Addr.add_zero']
    exact ((hbm.cell (p := ⟨b, off, none⟩) hb).trans hc).trans hj
  have HC := Lib.hid hcm
  have HMK := Lib.hid hmo
  clear hblk hcm hmo hmg
  go_enter Try.func16, Try.ntmps16
  go_wp2_with fail
  refine (mul_one_any (n : Int) (by omega) (by omega) _).mono ?_
  rintro e w' ⟨rfl, rfl⟩
  go_wp2_with (refine wpList_copy_splice rfl (.tmp 31) (.tmp 32) 35 35 rfl 3 Try.underlying35 hsz1 (some ⟨w.heap.size, 0, none⟩) (some ⟨b, off, none⟩) n n 1 c rfl rfl w.heap.size 0 (repRow n 0 x) 3 HB.out (List.replicate q1 (.int .i64 x)) (by rw [List.length_replicate]; exact hq1.out.symm) (fun _ => ⟨rfl, _, rfl, HC.out⟩) (by rw [repRow_length _ _ _ (by omega), List.length_replicate]; omega) rep_mem w.heap.size w hbm (Nat.le_refl _) ?_; intro w1 hg1 hb1)
  have hg2 : Hid (w1.heap[w.heap.size]? = some (.cells (repRow n q1 x).toArray 3 (0, 0))) := by
    have := hg1.out
    rw [repRow_splice n 0 q1 x (by omega), Nat.zero_add] at this
    exact this
  clear hg1
  go_loopw [8] (fun i wr => ∃ m : Nat, i = .int .i64 m ∧ Hid (n = 0 ∨ 1 ≤ m) ∧ m ≤ n ∧ Hid (wr.heap[w.heap.size]? = some (.cells (repRow n m x).toArray 3 (0, 0))) ∧ Below w.heap.size w wr) (fun i _ => n - (intOf i).toNat)
  case atStart => exact ⟨q1, by first | rfl | simp, (by rcases HQ13.out with h | h; exact .inl h; exact .inr (by omega)), q12, hg2, hb1⟩
  case round =>
    obtain ⟨m, rfl, hm01, hmn, hg, hbe⟩ := hrel
    by_cases hlt : m < n
    · have hm1 : 1 ≤ m := by have := hm01.out; omega
      obtain ⟨q, hq⟩ : ∃ q, Hid (min m (n - m) = q) := ⟨_, rfl⟩
      have hq1 : 1 ≤ q ∧ q ≤ m ∧ m + q ≤ n := by have := hq.out; omega
      obtain ⟨q1, q2, q3⟩ := hq1
      have hsrc : Hid (∀ j v, (List.replicate q (Value.int .i64 x))[j]? = some v → ∀ W : World, W.heap[w.heap.size]? = some (.cells (repRow n m x).toArray 3 (0, 0)) → W.cell? ((⟨w.heap.size, 0, none⟩ : Addr).add j) = some v) := fun j v hj W hW => by
        have hj2 : j < q := by
          have := (List.getElem?_eq_some_iff.1 hj).1
          simpa using this
        rw [List.getElem?_replicate, if_pos hj2] at hj
        rw [Addr.add_lit, Nat.zero_add, cell_of_row W w.heap.size j _ _ (0, 0) hW, List.getElem?_toArray, repRow_get x (by omega)]
        exact hj
      have k0 : (0 : Int) ≤ (m : Int) := by omega
      have k1 : (m : Int) ≤ (n : Int) := by omega
      have k2 : ¬ n = m := by omega
      have k3 : (n = m) = False := by simp; omega
      have k4 : IntKind.i64.wrap ((m : Int) + (q : Int)) = (m : Int) + (q : Int) := IntWalk.i64_in _ (by omega)
      have hdg : Hid (wr.drew.heap[w.heap.size]? = some (.cells (repRow n m x).toArray 3 (0, 0))) := hg
      have hbd : Below w.heap.size w wr.drew := hbe.drew
      have HL : Hid ((List.replicate q (Value.int .i64 x)).length = Nat.min m (n - m)) := by
        show _ = _
        rw [List.length_replicate]
        exact hq.out.symm
      have HF : Hid (m + (List.replicate q (Value.int .i64 x)).length ≤ (repRow n m x).length) := by
        show _ ≤ _
        rw [repRow_length _ _ _ hmn, List.length_replicate]
        exact q3
      go_wp2_with fail
      go_region_law ((refine step_copy_splice rfl (.tmp 41) (.tmp 44) 35 35 (by rfl) 3 Try.underlying35 hsz1 (some ⟨w.heap.size, m, none⟩) (some ⟨w.heap.size, 0, none⟩) (n - m) (n - m) m n (by simp [Act.eval, Act.put]) (by simp [Act.eval, Act.put]) w.heap.size m (repRow n m x) 3 hdg.out (List.replicate q (.int .i64 x)) HL.out (fun _ => ⟨rfl, _, rfl, fun j v hj => hsrc.out j v hj _ hdg.out⟩) HF.out rep_mem w.heap.size w hbd (Nat.le_refl _) ?_; intro w2 hg3 hb3))
      have hg4 : Hid (w2.heap[w.heap.size]? = some (.cells (repRow n (m + q) x).toArray 3 (0, 0))) := by
        have := hg3.out
        rwa [repRow_splice n m q x q3] at this
      simp only [List.getElem_toArray, List.getElem_cons_zero, List.getElem_cons_succ, Act.put, List.setIfInBounds_toArray, List.set_cons_zero, List.set_cons_succ, k4]
      go_wp2
      go_roundw
      case rel => exact ⟨m + q, by go_num, Or.inr (by omega), by omega, hg4, hb3⟩
      case measure => simp [intOf]; omega
    · obtain rfl : m = n := by omega
      have hfin : Blk wr w.heap.size 3 (List.replicate m (.int .i64 x)).toArray := by
        have := hg.out
        unfold repRow at this
        rw [Nat.sub_self, List.replicate_zero, List.append_nil] at this
        exact this
      go_wp2
      go_ret
      exact ⟨rfl, hfin, hbe⟩
theorem repeat_any (b off c : Nat) (x : Int) (n : Nat) (w : World) (hc : w.cell? ⟨b, off, none⟩ = some (.int .i64 x)) (hb : b < w.heap.size) (hn : 1 ≤ n) (hn2 : n ≤ 300) :
    Calls Try.prog 16 #[.slice (some ⟨b, off, none⟩) 1 c, .int .i64 n] w fun e w' => ∃ a' c', e = .returned (.slice a' n c') ∧ n ≤ c' ∧ Row w' a' n (fun _ => x) ∧ Below w.heap.size w w' :=
  (repeat_blk b off c x n w hc hb hn2).mono fun e w' ⟨he, hB, hb⟩ => ⟨_, _, he, Nat.le_refl _, fun _ => ⟨_, _, rfl, hB.lt, fun k hk => by
    rw [Nat.zero_add, hB.cell k, List.getElem?_toArray, List.getElem?_replicate, if_pos hk]⟩, hb⟩
end Go.Proofs.Ytnbjcohkkaijaaa
