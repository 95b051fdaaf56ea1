/- potential.Cycle. Conditions: lengths within the form's reach; behind each node on the way back there is an edge. -/
import Derived.Test.YtnbjcohkkaijaaaPotM
import Derived.Test.YtnbjcohkkaijaaaRev
set_option linter.unusedVariables false
set_option linter.unusedSimpArgs false
namespace Go.Tide
/-- The node ahead of v. -/
def back (f : Nat → Nat → Int) (B : Nat → Int) (v : Nat) : Nat := (f (B v).toNat 0).toNat
def backs (f : Nat → Nat → Int) (B : Nat → Int) : Nat → Nat → Nat
  | 0, v => v
  | i + 1, v => back f B (backs f B i v)
theorem backs_add (f : Nat → Nat → Int) (B : Nat → Int) (i j v : Nat) : backs f B (i + j) v = backs f B i (backs f B j v) := by
  induction i with
  | zero => rw [Nat.zero_add]; rfl
  | succ i ih => rw [show i + 1 + j = (i + j) + 1 from by omega]; show back f B (backs f B (i + j) v) = back f B (backs f B i (backs f B j v)); rw [ih]
end Go.Tide
namespace Go.Proofs.Ytnbjcohkkaijaaa
open Go.RowKit Go.Tide
set_option linter.unusedVariables false
set_option linter.unusedSimpArgs false
theorem ownsRow_frozen {w : World} {base : Nat} {e : TypeId} {g n cap : Nat} {xs : List Value} (h : w.ownsRow base e 1 (.slice (some ⟨g, 0, none⟩) n cap) n xs) (k : Nat) : w.frozen? ⟨g, k, none⟩ = false := by
  rcases h.2 with ⟨hv, _⟩ | ⟨g', cap', cur, hv, hb, hg, hc, hm, hs, ht⟩
  · cases hv
  · injection hv with h1 h2 h3
    injection h1 with h1
    injection h1 with h4 h5
    subst h4 h3
    simp [World.frozen?, hg]
set_option maxRecDepth 20000 in
set_option maxHeartbeats 2000000 in
theorem cycle_bad (N : Int) (a : Option Addr) (n c : Nat) (f : Nat → Nat → Int) (w : World) (hf : RowC w 3 a n f) (hn : n ≤ 1152921504606846976) (hG : ¬ GRight N n f) :
    Calls Try.prog 12 #[.agg #[.int .i64 N, .slice a n c]] w fun e w' => e = .returned (.tuple #[.slice none 0 0, .int .i64 2]) ∧ Below w.heap.size w w' := by
  have HG := Lib.hid hG
  go_enter Try.func12, Try.ntmps12
  go_wp2_with (refine (pwrong_any N a n c f _ (by repeat (first | (with_reducible assumption) | (with_reducible exact RowC.nil) | (with_reducible apply RowC.drewN) | (with_reducible apply RowC.drew) | (with_reducible apply RowC.more) | (with_reducible apply RowC.alloc))) hn).mono ?_; rintro e w1 ⟨rfl, os1, d1, rfl⟩; rw [gWrong_bad HG.out])
  go_ret2
  exact ⟨rfl, (More.below (by repeat (first | (with_reducible assumption) | (with_reducible exact More.refl _) | (with_reducible refine More.alloc ?_ _) | (with_reducible refine More.more ?_ _ _) | (with_reducible refine More.drewN ?_ _) | (with_reducible refine More.drew ?_))))⟩
set_option maxRecDepth 20000 in
set_option maxHeartbeats 2000000 in
theorem cycle_none (N : Nat) (a : Option Addr) (n c : Nat) (f : Nat → Nat → Int) (w : World) (hf : RowC w 3 a n f) (hG : GRight N n f) (hneg : (solved f n N).L < 0) :
    Calls Try.prog 12 #[.agg #[.int .i64 N, .slice a n c]] w fun e w' => e = .returned (.tuple #[.slice none 0 0, .int .i64 3]) ∧ Below w.heap.size w w' := by
  have HG := Lib.hid hG
  have hn := hG.2.2.1
  have hmw : More w (w.alloc (.cells #[.int .i64 N, .slice a n c] 24)) := (More.refl w).alloc _
  have HN := Lib.hid hneg
  have d1 : decide ((solved f n N).L < 0) = true := by simpa using hneg
  clear hneg
  go_enter Try.func12, Try.ntmps12
  go_wp2_with (refine (pwrong_any N a n c f _ (by repeat (first | (with_reducible assumption) | (with_reducible exact RowC.nil) | (with_reducible apply RowC.drewN) | (with_reducible apply RowC.drew) | (with_reducible apply RowC.more) | (with_reducible apply RowC.alloc))) (by omega)).mono ?_; rintro e w1 ⟨rfl, os1, d1, rfl⟩; rw [gWrong_ok HG.out])
  refine (solve_any _ N a n c f (by repeat (first | (with_reducible assumption) | (with_reducible exact RowC.nil) | (with_reducible apply RowC.drewN) | (with_reducible apply RowC.drew) | (with_reducible apply RowC.more) | (with_reducible apply RowC.alloc))) HG.out).mono ?_
  rintro e w2 ⟨S, gm, gb, rfl, hS⟩
  go_wp2
  go_ret2
  exact ⟨rfl, below_then (More.below (by repeat (first | (with_reducible assumption) | (with_reducible exact More.refl _) | (with_reducible refine More.alloc ?_ _) | (with_reducible refine More.more ?_ _ _) | (with_reducible refine More.drewN ?_ _) | (with_reducible refine More.drew ?_)))) (by simp; omega) (More.of_below hS.below)⟩
set_option maxRecDepth 20000 in
set_option maxHeartbeats 4000000 in
theorem cycle_any (N : Nat) (a : Option Addr) (n c : Nat) (f : Nat → Nat → Int) (w : World) (hf : RowC w 3 a n f) (hG : GRight N n f) (v m : Nat) (B : Nat → Int) (V : Nat) (hv : (solved f n N).L = v) (hBe : (solved f n N).B = B) (hVe : Hid (backs f B N v = V))
    (H1 : ∀ i, backs f B i v < N ∧ 0 ≤ B (backs f B i v) ∧ B (backs f B i v) < n)
    (hm : 1 ≤ m ∧ m ≤ N) (H2 : backs f B m V = V) (H3 : ∀ i, 0 < i → i < m → backs f B i V ≠ V) :
    Calls Try.prog 12 #[.agg #[.int .i64 N, .slice a n c]] w fun e w' => ∃ g c', e = .returned (.tuple #[.slice (some ⟨g, 0, none⟩) m c', .int .i64 0]) ∧ m ≤ c' ∧ Row w' (some ⟨g, 0, none⟩) m (fun k => B (backs f B (m - 1 - k) V)) ∧ Below w.heap.size w w' := by
  have HG := Lib.hid hG
  have hn := hG.2.2.1
  have hN := hG.2.1
  obtain ⟨hm1, hm2⟩ := hm
  obtain ⟨i0, hi, hz0, hz1, hz2⟩ := info_parts intInfo
  have hbg := Blk.new w 24 #[.int .i64 N, .slice a n c]
  have HH1 := Lib.hid H1
  have HH2 := Lib.hid H2
  have HH3 := Lib.hid H3
  have d1 : decide ((v : Int) < 0) = false := by simp
  clear H1 H2 H3
  go_enter Try.func12, Try.ntmps12
  go_wp2_with (refine (pwrong_any N a n c f _ (by repeat (first | (with_reducible assumption) | (with_reducible exact RowC.nil) | (with_reducible apply RowC.drewN) | (with_reducible apply RowC.drew) | (with_reducible apply RowC.more) | (with_reducible apply RowC.alloc))) (by omega)).mono ?_; rintro e w1 ⟨rfl, os1, d1, rfl⟩; rw [gWrong_ok HG.out])
  refine (solve_any _ N a n c f (by repeat (first | (with_reducible assumption) | (with_reducible exact RowC.nil) | (with_reducible apply RowC.drewN) | (with_reducible apply RowC.drew) | (with_reducible apply RowC.more) | (with_reducible apply RowC.alloc))) HG.out).mono ?_
  rintro e w2 ⟨S, gm, gb, rfl, hS⟩
  rw [hv]
  rw [hBe] at hS
  have hbz : Below w.heap.size w w2 := below_then (More.below (by repeat (first | (with_reducible assumption) | (with_reducible exact More.refl _) | (with_reducible refine More.alloc ?_ _) | (with_reducible refine More.more ?_ _ _) | (with_reducible refine More.drewN ?_ _) | (with_reducible refine More.drew ?_)))) (by simp; omega) (More.of_below hS.below)
  have hbq := (hbg.more os1 d1).below hS.below (hbg.more os1 d1).lt
  have hfq : RowC w2 3 a n f := hS.row
  clear hbg
  generalize (w.alloc (.cells #[.int .i64 N, .slice a n c] 24)).more os1 d1 = wz at *
  have HB := Lib.hid hbz
  clear hbz hf
  generalize hGe : w.heap.size = G at hbq ⊢
  have hgl := hbq.lt
  have hg0 := hbq.cell 0
  have hg1 := hbq.cell 1
  simp at hg0 hg1
  have hbS := hS.solver
  have hs3 := hbS.cell 3
  simp at hs3
  have hSl := hbS.lt
  have hbl := hS.by_.lt
  have HBY : Hid (∀ j, j < N → w2.cell? ⟨gb, j, none⟩ = some (.int .i64 (B j))) := fun j hj => hS.byAt hj
  clear hBe
  have HGl : Hid (w.heap.size ≤ w2.heap.size) := HB.out.size
  clear hbq hbS hS hGe
  go_wp2_with fail
  go_loopw [6, 23] (fun t i wr => ∃ (k d : Nat), t = .int .i64 (backs f B k v : Nat) ∧ i = .int .i64 k ∧ k ≤ N ∧ wr = w2.drewN d) (fun _ i _ => N - (intOf i).toNat)
  case atStart => exact ⟨0, 0, rfl, rfl, Nat.zero_le _, rfl⟩
  case round =>
    obtain ⟨k, d, rfl, rfl, hk, rfl⟩ := hrel
    by_cases hlt : k < N
    · have h1 := HH1.out k
      have h2 := HBY.out _ h1.1
      have HN : Hid ((backs f B (k + 1) v : Nat) = back f B (backs f B k v)) := rfl
      unfold back at HN
      obtain ⟨V0, hV0⟩ : ∃ V0, Hid (backs f B k v = V0) := ⟨_, rfl⟩
      rw [hV0.out] at HN h1 h2 ⊢
      obtain ⟨E, hE0⟩ : ∃ J : Nat, B V0 = J := ⟨(B V0).toNat, by omega⟩
      rw [hE0] at HN h2 h1
      clear hE0
      rw [Int.toNat_natCast] at HN
      have hE : E < n := by omega
      obtain ⟨h10, h11, h12⟩ := h1
      obtain ⟨b, off, x0, x1, x2, rfl, hb, hc0, hc1, hc2, e0, e1, e2⟩ := hfq.at3 hE
      rw [← e0.out] at HN
      have hx0 := (HG.out.2.2.2 E hE).1
      rw [← e0.out] at hx0
      obtain ⟨X, rfl⟩ : ∃ J : Nat, x0 = J := ⟨x0.toNat, by omega⟩
      rw [Int.toNat_natCast] at HN
      have t1 : (k : Int) < (N : Int) := by omega
      have j1 : (V0 : Int) < (N : Int) := by omega
      have j0 : (0 : Int) ≤ (V0 : Int) := by omega
      have j2 : (0 : Int) ≤ (E : Int) := by omega
      go_wp2_with fail
      go_quiet (fail)
      go_wp2
      go_roundw
      case rel => exact ⟨k + 1, _, by rw [HN.out], by go_num, by omega, rfl⟩
      case measure => simp [intOf]; omega
    · obtain rfl : k = N := by omega
      clear hlt hk
      have HV : Hid (∀ i, backs f B i V < k ∧ 0 ≤ B (backs f B i V) ∧ B (backs f B i V) < n) := fun i => by
        have := HH1.out (i + k)
        rwa [backs_add, hVe.out] at this
      rw [hVe.out]
      clear HH1
      have hq0 : Hid (∀ j, j < k → (w2.drewN d).cell? ⟨gb, j, none⟩ = some (.int .i64 (B j))) := HBY
      have hq1 : (w2.drewN d).cell? ⟨G, 1, none⟩ = some (.slice a n c) := hg1
      have hq2 : (w2.drewN d).cell? ⟨S, 3, none⟩ = some (.slice (some ⟨gb, 0, none⟩) k k) := hs3
      have hfd : RowC (w2.drewN d) 3 a n f := hfq.drewN d
      have hgl' : G < (w2.drewN d).heap.size := hgl
      have hSl' : S < (w2.drewN d).heap.size := hSl
      have hbl' : gb < (w2.drewN d).heap.size := hbl
      have HBz : Hid (Below w.heap.size w (w2.drewN d)) := HB.out.drewN d
      have HGz : Hid (w.heap.size ≤ (w2.drewN d).heap.size) := HGl
      clear hg0 hg1 hs3 hfq hgl hSl hbl HB HGl HBY
      generalize w2.drewN d = wq at *
      go_wp2_with fail
      go_loopw [7, 8] (fun out t wr => ∃ k2 : Nat, t = .int .i64 (backs f B k2 V : Nat) ∧ k2 ≤ m ∧ wr.ownsRow wq.heap.size 3 1 out k2 (cellsOf k2 (fun i => B (backs f B i V))) ∧ Below wq.heap.size wq wr) (fun out _ _ => match out with | .slice _ n _ => m - n | _ => 0)
      case atStart => exact ⟨0, rfl, Nat.zero_le _, World.ownsRow_nil _ _ _ _, Below.refl _ _⟩
      case round =>
        rename_i out _ _
        obtain ⟨k2, rfl, hk2, hown, hbe⟩ := hrel
        obtain ⟨oa, oc, rfl, hoc⟩ := own_slice hown
        have hsz := hbe.size
        by_cases hlt : k2 < m
        · have h1 := HV.out k2
          have h2 := hq0.out _ h1.1
          have HN : Hid ((backs f B (k2 + 1) V : Nat) = back f B (backs f B k2 V)) := rfl
          unfold back at HN
          have HC : Hid (k2 = 0 ∨ backs f B k2 V ≠ V) := by
            rcases Nat.eq_zero_or_pos k2 with h | h
            · exact .inl h
            · exact .inr (HH3.out k2 h hlt)
          obtain ⟨V2, hV2⟩ : ∃ V2, Hid (backs f B k2 V = V2) := ⟨_, rfl⟩
          rw [hV2.out] at HN h1 h2 HC ⊢
          obtain ⟨h10, h11, h12⟩ := h1
          obtain ⟨E, hE0⟩ : ∃ J : Nat, B V2 = J := ⟨(B V2).toNat, by omega⟩
          have HE0 := Lib.hid hE0
          rw [hE0] at HN h2 h12
          rw [Int.toNat_natCast] at HN
          have hE : E < n := by omega
          clear hE0 h11 h12
          obtain ⟨b, off, x0, x1, x2, rfl, hb, hc0, hc1, hc2, e0, e1, e2⟩ := hfd.at3 hE
          rw [← e0.out] at HN
          have hx0 := (HG.out.2.2.2 E hE).1
          rw [← e0.out] at hx0
          obtain ⟨X, rfl⟩ : ∃ J : Nat, x0 = J := ⟨x0.toNat, by omega⟩
          rw [Int.toNat_natCast] at HN
          have j1 : (V2 : Int) < (k : Int) := by omega
          have j0 : (0 : Int) ≤ (V2 : Int) := by omega
          have j2 : (0 : Int) ≤ (E : Int) := by omega
          have r1 : wr.cell? ⟨gb, V2, none⟩ = some (.int .i64 E) := (hbe.cell (p := ⟨gb, V2, none⟩) hbl').trans h2
          have r2 : wr.cell? ⟨G, 1, none⟩ = some (.slice (some ⟨b, off, none⟩) n c) := (hbe.cell (p := ⟨G, 1, none⟩) hgl').trans hq1
          have r3 : wr.cell? ⟨S, 3, none⟩ = some (.slice (some ⟨gb, 0, none⟩) k k) := (hbe.cell (p := ⟨S, 3, none⟩) hSl').trans hq2
          have r4 : wr.cell? ⟨b, off + E * 3, none⟩ = some (.int .i64 X) := (hbe.cell (p := ⟨b, off + E * 3, none⟩) hb).trans hc0
          by_cases hk0 : k2 = 0
          · have hz : ((k2 : Int) == 0) = true := by simpa using hk0
            go_wp2_with ((at_builtin; refine wpList_append_own _ rfl _ _ 35 rfl _ 3 i0 (.int .i64 0) 1 8 Try.underlying35 hi hz0 hz1 hz2 rfl (by decide) _ _ _ rfl (hown.alloc _) _ _ _ [.int .i64 _] rfl rfl (cell_one _ _ _) (oneCell_int _ _) (by simp only [maxLen]; omega) (by omega) (by simp; omega) ?_; intro v' w1 hown' hgrow hnil; clear hnil); have hbe' := below_append hbe hsz hown hgrow; have s1 := (hbe'.cell (p := ⟨gb, V2, none⟩) hbl').trans h2; have s2 := (hbe'.cell (p := ⟨G, 1, none⟩) hgl').trans hq1; have s3 := (hbe'.cell (p := ⟨S, 3, none⟩) hSl').trans hq2; have s4 := (hbe'.cell (p := ⟨b, off + E * 3, none⟩) hb).trans hc0)
            go_quiet (fail)
            go_wp2
            go_roundw
            case rel =>
              refine ⟨k2 + 1, by rw [HN.out], by omega, ?_, hbe'.drewN _⟩
              rw [cellsOf_succ, hV2.out, HE0.out]
              exact own_drewN hown' _
            case measure => (try obtain ⟨ao, co, rfl, hco⟩ := own_slice hown'); simp; omega
          · have hz : ((k2 : Int) == 0) = false := by simpa using hk0
            have hne : ((V2 : Int) != (V : Int)) = true := by
              have := HC.out
              simp
              omega
            go_wp2_with ((at_builtin; refine wpList_append_own _ rfl _ _ 35 rfl _ 3 i0 (.int .i64 0) 1 8 Try.underlying35 hi hz0 hz1 hz2 rfl (by decide) _ _ _ rfl (hown.alloc _) _ _ _ [.int .i64 _] rfl rfl (cell_one _ _ _) (oneCell_int _ _) (by simp only [maxLen]; omega) (by omega) (by simp; omega) ?_; intro v' w1 hown' hgrow hnil; clear hnil); have hbe' := below_append hbe hsz hown hgrow; have s1 := (hbe'.cell (p := ⟨gb, V2, none⟩) hbl').trans h2; have s2 := (hbe'.cell (p := ⟨G, 1, none⟩) hgl').trans hq1; have s3 := (hbe'.cell (p := ⟨S, 3, none⟩) hSl').trans hq2; have s4 := (hbe'.cell (p := ⟨b, off + E * 3, none⟩) hb).trans hc0)
            go_quiet (fail)
            go_wp2
            go_roundw
            case rel =>
              refine ⟨k2 + 1, by rw [HN.out], by omega, ?_, hbe'.drewN _⟩
              rw [cellsOf_succ, hV2.out, HE0.out]
              exact own_drewN hown' _
            case measure => (try obtain ⟨ao, co, rfl, hco⟩ := own_slice hown'); simp; omega
        · obtain rfl : k2 = m := by omega
          have h1 := HH2.out
          have z0 : ((k2 : Int) == 0) = false := by simp; omega
          have z1 : ((V : Int) != (V : Int)) = false := by simp
          rw [h1]
          obtain ⟨g, cap, hv', hcap, hglt⟩ := hown.form (by omega)
          obtain ⟨rfl, rfl⟩ : oa = some ⟨g, 0, none⟩ ∧ oc = cap := by
            injection hv' with e1 e2 e3
            exact ⟨e1, e3⟩
          have hcc : Hid (∀ j, j < k2 → wr.cell? ⟨g, 0 + j, none⟩ = some (.int .i64 (B (backs f B j V)))) := fun j hj => by
            have := hown.cells (g := g) rfl j _ (cellsOf_get _ hj)
            rwa [Addr.add_lit] at this
          have hff : Hid (∀ j, wr.frozen? ⟨g, j, none⟩ = false) := fun j => ownsRow_frozen hown j
          have hgB : wq.heap.size ≤ g := hcap
          go_wp2_with fail
          refine (reverse_any wq.heap.size g 0 k2 _ (fun i => B (backs f B i V)) _ (by omega) hcc.out hff.out hgB hglt).mono ?_
          rintro e w9 ⟨rfl, hcr, hb9, hg9⟩
          go_wp2
          go_ret2
          exact ⟨g, _, rfl, hoc, fun _ => ⟨g, 0, rfl, hg9, hcr⟩, HBz.out.trans ((hbe.trans hb9).mono HGz.out)⟩
end Go.Proofs.Ytnbjcohkkaijaaa
