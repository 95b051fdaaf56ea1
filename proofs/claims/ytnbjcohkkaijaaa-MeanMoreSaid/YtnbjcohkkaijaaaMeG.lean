/- mean.Greatest: the greatest mean, in lowest terms. Conditions: none. -/
import Derived.Test.YtnbjcohkkaijaaaMeT
set_option linter.unusedVariables false
set_option linter.unusedSimpArgs false
namespace Go.Proofs.Ytnbjcohkkaijaaa
open Go.RowKit Go.Tide
set_option linter.unusedVariables false
set_option linter.unusedSimpArgs false

theorem blk_setRow {w : World} {g k : Nat} {t : TypeId} {cs ds : Array Value} (h : Blk w k t cs) (hne : k ≠ g) : Blk (w.setRow g ds) k t cs := (setRow_other w g k ds hne).trans h
theorem below_setRow' {B g : Nat} {w w' : World} (h : Below B w w') (hg : B ≤ g) (cs : Array Value) : Below B w (w'.setRow g cs) :=
  h.trans ⟨rfl, rfl, rfl, by simp, fun k hk => setRow_other w' g k cs (by omega)⟩
theorem newRow {w : World} {t : TypeId} {Z cs : Array Value} : Blk ((w.alloc (.cells Z t)).setRow w.heap.size cs) w.heap.size t cs := setRow_heap _ _ _ _ _ _ (Blk.new w t Z)
theorem least_in {F : Nat → Nat → Int} {N v : Nat} (hN : N ≤ 300) (hF : ∀ k, k ≤ N → MOk 314572800 (F k v)) (hx : F N v ≠ -4611686018427387904) : ∀ k, k ≤ N → (-629145600 ≤ (leastAt F N v k).1 ∧ (leastAt F N v k).1 ≤ 629145600) ∧ 0 ≤ (leastAt F N v k).2 ∧ (leastAt F N v k).2 ≤ 300 := by
  intro k
  induction k with
  | zero => intro _; unfold leastAt; exact ⟨⟨by decide, by decide⟩, by decide, by decide⟩
  | succ k ih =>
    intro hk
    have h1 := ih (by omega)
    have h2 := hF k (by omega)
    have h3 := hF N (Nat.le_refl _)
    unfold MOk at h2 h3
    unfold leastAt
    split
    · exact h1
    · rename_i h4
      split
      · show (-629145600 ≤ F N v - F k v ∧ F N v - F k v ≤ 629145600) ∧ 0 ≤ (N : Int) - k ∧ (N : Int) - k ≤ 300
        omega
      · exact h1
theorem best_in {F : Nat → Nat → Int} {N : Nat} (hN : N ≤ 300) (hF : ∀ v, v < N → ∀ k, k ≤ N → MOk 314572800 (F k v)) : ∀ v, v ≤ N → (-629145600 ≤ (bestAt F N v).1 ∧ (bestAt F N v).1 ≤ 629145600) ∧ 0 ≤ (bestAt F N v).2 ∧ (bestAt F N v).2 ≤ 300 := by
  intro v
  induction v with
  | zero => intro _; unfold bestAt; exact ⟨⟨by decide, by decide⟩, by decide, by decide⟩
  | succ v ih =>
    intro hv
    have h1 := ih (by omega)
    unfold bestAt
    split
    · exact h1
    · rename_i h4
      split
      · exact least_in hN (hF v (by omega)) h4 N (Nat.le_refl _)
      · exact h1
theorem mF_in {N n : Nat} {f : Nat → Nat → Int} (hG : GRight N n f) : ∀ v, v < N → ∀ k, k ≤ N → MOk 314572800 (mF f n k v) := fun v hv k hk => by
  have h := mF_ok hG k (by have := hG.2.1; omega) v hv
  have hN := hG.2.1
  unfold MOk at *
  omega
theorem leastAt_succ (F : Nat → Nat → Int) (N v k : Nat) : leastAt F N v (k + 1) = if F k v = -4611686018427387904 then leastAt F N v k else if (leastAt F N v k).2 = 0 ∨ fMore (leastAt F N v k) (F N v - F k v, (N : Int) - k) = true then (F N v - F k v, (N : Int) - k) else leastAt F N v k := by rw [leastAt]
theorem bestAt_succ (F : Nat → Nat → Int) (N v : Nat) : bestAt F N (v + 1) = if F N v = -4611686018427387904 then bestAt F N v else if (bestAt F N v).2 = 0 ∨ fMore (leastAt F N v N) (bestAt F N v) = true then leastAt F N v N else bestAt F N v := by rw [bestAt]
/-- What Greatest returns. -/
def GrEnd (f : Nat → Nat → Int) (n N : Nat) (e : Ending) : Prop :=
  ((best f n N).2 = 0 ∧ e = .returned (.tuple #[.agg #[.int .i64 0, .int .i64 0], .int .i64 3])) ∨ ((best f n N).2 ≠ 0 ∧ e = .returned (.tuple #[.agg #[.int .i64 (bP f n N), .int .i64 (bQ f n N)], .int .i64 0]))

set_option maxRecDepth 20000 in
set_option maxHeartbeats 2000000 in
theorem greatest_bad (N : Int) (a : Option Addr) (n c : Nat) (f : Nat → Nat → Int) (w : World) (hf : RowC w 3 a n f) (hn : n ≤ 1152921504606846976) (hG : ¬ GRight N n f) :
    Calls Try.prog 7 #[.agg #[.int .i64 N, .slice a n c]] w fun e w' => e = .returned (.tuple #[.agg #[.int .i64 0, .int .i64 0], .int .i64 2]) ∧ More w w' := by
  have HG := Lib.hid hG
  clear hG
  have hb := Blk.new w 24 #[.int .i64 N, .slice a n c]
  go_enter Try.func7, Try.ntmps7
  go_wp2_with (go_at_call 8; refine (pwrong_any N a n c f _ (by repeat (first | (with_reducible assumption) | (with_reducible exact RowC.nil) | (with_reducible apply RowC.drewN) | (with_reducible apply RowC.drew) | (with_reducible apply RowC.more) | (with_reducible apply RowC.alloc))) hn).mono ?_; rintro e w' ⟨rfl, os1, d1, rfl⟩; rw [gWrong_bad HG.out])
  exact bodyPost_ret (v := .tuple #[.agg #[.int .i64 0, .int .i64 0], .int .i64 2]) (by simp [results, Try.results7, go_sem]) rfl ⟨rfl, (by repeat (first | (with_reducible assumption) | (with_reducible exact More.refl _) | (with_reducible refine More.alloc ?_ _) | (with_reducible refine More.more ?_ _ _) | (with_reducible refine More.drewN ?_ _) | (with_reducible refine More.drew ?_)))⟩
set_option maxRecDepth 20000 in
set_option maxHeartbeats 8000000 in
theorem greatest_ok (N : Nat) (a : Option Addr) (n c : Nat) (f : Nat → Nat → Int) (w : World) (hf : RowC w 3 a n f) (hG : GRight N n f) :
    Calls Try.prog 7 #[.agg #[.int .i64 N, .slice a n c]] w fun e w' => GrEnd f n N e ∧ Below w.heap.size w w' := by
  have HG := Lib.hid hG
  have hN' : N ≤ 300 := by have := hG.2.1; omega
  have hn' : n ≤ 4800 := hG.2.2.1
  clear hG
  go_enter Try.func7, Try.ntmps7
  go_wp2_with (go_at_call 8; refine (pwrong_any N a n c f _ (by repeat (first | (with_reducible assumption) | (with_reducible exact RowC.nil) | (with_reducible apply RowC.drewN) | (with_reducible apply RowC.drew) | (with_reducible apply RowC.more) | (with_reducible apply RowC.alloc))) (by omega)).mono ?_; rintro e w' ⟨rfl, os1, d1, rfl⟩; rw [gWrong_ok HG.out])
  have hbG : Blk (((w.alloc (.cells #[.int .i64 N, .slice a n c] 24)).alloc (.cells #[.int .i64 0, .int .i64 0] 27)).more os1 d1) w.heap.size 24 #[.int .i64 N, .slice a n c] := (by repeat (first | (with_reducible assumption) | ((with_reducible refine Blk.new' ?_); (simp [Nat.add_assoc]; done)) | (with_reducible refine Blk.alloc ?_ _) | (with_reducible refine Blk.more ?_ _ _) | (with_reducible refine Blk.drew ?_) | (with_reducible refine Blk.drewN ?_ _)))
  have hbR : Blk (((w.alloc (.cells #[.int .i64 N, .slice a n c] 24)).alloc (.cells #[.int .i64 0, .int .i64 0] 27)).more os1 d1) (w.heap.size + 1) 27 #[.int .i64 0, .int .i64 0] := (by repeat (first | (with_reducible assumption) | ((with_reducible refine Blk.new' ?_); (simp [Nat.add_assoc]; done)) | (with_reducible refine Blk.alloc ?_ _) | (with_reducible refine Blk.more ?_ _ _) | (with_reducible refine Blk.drew ?_) | (with_reducible refine Blk.drewN ?_ _)))
  have hfz : RowC (((w.alloc (.cells #[.int .i64 N, .slice a n c] 24)).alloc (.cells #[.int .i64 0, .int .i64 0] 27)).more os1 d1) 3 a n f := (by repeat (first | (with_reducible assumption) | (with_reducible exact RowC.nil) | (with_reducible apply RowC.drewN) | (with_reducible apply RowC.drew) | (with_reducible apply RowC.more) | (with_reducible apply RowC.alloc)))
  have HM : Hid (Below w.heap.size w (((w.alloc (.cells #[.int .i64 N, .slice a n c] 24)).alloc (.cells #[.int .i64 0, .int .i64 0] 27)).more os1 d1)) := More.below (by repeat (first | (with_reducible assumption) | (with_reducible exact More.refl _) | (with_reducible refine More.alloc ?_ _) | (with_reducible refine More.more ?_ _ _) | (with_reducible refine More.drewN ?_ _) | (with_reducible refine More.drew ?_)))
  generalize (((w.alloc (.cells #[.int .i64 N, .slice a n c] 24)).alloc (.cells #[.int .i64 0, .int .i64 0] 27)).more os1 d1) = w1 at *
  generalize hGe : w.heap.size = G at *
  have HGe := Lib.hid hGe
  clear hGe hf
  obtain ⟨L, hL⟩ : ∃ L, Hid (N + 1 = L) := ⟨_, rfl⟩
  refine (table_any N a n c f _ hfz HG.out).mono ?_
  rintro e w2 ⟨v0, gb, rfl, hown, hT, hb2⟩
  have hbG2 := hbG.below hb2 hbG.lt
  have hbR2 := hbR.below hb2 hbR.lt
  have hl1 := hbR.lt
  have hs2 := hb2.size
  rw [hL.out] at hown
  have hNL : N < L := by rw [← hL.out]; omega
  obtain ⟨va, vc, hv, hvc⟩ := own_slice hown
  subst hv
  obtain ⟨g, rfl, hlg, -, -⟩ := own_cell hown (show 0 < L by omega)
  have HC : Hid (∀ k, k < L → w2.cell? ⟨g, k, none⟩ = some (.slice (some ⟨gb k, 0, none⟩) N N)) := fun k hk => by
    obtain ⟨g', e, _, _, hc⟩ := own_cell hown hk
    obtain rfl : g = g' := by injection e with e; injection e
    rw [hc, rowsL_get hk]
  have HTb : Hid (∀ k, k < L → Blk w2 (gb k) 3 (cellsOf N (mF f n k)).toArray ∧ gb k < w2.heap.size) := fun k hk => ⟨hT k (by rw [hL.out]; exact hk), (hT k (by rw [hL.out]; exact hk)).lt⟩
  have HB2 : Hid (Below G w w2) := HM.out.trans (hb2.mono (by omega))
  clear hbG hbR hfz hb2 hown hT
  have hlG2 : G + 1 < w2.heap.size := by omega
  go_upto_region 6 with fail
  have hBB0 : Blk (w2.alloc (.cells #[.int .i64 0, .int .i64 0] 27)) w2.heap.size 27 #[.int .i64 0, .int .i64 0] := Blk.new _ _ _
  have hbe0 : Below w2.heap.size w2 (w2.alloc (.cells #[.int .i64 0, .int .i64 0] 27)) := (Below.refl _ _).alloc (Nat.le_refl _) _
  generalize w2.alloc (.cells #[.int .i64 0, .int .i64 0] 27) = w3 at *
  generalize hBe : w2.heap.size = B at *
  have HBe := Lib.hid hBe
  clear hBe hs2
  have hcG : w3.cell? ⟨G, 0, none⟩ = some (.int .i64 N) := (hbe0.cell (p := ⟨G, 0, none⟩) (by show G < B; omega)).trans (hbG2.cell 0)
  have hcN : w3.cell? ⟨g, N, none⟩ = some (.slice (some ⟨gb N, 0, none⟩) N N) := (hbe0.cell (p := ⟨g, N, none⟩) hlg).trans (HC.out N hNL)
  have hlw3 := hBB0.lt
  have hNL' : (N : Int) < (L : Int) := by omega
  have hN0 : (0 : Int) ≤ (N : Int) := by omega
  have hlgw : g < w3.heap.size := by omega
  have hlGw : G < w3.heap.size := by omega
  obtain ⟨gN, hgN⟩ : ∃ gN, Hid (gb N = gN) := ⟨_, rfl⟩
  rw [hgN.out] at hcN
  go_wp2_with fail
  clear hcG hcN hlgw hlGw
  go_loopw [27] (fun i wr => ∃ v : Nat, i = .int .i64 v ∧ v ≤ N ∧ Below B w2 wr ∧ Blk wr B 27 #[.int .i64 (bestAt (mF f n) N v).1, .int .i64 (bestAt (mF f n) N v).2]) (fun i _ => N - (intOf i).toNat)
  case atStart => exact ⟨0, rfl, Nat.zero_le _, hbe0, hBB0⟩
  case round =>
    clear hbe0 hBB0 hlw3
    obtain ⟨v, rfl, hv, hbe, hBB⟩ := hrel
    have hlB := hBB.lt
    have hin := best_in hN' (mF_in HG.out) v hv
    obtain ⟨ba, hba⟩ : ∃ ba, Hid ((bestAt (mF f n) N v).1 = ba) := ⟨_, rfl⟩
    obtain ⟨bb, hbb⟩ : ∃ bb, Hid ((bestAt (mF f n) N v).2 = bb) := ⟨_, rfl⟩
    rw [hba.out, hbb.out] at hBB hin
    have HBP : Hid (bestAt (mF f n) N v = (ba, bb)) := by rw [← hba.out, ← hbb.out]; rfl
    have hcG : wr.cell? ⟨G, 0, none⟩ = some (.int .i64 N) := (hbe.cell (p := ⟨G, 0, none⟩) (by show G < B; omega)).trans (hbG2.cell 0)
    have hlG : G < wr.heap.size := by omega
    by_cases hlt : v < N
    · have t1 : (v : Int) < (N : Int) := by omega
      have hv0 : (0 : Int) ≤ (v : Int) := by omega
      have hlgN : gN < B := by rw [← hgN.out]; exact (HTb.out N hNL).2
      have hcx : wr.cell? ⟨gN, v, none⟩ = some (.int .i64 (mF f n N v)) := by
        have h := (HTb.out N hNL).1.below hbe (HTb.out N hNL).2
        rw [hgN.out] at h
        exact blkAt h hlt
      have hxin := mF_in HG.out v hlt N (Nat.le_refl _)
      obtain ⟨x, hx⟩ : ∃ x, Hid (mF f n N v = x) := ⟨_, rfl⟩
      rw [hx.out] at hcx hxin
      have hlgNw : gN < wr.heap.size := by omega
      have HBS := Lib.hid (bestAt_succ (mF f n) N v)
      by_cases hx0 : x = -4611686018427387904
      · have d0 : (x == -4611686018427387904) = true := by rw [hx0]; decide
        have HBS2 : Hid (Blk wr B 27 #[.int .i64 (bestAt (mF f n) N (v + 1)).1, .int .i64 (bestAt (mF f n) N (v + 1)).2]) := by
          rw [HBS.out, if_pos (by rw [hx.out]; exact hx0), hba.out, hbb.out]
          exact hBB
        have HBE := Lib.hid hbe
        clear hBB hbe
        go_wp2
        go_roundw
        case rel => exact ⟨v + 1, by go_num, by omega, HBE.out, HBS2.out⟩
        case measure => simp [intOf]; omega
      · have d0 : (x == -4611686018427387904) = false := by simpa using hx0
        go_upto_region 11 with fail
        have hMM0 : Blk (wr.alloc (.cells #[.int .i64 0, .int .i64 0] 27)) wr.heap.size 27 #[.int .i64 0, .int .i64 0] := Blk.new _ _ _
        have hBBl := hBB.alloc (.cells #[.int .i64 0, .int .i64 0] 27)
        have hbel := hbe.alloc (by omega) (.cells #[.int .i64 0, .int .i64 0] 27)
        have hcGl : (wr.alloc (.cells #[.int .i64 0, .int .i64 0] 27)).cell? ⟨G, 0, none⟩ = some (.int .i64 N) := (World.cell?_alloc_past _ _ _ hlG).trans hcG
        clear hcx hcG hbe hBB
        have hlM := hMM0.lt
        generalize wr.alloc (.cells #[.int .i64 0, .int .i64 0] 27) = wl at *
        obtain ⟨M, hM⟩ : ∃ M, Hid (wr.heap.size = M) := ⟨_, rfl⟩
        rw [hM.out] at hMM0 hlM hlB hlG hlgNw ⊢
        have hlGl : G < wl.heap.size := by omega
        have hNvc : (N : Int) ≤ (vc : Int) := by omega
        have hNtn : (N : Int).toNat = N := by omega
        go_wp2_with fail
        obtain ⟨wo, rfl⟩ : ∃ wo : World, wo = wr := ⟨_, rfl⟩
        go_loopw [39] (fun i wr => ∃ k : Nat, i = .int .i64 k ∧ k ≤ N ∧ Below M wl wr ∧ Blk wr M 27 #[.int .i64 (leastAt (mF f n) N v k).1, .int .i64 (leastAt (mF f n) N v k).2]) (fun i _ => N - (intOf i).toNat)
        case atStart => exact ⟨0, rfl, Nat.zero_le _, Below.refl _ _, hMM0⟩
        case round =>
          clear hMM0
          obtain ⟨k, rfl, hk, hbi, hMM⟩ := hrel
          have hlMr := hMM.lt
          have hli := least_in hN' (mF_in HG.out v hlt) (by rw [hx.out]; exact hx0) k hk
          obtain ⟨la, hla⟩ : ∃ la, Hid ((leastAt (mF f n) N v k).1 = la) := ⟨_, rfl⟩
          obtain ⟨lb, hlb⟩ : ∃ lb, Hid ((leastAt (mF f n) N v k).2 = lb) := ⟨_, rfl⟩
          rw [hla.out, hlb.out] at hMM hli
          have HLP : Hid (leastAt (mF f n) N v k = (la, lb)) := by rw [← hla.out, ← hlb.out]; rfl
          have hBBr := hBBl.below hbi hlB
          have hber : Below B w2 wr := hbel.trans (hbi.mono (by omega))
          have cG : wr.cell? ⟨G, 0, none⟩ = some (.int .i64 N) := (hbi.cell (p := ⟨G, 0, none⟩) hlG).trans hcGl
          have lG : G < wr.heap.size := by omega
          by_cases hkn : k < N
          · have t2 : (k : Int) < (N : Int) := by omega
            have hk0 : (0 : Int) ≤ (k : Int) := by omega
            have ck : wr.cell? ⟨g, k, none⟩ = some (.slice (some ⟨gb k, 0, none⟩) N N) := (hber.cell (p := ⟨g, k, none⟩) hlg).trans (HC.out k (by omega))
            have cu : wr.cell? ⟨gb k, v, none⟩ = some (.int .i64 (mF f n k v)) := blkAt ((HTb.out k (by omega)).1.below hber (HTb.out k (by omega)).2) hlt
            have lgk := (HTb.out k (by omega)).2
            have hui := mF_in HG.out v hlt k hk
            obtain ⟨gk, hgk⟩ : ∃ gk, Hid (gb k = gk) := ⟨_, rfl⟩
            obtain ⟨u, hu⟩ : ∃ u, Hid (mF f n k v = u) := ⟨_, rfl⟩
            rw [hgk.out] at ck cu lgk
            rw [hu.out] at cu hui
            have lgr : g < wr.heap.size := by omega
            replace lgk : gk < wr.heap.size := by omega
            have HLS := Lib.hid (leastAt_succ (mF f n) N v k)
            by_cases hu0 : u = -4611686018427387904
            · have d1 : (u == -4611686018427387904) = true := by rw [hu0]; decide
              have HLS2 : Hid (Blk wr M 27 #[.int .i64 (leastAt (mF f n) N v (k + 1)).1, .int .i64 (leastAt (mF f n) N v (k + 1)).2]) := by
                rw [HLS.out, if_pos (by rw [hu.out]; exact hu0), hla.out, hlb.out]
                exact hMM
              have HBI := Lib.hid hbi
              clear hMM hbi hBBr hber
              go_wp2
              go_roundw
              case rel => exact ⟨k + 1, by go_num, by omega, HBI.out, HLS2.out⟩
              case measure => simp [intOf]; omega
            · have d1 : (u == -4611686018427387904) = false := by simpa using hu0
              have hx9 : -314572800 ≤ x ∧ x ≤ 314572800 := by unfold MOk at hxin; omega
              have hu9 : -314572800 ≤ u ∧ u ≤ 314572800 := by unfold MOk at hui; omega
              obtain ⟨fa, hfa⟩ : ∃ fa, x - u = fa := ⟨_, rfl⟩
              obtain ⟨fb, hfb⟩ : ∃ fb, (N : Int) - (k : Int) = fb := ⟨_, rfl⟩
              have hfa9 : -629145600 ≤ fa ∧ fa ≤ 629145600 := by omega
              have hfb9 : 1 ≤ fb ∧ fb ≤ 300 := by omega
              have w1_ : IntKind.i64.wrap (x - u) = fa := by rw [hfa]; exact IntWalk.i64_in _ (by omega)
              have w2_ : IntKind.i64.wrap ((N : Int) - (k : Int)) = fb := by rw [hfb]; exact IntWalk.i64_in _ (by omega)
              have HLS3 : Hid (leastAt (mF f n) N v (k + 1) = if lb = 0 ∨ fMore (la, lb) (fa, fb) = true then (fa, fb) else (la, lb)) := by
                show leastAt (mF f n) N v (k + 1) = _
                rw [HLS.out, if_neg (by rw [hu.out]; exact hu0), HLP.out, hx.out, hu.out, hfa, hfb]
              clear hfa hfb
              go_upto_region 15 with fail
              clear ck
              refine wp_region_held_drew (S := (fun w' => Below wr.heap.size wr w')) (by kernel_rfl) ?_ (fun hHeld => ?_)
              · exact (Below.refl _ _).drew
              generalize wr.drew = q0 at *
              refine wpAnyH_take (i := 0) (v := ?_) rfl (by kernel_rfl) (by kernel_rfl) (by kernel_rfl) (fun _ _ _ h => h) (Or.inl ⟨by rfl, ?_⟩) (by assumption) ?_
              rotate_left 1
              · intro w' hSw
                have hl0 := (hSw.cell (p := ⟨gk, v, none⟩) lgk).trans cu
                have hl1 := (hSw.cell (p := ⟨G, 0, none⟩) lG).trans cG
                clear hSw
                go_simp
                try (with_reducible rfl)
              try simp only [List.getElem_toArray, List.getElem_cons_zero, List.getElem_cons_succ, Act.put, List.setIfInBounds_toArray, List.set_cons_zero, List.set_cons_succ]
              refine wpAnyH_take (i := 1) (v := ?_) rfl (by kernel_rfl) (by kernel_rfl) (by kernel_rfl) (fun _ _ _ h => h) (Or.inl ⟨by rfl, ?_⟩) (by assumption) ?_
              rotate_left 1
              · intro w' hSw
                have hl0 := (hSw.cell (p := ⟨gk, v, none⟩) lgk).trans cu
                have hl1 := (hSw.cell (p := ⟨G, 0, none⟩) lG).trans cG
                clear hSw
                go_simp
                try (with_reducible rfl)
              try simp only [List.getElem_toArray, List.getElem_cons_zero, List.getElem_cons_succ, Act.put, List.setIfInBounds_toArray, List.set_cons_zero, List.set_cons_succ]
              refine wpAnyH_take (i := 2) (v := ?_) rfl (by kernel_rfl) (by kernel_rfl) (by kernel_rfl) (fun _ _ _ h => h) (Or.inl ⟨by rfl, ?_⟩) (by assumption) ?_
              rotate_left 1
              · intro w' hSw
                have hl0 := (hSw.cell (p := ⟨gk, v, none⟩) lgk).trans cu
                have hl1 := (hSw.cell (p := ⟨G, 0, none⟩) lG).trans cG
                clear hSw
                go_simp
                try (with_reducible rfl)
              try simp only [List.getElem_toArray, List.getElem_cons_zero, List.getElem_cons_succ, Act.put, List.setIfInBounds_toArray, List.set_cons_zero, List.set_cons_succ]
              refine wpAnyH_take (i := 3) (v := ?_) rfl (by kernel_rfl) (by kernel_rfl) (by kernel_rfl) (fun _ _ _ h => h) (Or.inl ⟨by rfl, ?_⟩) (by assumption) ?_
              rotate_left 1
              · intro w' hSw
                have hl0 := (hSw.cell (p := ⟨gk, v, none⟩) lgk).trans cu
                have hl1 := (hSw.cell (p := ⟨G, 0, none⟩) lG).trans cG
                clear hSw
                go_simp
                try (with_reducible rfl)
              try simp only [List.getElem_toArray, List.getElem_cons_zero, List.getElem_cons_succ, Act.put, List.setIfInBounds_toArray, List.set_cons_zero, List.set_cons_succ]
              refine wpAnyH_take (i := 4) (v := ?_) rfl (by kernel_rfl) (by kernel_rfl) (by kernel_rfl) (fun _ _ _ h => h) (Or.inl ⟨by rfl, ?_⟩) (by assumption) ?_
              rotate_left 1
              · intro w' hSw
                have hl0 := (hSw.cell (p := ⟨gk, v, none⟩) lgk).trans cu
                have hl1 := (hSw.cell (p := ⟨G, 0, none⟩) lG).trans cG
                clear hSw
                go_simp
                try (with_reducible rfl)
              try simp only [List.getElem_toArray, List.getElem_cons_zero, List.getElem_cons_succ, Act.put, List.setIfInBounds_toArray, List.set_cons_zero, List.set_cons_succ]
              refine wpAnyH_take (i := 5) (v := ?_) rfl (by kernel_rfl) (by kernel_rfl) (by kernel_rfl) (fun _ _ _ h => h) (Or.inl ⟨by rfl, ?_⟩) (by assumption) ?_
              rotate_left 1
              · intro w' hSw
                have hl0 := (hSw.cell (p := ⟨gk, v, none⟩) lgk).trans cu
                have hl1 := (hSw.cell (p := ⟨G, 0, none⟩) lG).trans cG
                clear hSw
                go_simp
                try (with_reducible rfl)
              try simp only [List.getElem_toArray, List.getElem_cons_zero, List.getElem_cons_succ, Act.put, List.setIfInBounds_toArray, List.set_cons_zero, List.set_cons_succ]
              refine wpAnyH_take (i := 6) (v := ?_) rfl (by kernel_rfl) (by kernel_rfl) (by kernel_rfl) (fun _ _ _ h => h) (Or.inl ⟨by rfl, ?_⟩) (by assumption) ?_
              rotate_left 1
              · intro w' hSw
                have hl0 := (hSw.cell (p := ⟨gk, v, none⟩) lgk).trans cu
                have hl1 := (hSw.cell (p := ⟨G, 0, none⟩) lG).trans cG
                clear hSw
                go_simp
                try (with_reducible rfl)
              try simp only [List.getElem_toArray, List.getElem_cons_zero, List.getElem_cons_succ, Act.put, List.setIfInBounds_toArray, List.set_cons_zero, List.set_cons_succ]
              refine wpAnyH_take (i := 7) (v := ?_) rfl (by kernel_rfl) (by kernel_rfl) (by kernel_rfl) (fun _ _ _ h => h) (Or.inl ⟨by rfl, ?_⟩) (by assumption) ?_
              rotate_left 1
              · intro w' hSw
                have hl0 := (hSw.cell (p := ⟨gk, v, none⟩) lgk).trans cu
                have hl1 := (hSw.cell (p := ⟨G, 0, none⟩) lG).trans cG
                clear hSw
                go_simp
                try (with_reducible rfl)
              try simp only [List.getElem_toArray, List.getElem_cons_zero, List.getElem_cons_succ, Act.put, List.setIfInBounds_toArray, List.set_cons_zero, List.set_cons_succ]
              refine wpAnyH_take (i := 8) (v := ?_) rfl (by kernel_rfl) (by kernel_rfl) (by kernel_rfl) (fun _ _ _ h => h) (Or.inl ⟨by rfl, ?_⟩) (by assumption) ?_
              rotate_left 1
              · intro w' hSw
                have hl0 := (hSw.cell (p := ⟨gk, v, none⟩) lgk).trans cu
                have hl1 := (hSw.cell (p := ⟨G, 0, none⟩) lG).trans cG
                clear hSw
                go_simp
                try (with_reducible rfl)
              try simp only [List.getElem_toArray, List.getElem_cons_zero, List.getElem_cons_succ, Act.put, List.setIfInBounds_toArray, List.set_cons_zero, List.set_cons_succ]
              refine wpAnyH_take (i := 9) (v := ?_) rfl (by kernel_rfl) (by kernel_rfl) (by kernel_rfl) (fun _ _ _ h => h) (Or.inl ⟨by rfl, ?_⟩) (by assumption) ?_
              rotate_left 1
              · intro w' hSw
                have hl0 := (hSw.cell (p := ⟨gk, v, none⟩) lgk).trans cu
                have hl1 := (hSw.cell (p := ⟨G, 0, none⟩) lG).trans cG
                clear hSw
                go_simp
                try (with_reducible rfl)
              try simp only [List.getElem_toArray, List.getElem_cons_zero, List.getElem_cons_succ, Act.put, List.setIfInBounds_toArray, List.set_cons_zero, List.set_cons_succ]
              refine wpAnyH_take (i := 10) (v := ?_) rfl (by kernel_rfl) (by kernel_rfl) (by kernel_rfl) (fun _ _ _ h => h) (Or.inl ⟨by rfl, ?_⟩) (by assumption) ?_
              rotate_left 1
              · intro w' hSw
                have hl0 := (hSw.cell (p := ⟨gk, v, none⟩) lgk).trans cu
                have hl1 := (hSw.cell (p := ⟨G, 0, none⟩) lG).trans cG
                clear hSw
                go_simp
                try (with_reducible rfl)
              try simp only [List.getElem_toArray, List.getElem_cons_zero, List.getElem_cons_succ, Act.put, List.setIfInBounds_toArray, List.set_cons_zero, List.set_cons_succ]
              refine wpAnyH_ready (rs := [11]) (by kernel_rfl) (by simp) ?_
              refine AllReadyH.cons rfl (fun K hK => ?_) AllReadyH.nil
              go_simp
              have hC : Blk (q0.alloc (.cells #[.int .i64 0, .int .i64 0] 27)) q0.heap.size 27 #[.int .i64 0, .int .i64 0] := Blk.new _ _ _
              have hh : Below wr.heap.size wr (q0.alloc (.cells #[.int .i64 0, .int .i64 0] 27)) := hHeld.alloc hHeld.size _
              have hqs := hHeld.size
              clear hHeld
              refine hK.out _ _ ?_ (fun hHeld => ?_)
              · exact hh
              clear hK K hh
              try simp only [lay]
              generalize (q0.alloc (.cells #[.int .i64 0, .int .i64 0] 27)) = q1 at *
              generalize q0.heap.size = C at *
              refine wpAnyH_ready (rs := [12]) (by kernel_rfl) (by simp) ?_
              refine AllReadyH.cons rfl (fun K hK => ?_) AllReadyH.nil
              rw [if_pos (by rfl)]
              refine wp_store_row _ _ _ rfl C #[.int .i64 fa, .int .i64 fb] rfl rfl 27 #[.int .i64 0, .int .i64 0] hC (by kernel_rfl) rfl (by simp [Value.oneCell']) ?_
              refine hK.out _ _ ?_ (fun hHeld3 => ?_)
              · exact below_setRow' hHeld hqs _
              clear hK K hHeld
              try simp only [lay, Act.put]
              refine wpAnyH_done (by kernel_rfl) ?_ _
              have hCf : Blk (q1.setRow C #[.int .i64 fa, .int .i64 fb]) C 27 #[.int .i64 fa, .int .i64 fb] := setRow_heap _ _ _ _ _ _ hC
              generalize q1.setRow C #[.int .i64 fa, .int .i64 fb] = wq at *
              have hMq := hMM.below hHeld3 hlMr
              have hbq : Below M wl wq := hbi.trans (hHeld3.mono (by omega))
              have hMC : M ≠ C := by omega
              have lMq := hMq.lt
              have c0 : wq.cell? ⟨M, 1, none⟩ = some (.int .i64 lb) := hMq.cell 1
              have c1 : wq.cell? ⟨M, 0, none⟩ = some (.int .i64 la) := hMq.cell 0
              have c2 : wq.cell? ⟨C, 0, none⟩ = some (.int .i64 fa) := hCf.cell 0
              have c3 : wq.cell? ⟨C, 1, none⟩ = some (.int .i64 fb) := hCf.cell 1
              have lCq := hCf.lt
              clear hMM hbi hBBr hber cG cu hC hHeld3
              by_cases hl0 : lb = 0
              · have d2 : (lb == 0) = true := by rw [hl0]; rfl
                have HN : Hid (leastAt (mF f n) N v (k + 1) = (fa, fb)) := by show _ = _; rw [HLS3.out, if_pos (.inl hl0)]
                have HB9 : Hid (Below M wl (wq.setRow M #[.int .i64 fa, .int .i64 fb])) := below_setRow' hbq (Nat.le_refl _) _
                have HK9 : Hid (Blk (wq.setRow M #[.int .i64 fa, .int .i64 fb]) M 27 #[.int .i64 (leastAt (mF f n) N v (k + 1)).1, .int .i64 (leastAt (mF f n) N v (k + 1)).2]) := by rw [HN.out]; exact setRow_heap _ _ _ _ _ _ hMq
                clear hbq
                go_wp2_with (first | (refine wpList_load_row rfl _ _ rfl C rfl _ _ _ _ hCf Try.underlying27 rfl (by kernel_rfl) ?_) | (refine wpList_store_row rfl _ _ _ rfl M #[.int .i64 fa, .int .i64 fb] rfl rfl 27 #[.int .i64 la, .int .i64 lb] hMq (by kernel_rfl) rfl (by simp [Value.oneCell']) ?_))
                go_roundw
                case rel => exact ⟨k + 1, by go_num, by omega, HB9.out, HK9.out⟩
                case measure => simp [intOf]; omega
              · have d2 : (lb == 0) = false := by simpa using hl0
                by_cases hmo : fMore (la, lb) (fa, fb) = true
                · have HN : Hid (leastAt (mF f n) N v (k + 1) = (fa, fb)) := by show _ = _; rw [HLS3.out, if_pos (.inr hmo)]
                  have HMO := Lib.hid hmo
                  clear hmo
                  go_upto_region 17 with ((go_at_call 14; refine (more_any la lb fa fb _ (by omega) (by omega) (by omega) (by omega)).mono ?_; rw [HMO.out]; rintro e w' ⟨rfl, os8, d8, rfl⟩))
                  have hMq2 := hMq.more os8 d8
                  have hCf2 := hCf.more os8 d8
                  have hbq2 : Below M wl (wq.more os8 d8) := hbq.trans (below_more wq os8 d8 M (by omega))
                  clear hMq hCf hbq c0 c1 c2 c3
                  generalize wq.more os8 d8 = wp at *
                  have HB9 : Hid (Below M wl (wp.setRow M #[.int .i64 fa, .int .i64 fb])) := below_setRow' hbq2 (Nat.le_refl _) _
                  have HK9 : Hid (Blk (wp.setRow M #[.int .i64 fa, .int .i64 fb]) M 27 #[.int .i64 (leastAt (mF f n) N v (k + 1)).1, .int .i64 (leastAt (mF f n) N v (k + 1)).2]) := by rw [HN.out]; exact setRow_heap _ _ _ _ _ _ hMq2
                  clear hbq2
                  go_wp2_with (first | (refine wpList_load_row rfl _ _ rfl C rfl _ _ _ _ hCf2 Try.underlying27 rfl (by kernel_rfl) ?_) | (refine wpList_store_row rfl _ _ _ rfl M #[.int .i64 fa, .int .i64 fb] rfl rfl 27 #[.int .i64 la, .int .i64 lb] hMq2 (by kernel_rfl) rfl (by simp [Value.oneCell']) ?_))
                  go_roundw
                  case rel => exact ⟨k + 1, by go_num, by omega, HB9.out, HK9.out⟩
                  case measure => simp [intOf]; omega
                · have hmo' : fMore (la, lb) (fa, fb) = false := by simpa using hmo
                  have HN : Hid (leastAt (mF f n) N v (k + 1) = (la, lb)) := by show _ = _; rw [HLS3.out, if_neg (fun h => h.elim hl0 hmo)]
                  have HMO := Lib.hid hmo'
                  clear hmo hmo'
                  have HB9 : Hid (Below M wl wq) := hbq
                  have HK9 : Hid (Blk wq M 27 #[.int .i64 (leastAt (mF f n) N v (k + 1)).1, .int .i64 (leastAt (mF f n) N v (k + 1)).2]) := by rw [HN.out]; exact hMq
                  clear hbq
                  go_wp2_with ((go_at_call 14; refine (more_any la lb fa fb _ (by omega) (by omega) (by omega) (by omega)).mono ?_; rw [HMO.out]; rintro e w' ⟨rfl, os8, d8, rfl⟩))
                  go_roundw
                  case rel => exact ⟨k + 1, by go_num, by omega, HB9.out.trans (below_more wq os8 d8 M (by omega)), HK9.out.more os8 d8⟩
                  case measure => simp [intOf]; omega
          · obtain rfl : N = k := by omega
            have HBS3 : Hid (bestAt (mF f n) N (v + 1) = if bb = 0 ∨ fMore (la, lb) (ba, bb) = true then (la, lb) else (ba, bb)) := by
              show bestAt (mF f n) N (v + 1) = _
              rw [HBS.out, if_neg (by rw [hx.out]; exact hx0), HBP.out, HLP.out]
            have c0 : wr.cell? ⟨B, 1, none⟩ = some (.int .i64 bb) := hBBr.cell 1
            have c1 : wr.cell? ⟨B, 0, none⟩ = some (.int .i64 ba) := hBBr.cell 0
            have c2 : wr.cell? ⟨M, 0, none⟩ = some (.int .i64 la) := hMM.cell 0
            have c3 : wr.cell? ⟨M, 1, none⟩ = some (.int .i64 lb) := hMM.cell 1
            have lBr := hBBr.lt
            clear cG lG hbi
            by_cases hb0 : bb = 0
            · have d2 : (bb == 0) = true := by rw [hb0]; rfl
              have HN : Hid (bestAt (mF f n) N (v + 1) = (la, lb)) := by show _ = _; rw [HBS3.out, if_pos (.inl hb0)]
              have HB9 : Hid (Below B w2 (wr.setRow B #[.int .i64 la, .int .i64 lb])) := below_setRow' hber (Nat.le_refl _) _
              have HK9 : Hid (Blk (wr.setRow B #[.int .i64 la, .int .i64 lb]) B 27 #[.int .i64 (bestAt (mF f n) N (v + 1)).1, .int .i64 (bestAt (mF f n) N (v + 1)).2]) := by rw [HN.out]; exact setRow_heap _ _ _ _ _ _ hBBr
              clear hber
              go_wp2_with (first | (refine wpList_load_row rfl _ _ rfl M rfl _ _ _ _ hMM Try.underlying27 rfl (by kernel_rfl) ?_) | (refine wpList_store_row rfl _ _ _ rfl B #[.int .i64 la, .int .i64 lb] rfl rfl 27 #[.int .i64 ba, .int .i64 bb] hBBr (by kernel_rfl) rfl (by simp [Value.oneCell']) ?_))
              go_roundw
              case rel => exact ⟨v + 1, by go_num, by omega, HB9.out, HK9.out⟩
              case measure => simp [intOf]; omega
            · have d2 : (bb == 0) = false := by simpa using hb0
              by_cases hmo : fMore (la, lb) (ba, bb) = true
              · have HN : Hid (bestAt (mF f n) N (v + 1) = (la, lb)) := by show _ = _; rw [HBS3.out, if_pos (.inr hmo)]
                have HMO := Lib.hid hmo
                clear hmo
                go_upto_region 20 with ((go_at_call 14; refine (more_any la lb ba bb _ (by omega) (by omega) (by omega) (by omega)).mono ?_; rw [HMO.out]; rintro e w' ⟨rfl, os8, d8, rfl⟩))
                have hMq2 := hMM.more os8 d8
                have hBq2 := hBBr.more os8 d8
                have hbq2 : Below B w2 (wr.more os8 d8) := hber.trans (below_more wr os8 d8 B (by omega))
                clear hMM hBBr hber c0 c1 c2 c3
                generalize wr.more os8 d8 = wp at *
                have HB9 : Hid (Below B w2 (wp.setRow B #[.int .i64 la, .int .i64 lb])) := below_setRow' hbq2 (Nat.le_refl _) _
                have HK9 : Hid (Blk (wp.setRow B #[.int .i64 la, .int .i64 lb]) B 27 #[.int .i64 (bestAt (mF f n) N (v + 1)).1, .int .i64 (bestAt (mF f n) N (v + 1)).2]) := by rw [HN.out]; exact setRow_heap _ _ _ _ _ _ hBq2
                clear hbq2
                go_wp2_with (first | (refine wpList_load_row rfl _ _ rfl M rfl _ _ _ _ hMq2 Try.underlying27 rfl (by kernel_rfl) ?_) | (refine wpList_store_row rfl _ _ _ rfl B #[.int .i64 la, .int .i64 lb] rfl rfl 27 #[.int .i64 ba, .int .i64 bb] hBq2 (by kernel_rfl) rfl (by simp [Value.oneCell']) ?_))
                go_roundw
                case rel => exact ⟨v + 1, by go_num, by omega, HB9.out, HK9.out⟩
                case measure => simp [intOf]; omega
              · have hmo' : fMore (la, lb) (ba, bb) = false := by simpa using hmo
                have HN : Hid (bestAt (mF f n) N (v + 1) = (ba, bb)) := by show _ = _; rw [HBS3.out, if_neg (fun h => h.elim hb0 hmo)]
                have HMO := Lib.hid hmo'
                clear hmo hmo'
                have HB9 : Hid (Below B w2 wr) := hber
                have HK9 : Hid (Blk wr B 27 #[.int .i64 (bestAt (mF f n) N (v + 1)).1, .int .i64 (bestAt (mF f n) N (v + 1)).2]) := by rw [HN.out]; exact hBBr
                clear hber
                go_wp2_with ((go_at_call 14; refine (more_any la lb ba bb _ (by omega) (by omega) (by omega) (by omega)).mono ?_; rw [HMO.out]; rintro e w' ⟨rfl, os8, d8, rfl⟩))
                go_roundw
                case rel => exact ⟨v + 1, by go_num, by omega, HB9.out.trans (below_more wr os8 d8 B (by omega)), HK9.out.more os8 d8⟩
                case measure => simp [intOf]; omega
    · obtain rfl : N = v := by omega
      have hRr := hbR2.below hbe hlG2
      have HBe2 : Hid (Below G w wr) := HB2.out.trans (hbe.mono (by omega))
      have c0 : wr.cell? ⟨B, 1, none⟩ = some (.int .i64 bb) := hBB.cell 1
      have c1 : wr.cell? ⟨B, 0, none⟩ = some (.int .i64 ba) := hBB.cell 0
      have HBN : Hid (best f n N = (ba, bb)) := HBP.out
      have lRr := hRr.lt
      clear hbe hcG
      by_cases hb0 : bb = 0
      · have d2 : (bb == 0) = true := by rw [hb0]; rfl
        have hRs : Blk (wr.setRow (G + 1) #[.int .i64 0, .int .i64 0]) (G + 1) 27 #[.int .i64 0, .int .i64 0] := setRow_heap _ _ _ _ _ _ hRr
        have HBs : Hid (Below G w (wr.setRow (G + 1) #[.int .i64 0, .int .i64 0])) := below_setRow' HBe2.out (by omega) _
        have e0 := hRs.cell 0
        have e1 := hRs.cell 1
        simp at e0 e1
        go_wp2_with (refine wpList_store_row rfl _ _ _ rfl (G + 1) #[.int .i64 0, .int .i64 0] rfl rfl 27 #[.int .i64 0, .int .i64 0] hRr (by kernel_rfl) rfl (by simp [Value.oneCell']) ?_)
        refine bodyPost_ret (v := .tuple #[.agg #[.int .i64 0, .int .i64 0], .int .i64 3]) (by simp [results, Try.results7, go_sem, e0, e1]) rfl ⟨.inl ⟨by rw [HBN.out]; exact hb0, rfl⟩, ?_⟩
        rw [HGe.out]
        exact HBs.out
      · have d2 : (bb == 0) = false := by simpa using hb0
        obtain ⟨Dn, rfl⟩ : ∃ Dn : Nat, bb = Dn := ⟨bb.toNat, by omega⟩
        have hRv := fun os d => hRr.more os d
        have HRV := Lib.hid hRv
        clear hRv
        go_wp2_with (first | (go_at_call 15; refine (lowest_any ba Dn _ (by omega) (by omega)).mono ?_; rintro e w' ⟨PP, QQ, rfl, HG3, os8, d8, rfl⟩) | (refine wpList_store_row rfl _ _ _ rfl (G + 1) #[.int .i64 PP, .int .i64 QQ] rfl rfl 27 #[.int .i64 0, .int .i64 0] (HRV.out os8 d8) (by kernel_rfl) rfl (by simp [Value.oneCell']) ?_))
        have hRs : Blk ((wr.more os8 d8).setRow (G + 1) #[.int .i64 PP, .int .i64 QQ]) (G + 1) 27 #[.int .i64 PP, .int .i64 QQ] := setRow_heap _ _ _ _ _ _ (HRV.out os8 d8)
        have e0 := hRs.cell 0
        have e1 := hRs.cell 1
        simp at e0 e1
        refine bodyPost_ret (v := .tuple #[.agg #[.int .i64 PP, .int .i64 QQ], .int .i64 0]) (by simp [results, Try.results7, go_sem, e0, e1]) rfl ⟨.inr ⟨by rw [HBN.out]; exact hb0, by unfold bP bQ; rw [HBN.out]; dsimp only; rw [Int.toNat_natCast, HG3.out.1, HG3.out.2]⟩, ?_⟩
        rw [HGe.out]
        exact below_setRow' (HBe2.out.trans (below_more wr os8 d8 G (by omega))) (by omega) _
end Go.Proofs.Ytnbjcohkkaijaaa
