/- mean.Best: a cycle of the greatest mean. Conditions: none. -/
import Derived.Test.YtnbjcohkkaijaaaVis
import Derived.Test.YtnbjcohkkaijaaaMeHigh
set_option linter.unusedVariables false
set_option linter.unusedSimpArgs false
namespace Go.Proofs.Ytnbjcohkkaijaaa
open Go.RowKit Go.Tide
set_option linter.unusedVariables false
set_option linter.unusedSimpArgs false

/-- The cycle. -/
def bestL (f : Nat → Nat → Int) (n N : Nat) : List Nat := (visAll (lightF f (bP f n N) (bQ f n N)) (hAll (lightF f (bP f n N) (bQ f n N)) n N) n N N).2
def BsEnd (f : Nat → Nat → Int) (n N : Nat) (e : Ending) (w' : World) : Prop :=
  ((best f n N).2 = 0 ∧ e = .returned (.tuple #[.slice none 0 0, .int .i64 3])) ∨ ((best f n N).2 ≠ 0 ∧ ∃ ao co, e = .returned (.tuple #[.slice ao (bestL f n N).length co, .int .i64 0]) ∧ Row w' ao (bestL f n N).length (wOf (bestL f n N)))
theorem low_in {f : Nat → Nat → Int} {n N : Nat} (hG : GRight N n f) : -700000000 ≤ bP f n N ∧ bP f n N ≤ 700000000 := by
  have h := best_in (show N ≤ 300 by have := hG.2.1; omega) (mF_in hG) N (Nat.le_refl _)
  unfold bP
  exact tdiv_in _ _ ⟨by show -700000000 ≤ (bestAt (mF f n) N N).1; omega, by show (bestAt (mF f n) N N).1 ≤ 700000000; omega⟩
theorem light_in {f : Nat → Nat → Int} {n N : Nat} (hG : GRight N n f) {P Q : Int} (hP : -700000000 ≤ P ∧ P ≤ 700000000) (hQ : 0 ≤ Q ∧ Q ≤ 300) : ∀ k, k < n → -1073741824 ≤ lightF f P Q k 2 ∧ lightF f P Q k 2 ≤ 1073741824 := fun k hk => by
  have h := hG.2.2.2 k hk
  have h1 : f k 2 * Q ≤ 1048576 * Q := Int.mul_le_mul_of_nonneg_right h.2.2.2.2.2 hQ.1
  have h2 : -1048576 * Q ≤ f k 2 * Q := Int.mul_le_mul_of_nonneg_right h.2.2.2.2.1 hQ.1
  show -1073741824 ≤ f k 2 * Q - P ∧ f k 2 * Q - P ≤ 1073741824
  omega
theorem high_in {f : Nat → Nat → Int} {n N : Nat} (hG : GN N n f) (hN : N ≤ 300) (hn : n ≤ 4800) (hf : ∀ k, k < n → -1073741824 ≤ f k 2 ∧ f k 2 ≤ 1073741824) (t : Nat) (ht : t ≤ N) : ∀ v, v < N → 0 ≤ hAll f n t v ∧ hAll f n t v ≤ 2000000000000000 := fun v hv => by
  have h := hAll_in hG (C := 1073741824) (by decide) (fun k hk => (hf k hk).2) t v hv
  have h2 : (1073741824 : Int) * n * t ≤ 1073741824 * 4800 * 300 := by
    have h3 : (1073741824 : Int) * n ≤ 1073741824 * 4800 := by omega
    have h4 : (1073741824 : Int) * n * t ≤ 1073741824 * 4800 * t := Int.mul_le_mul_of_nonneg_right h3 (by omega)
    omega
  exact ⟨hAll_pos t v, by omega⟩
theorem visAll_stay {f : Nat → Nat → Int} {h : Nat → Int} {n N m : Nat} (hne : (visAll f h n N m).2 ≠ []) : ∀ q, visAll f h n N (m + q) = visAll f h n N m := by
  intro q
  induction q with
  | zero => rfl
  | succ q ih =>
    show visAll f h n N (m + q + 1) = _
    rw [visAll, if_neg (by rw [ih]; exact hne), ih]
theorem visAll_stay' {f : Nat → Nat → Int} {h : Nat → Int} {n N m m' : Nat} (hne : (visAll f h n N m).2 ≠ []) (hm : m ≤ m') : visAll f h n N m' = visAll f h n N m := by
  obtain ⟨q, rfl⟩ : ∃ q, m' = m + q := ⟨m' - m, by omega⟩
  exact visAll_stay hne q
theorem hPass_in2 {f : Nat → Nat → Int} {n N : Nat} (hG : GN N n f) (hN : N ≤ 300) (hn : n ≤ 4800) (hf : ∀ k, k < n → -1073741824 ≤ f k 2 ∧ f k 2 ≤ 1073741824) (t : Nat) (ht : t < N) (k : Nat) (hk : k ≤ n) : ∀ v, v < N → 0 ≤ hPass f k (hAll f n t) v ∧ hPass f k (hAll f n t) v ≤ 3000000000000000 := fun v hv => by
  have h1 := hPass_in hG (C := 1073741824) (by decide) (fun k hk => (hf k hk).2) (fun v hv => (high_in hG hN hn hf t (by omega) v hv).2) k hk v hv
  have h2 := hPass_up (f := f) (hAll f n t) v k
  have h3 := hAll_pos (f := f) (n := n) t v
  exact ⟨by omega, by omega⟩
theorem edgeInfo : (Try.prog.info? 32).map (fun i => (i.zero, i.size, i.bytes)) = some (some (.agg #[.int .i64 0, .int .i64 0, .int .i64 0]), 3, 24) := by kernel_rfl

set_option maxRecDepth 20000 in
set_option maxHeartbeats 2000000 in
theorem best_bad (N : Int) (a : Option Addr) (n c : Nat) (f : Nat → Nat → Int) (w : World) (hf : RowC w 3 a n f) (hn : n ≤ 1152921504606846976) (hG : ¬ GRight N n f) :
    Calls Try.prog 9 #[.agg #[.int .i64 N, .slice a n c]] w fun e w' => e = .returned (.tuple #[.slice none 0 0, .int .i64 2]) ∧ Below w.heap.size w w' := by
  have hb := Blk.new w 24 #[.int .i64 N, .slice a n c]
  go_enter Try.func9, Try.ntmps9
  go_wp2_with (go_at_call 7; refine (greatest_bad N a n c f _ (by repeat (first | (with_reducible assumption) | (with_reducible exact RowC.nil) | (with_reducible apply RowC.drewN) | (with_reducible apply RowC.drew) | (with_reducible apply RowC.more) | (with_reducible apply RowC.alloc))) hn hG).mono ?_; rintro e w' ⟨rfl, os1, d1, rfl⟩)
  go_ret2
  exact ⟨rfl, More.below (by repeat (first | (with_reducible assumption) | (with_reducible exact More.refl _) | (with_reducible refine More.alloc ?_ _) | (with_reducible refine More.more ?_ _ _) | (with_reducible refine More.drewN ?_ _) | (with_reducible refine More.drew ?_)))⟩
set_option maxRecDepth 20000 in
set_option maxHeartbeats 8000000 in
theorem best_ok (N : Nat) (a : Option Addr) (n c : Nat) (f : Nat → Nat → Int) (w : World) (hf : RowC w 3 a n f) (hG : GRight N n f) :
    Calls Try.prog 9 #[.agg #[.int .i64 N, .slice a n c]] w fun e w' => BsEnd f n N e w' ∧ Below w.heap.size w w' := by
  have HG := Lib.hid hG
  have hN' : N ≤ 300 := by have := hG.2.1; omega
  have hn' : n ≤ 4800 := hG.2.2.1
  clear hG
  have hb := Blk.new w 24 #[.int .i64 N, .slice a n c]
  have hf1 := hf.alloc (.cells #[.int .i64 N, .slice a n c] 24)
  have HM1 : Hid (Below w.heap.size w (w.alloc (.cells #[.int .i64 N, .slice a n c] 24))) := (Below.refl _ _).alloc (Nat.le_refl _) _
  go_enter Try.func9, Try.ntmps9
  go_wp2_with fail
  generalize w.alloc (.cells #[.int .i64 N, .slice a n c] 24) = w1 at *
  generalize hGe : w.heap.size = G at *
  have HGe := Lib.hid hGe
  clear hGe hf
  have lG1 := hb.lt
  refine (greatest_ok N a n c f _ hf1 HG.out).mono ?_
  rintro e w2 ⟨he, hb2⟩
  have hbG2 := hb.below hb2 lG1
  have hf2 := hf1.below hb2 (Nat.le_refl _)
  have HM2 : Hid (Below G w w2) := HM1.out.trans (hb2.mono (Nat.le_of_lt lG1))
  have lG2 := hbG2.lt
  clear hb hf1 hb2 lG1
  rcases he with ⟨h0, rfl⟩ | ⟨h0, rfl⟩
  · have H0 := Lib.hid h0
    clear h0
    have HM3 : Hid (Below G w (w2.alloc (.cells #[.int .i64 0, .int .i64 0] 27))) := HM2.out.alloc (by omega) _
    go_wp2
    go_ret2
    rw [HGe.out]
    exact ⟨.inl ⟨H0.out, rfl⟩, HM3.out⟩
  obtain ⟨P, hP⟩ : ∃ P, Hid (bP f n N = P) := ⟨_, rfl⟩
  obtain ⟨Q, hQ⟩ : ∃ Q, Hid (bQ f n N = Q) := ⟨_, rfl⟩
  have H0 := Lib.hid h0
  have HLW : Hid (∃ g : Int, 1 ≤ g ∧ P * g = (best f n N).1 ∧ Q * g = (best f n N).2 ∧ 1 ≤ Q ∧ Q ≤ 300) := by show _; rw [← hP.out, ← hQ.out]; exact low_facts hN' h0
  have hPb : -700000000 ≤ P ∧ P ≤ 700000000 := by rw [← hP.out]; exact low_in HG.out
  have hQb : 1 ≤ Q ∧ Q ≤ 300 := by obtain ⟨g, _, _, _, h⟩ := HLW.out; exact h
  rw [hP.out, hQ.out]
  have HF2 := Lib.hid (light_in HG.out hPb (Q := Q) ⟨by omega, hQb.2⟩)
  have HGN : Hid (GN N n (lightF f P Q)) := light_gn P Q (gright_gn HG.out)
  clear h0
  have hF0 : Blk ((w2.alloc (.cells #[.int .i64 0, .int .i64 0] 27)).setRow w2.heap.size #[.int .i64 P, .int .i64 Q]) w2.heap.size 27 #[.int .i64 P, .int .i64 Q] := newRow
  go_upto_region 4 with (refine wpList_store_row rfl _ _ _ rfl w2.heap.size #[.int .i64 P, .int .i64 Q] rfl rfl 27 #[.int .i64 0, .int .i64 0] (Blk.new w2 _ _) (by kernel_rfl) rfl (by simp [Value.oneCell']) ?_)
  have hbG3 : Blk ((w2.alloc (.cells #[.int .i64 0, .int .i64 0] 27)).setRow w2.heap.size #[.int .i64 P, .int .i64 Q]) G 24 #[.int .i64 N, .slice a n c] := blk_setRow (hbG2.alloc _) (by omega)
  have hnb : Below w2.heap.size w2 ((w2.alloc (.cells #[.int .i64 0, .int .i64 0] 27)).setRow w2.heap.size #[.int .i64 P, .int .i64 Q]) := below_setRow' ((Below.refl _ _).alloc (Nat.le_refl _) _) (Nat.le_refl _) _
  have hf3 : RowC ((w2.alloc (.cells #[.int .i64 0, .int .i64 0] 27)).setRow w2.heap.size #[.int .i64 P, .int .i64 Q]) 3 a n f := hf2.below hnb (Nat.le_refl _)
  have HM3 : Hid (Below G w ((w2.alloc (.cells #[.int .i64 0, .int .i64 0] 27)).setRow w2.heap.size #[.int .i64 P, .int .i64 Q])) := HM2.out.trans (hnb.mono (by omega))
  clear hnb hbG2 hf2
  generalize ((w2.alloc (.cells #[.int .i64 0, .int .i64 0] 27)).setRow w2.heap.size #[.int .i64 P, .int .i64 Q]) = w3 at *
  generalize w2.heap.size = FB at *
  have lF3 := hF0.lt
  have lG3 := hbG3.lt
  have cG1 : w3.cell? ⟨G, 1, none⟩ = some (.slice a n c) := hbG3.cell 1
  have hown0 : w3.ownsRow w3.heap.size 32 3 (.slice none 0 0) 0 (cellsC 3 0 (lightF f P Q)) := World.ownsRow_nil _ _ _ _
  obtain ⟨i0_, hi, hz0, hz1, hz2⟩ := info_parts edgeInfo
  go_wp2_with fail
  clear cG1
  go_loopw [6, 26] (fun v i wr => ∃ k : Nat, i = .int .i64 k ∧ k ≤ n ∧ wr.ownsRow w3.heap.size 32 3 v k (cellsC 3 k (lightF f P Q)) ∧ Below w3.heap.size w3 wr) (fun _ i _ => n - (intOf i).toNat)
  case atStart => exact ⟨0, rfl, Nat.zero_le _, hown0, Below.refl _ _⟩
  case round =>
    clear hown0
    obtain ⟨k, rfl, hk, hown, hbe⟩ := hrel
    have hsz := hbe.size
    by_cases hlt : k < n
    · have t1 : (k : Int) < (n : Int) := by omega
      obtain ⟨b, off, x, y, z, rfl, hbl, hcx, hcy, hcz, hx, hy, hz⟩ := (hf3.below hbe (Nat.le_refl _)).at3 hlt
      have hff := HG.out.2.2.2 k hlt
      have hfl := HF2.out k hlt
      have hl2 : lightF f P Q k 2 = z * Q - P := by rw [hz.out]; rfl
      rw [hl2] at hfl
      have HL2 := Lib.hid hl2
      rw [← hx.out, ← hy.out, ← hz.out] at hff
      have hQ0 : 0 ≤ Q := by omega
      have hm1 : z * Q ≤ 1048576 * Q := Int.mul_le_mul_of_nonneg_right hff.2.2.2.2.2 hQ0
      have hm2 : -1048576 * Q ≤ z * Q := Int.mul_le_mul_of_nonneg_right hff.2.2.2.2.1 hQ0
      have hm3 : -400000000 ≤ z * Q ∧ z * Q ≤ 400000000 := by omega
      obtain ⟨mz, hmz⟩ : ∃ mz, z * Q = mz := ⟨_, rfl⟩
      obtain ⟨lz, hlz⟩ : ∃ lz, mz - P = lz := ⟨_, rfl⟩
      have HLZ : Hid (lightF f P Q k 2 = lz) := by show _ = _; rw [HL2.out, hmz, hlz]
      rw [hmz] at hm3
      have i1 : IntKind.i64.wrap (z * Q) = mz := by rw [hmz]; exact IntWalk.i64_in _ (by omega)
      have i2 : IntKind.i64.wrap (mz - P) = lz := by rw [hlz]; exact IntWalk.i64_in _ (by omega)
      have c0 : wr.cell? ⟨FB, 0, none⟩ = some (.int .i64 P) := (hbe.cell (p := ⟨FB, 0, none⟩) lF3).trans (hF0.cell 0)
      have c1 : wr.cell? ⟨FB, 1, none⟩ = some (.int .i64 Q) := (hbe.cell (p := ⟨FB, 1, none⟩) lF3).trans (hF0.cell 1)
      have lFr : FB < wr.heap.size := by omega
      have hnew : ∀ j u, ([.int .i64 x, .int .i64 y, .int .i64 lz] : List Value)[j]? = some u → ((wr.alloc (.cells #[.int .i64 x, .int .i64 y, .int .i64 z] 32)).alloc (.cells #[.int .i64 x, .int .i64 y, .int .i64 lz] 32)).cell? ((⟨wr.heap.size + 1, 0, none⟩ : Addr).add j) = some u := (show Blk ((wr.alloc (.cells #[.int .i64 x, .int .i64 y, .int .i64 z] 32)).alloc (.cells #[.int .i64 x, .int .i64 y, .int .i64 lz] 32)) (wr.heap.size + 1) 32 #[.int .i64 x, .int .i64 y, .int .i64 lz] from Blk.new' (by simp)).news
      have HNW := Lib.hid hnew
      have HBE := Lib.hid hbe
      clear hnew hmz hlz hm1 hm2 hl2 hfl hff hbe
      go_wp2_with (at_builtin; refine wpList_append_own _ rfl (.tmp 30) (.tmp 44) 22 rfl w3.heap.size 32 i0_ (.agg #[.int .i64 0, .int .i64 0, .int .i64 0]) 3 24 Try.underlying22 hi hz0 hz1 hz2 rfl (by decide) _ k (cellsC 3 k (lightF f P Q)) rfl ((hown.alloc _).alloc _) ⟨wr.heap.size + 1, 0, none⟩ 1 1 [.int .i64 x, .int .i64 y, .int .i64 lz] rfl rfl HNW.out (by simp [Value.oneCell']) (by simp only [maxLen]; omega) (by omega) (by simp; omega) ?_; intro v' w5 hown5 hgrow5 hnil; clear hnil)
      have hb5 : Below w3.heap.size w3 w5 := ((HBE.out.alloc hsz _).alloc (by simp; omega) _).grown hgrow5 (by simp; omega) (fun y e => own_base hown y e)
      have hown6 : w5.ownsRow w3.heap.size 32 3 v' (k + 1) (cellsC 3 (k + 1) (lightF f P Q)) := by
        rw [cellsC_succ]
        show w5.ownsRow w3.heap.size 32 3 v' (k + 1) (cellsC 3 k (lightF f P Q) ++ [.int .i64 (f k 0), .int .i64 (f k 1), .int .i64 (lightF f P Q k 2)])
        rw [HLZ.out, ← hx.out, ← hy.out]
        exact hown5
      clear hown hown5 hgrow5 c0 c1 hcx hcy hcz
      go_wp2
      go_roundw
      case rel => exact ⟨k + 1, by go_num, by omega, hown6, hb5⟩
      case measure => simp [intOf]; omega
    · obtain rfl : n = k := by omega
      obtain ⟨la, lc, hlv, -⟩ := own_sliceC hown
      subst hlv
      have hrl : RowC wr 3 la n (lightF f P Q) := RowC.of_own (by omega) hown
      have hla : Hid (∀ p : Addr, la = some p → p.block < wr.heap.size) := fun p hp => by subst hp; exact (own_lt hown rfl).2
      have hGr : Blk wr G 24 #[.int .i64 N, .slice a n c] := hbG3.below hbe lG3
      have cG0 : wr.cell? ⟨G, 0, none⟩ = some (.int .i64 N) := hGr.cell 0
      have lGr := hGr.lt
      have hmk := fun W => run_make_row' (P := Try.prog) 35 3 (.int .i64 0) 8 Try.underlying35 intInfo rfl .i64 .i64 N (by omega) (by omega) W
      have HBE := Lib.hid hbe
      clear hown hbe hi hz0 hz1 hz2
      go_upto_region 11 with fail
      have hH0 : Blk (wr.alloc (.cells (madeCells #[.int .i64 0] N) 3)) wr.heap.size 3 (cellsOf N (hAll (lightF f P Q) n 0)).toArray := by
        rw [show (cellsOf N (hAll (lightF f P Q) n 0)).toArray = madeCells #[.int .i64 0] N from (made_cells N).symm]
        exact Blk.new wr _ _
      have hrm : RowC (wr.alloc (.cells (madeCells #[.int .i64 0] N) 3)) 3 la n (lightF f P Q) := hrl.alloc _
      have hGm : Blk (wr.alloc (.cells (madeCells #[.int .i64 0] N) 3)) G 24 #[.int .i64 N, .slice a n c] := hGr.alloc _
      have HBM : Hid (Below w3.heap.size w3 (wr.alloc (.cells (madeCells #[.int .i64 0] N) 3))) := HBE.out.alloc hsz _
      have cGm : (wr.alloc (.cells (madeCells #[.int .i64 0] N) 3)).cell? ⟨G, 0, none⟩ = some (.int .i64 N) := hGm.cell 0
      clear hmk cG0 hGr hrl HBE
      generalize (wr.alloc (.cells (madeCells #[.int .i64 0] N) 3)) = wm at *
      obtain ⟨gh, hgh⟩ : ∃ gh, Hid (wr.heap.size = gh) := ⟨_, rfl⟩
      rw [hgh.out] at hH0 hla lGr hsz ⊢
      have lGm := hGm.lt
      have lHm := hH0.lt
      go_wp2_with fail
      clear cGm
      obtain ⟨wo, rfl⟩ : ∃ wo : World, wo = wr := ⟨_, rfl⟩
      go_loopw [52] (fun i wr => ∃ t : Nat, i = .int .i64 t ∧ t ≤ N ∧ Off (fun y => y = gh) wm wr ∧ Blk wr gh 3 (cellsOf N (hAll (lightF f P Q) n t)).toArray) (fun i _ => N - (intOf i).toNat)
      case atStart => exact ⟨0, rfl, Nat.zero_le _, Off.refl _ _, hH0⟩
      case round =>
        clear hH0
        obtain ⟨t, rfl, ht, hoff, hHB⟩ := hrel
        have hos := hoff.size
        by_cases hlt2 : t < N
        · have t2 : (t : Int) < (N : Int) := by omega
          have hHB0 : Blk wr gh 3 (cellsOf N (hPass (lightF f P Q) 0 (hAll (lightF f P Q) n t))).toArray := hHB
          have HOF := Lib.hid hoff
          clear hoff hHB
          go_wp2_with fail
          obtain ⟨wp, rfl⟩ : ∃ wp : World, wp = wr := ⟨_, rfl⟩
          go_loopw [56] (fun i wr => ∃ k : Nat, i = .int .i64 k ∧ k ≤ n ∧ Off (fun y => y = gh) wm wr ∧ Blk wr gh 3 (cellsOf N (hPass (lightF f P Q) k (hAll (lightF f P Q) n t))).toArray) (fun i _ => n - (intOf i).toNat)
          case atStart => exact ⟨0, rfl, Nat.zero_le _, HOF.out, hHB0⟩
          case round =>
            clear hHB0 HOF hos
            obtain ⟨k, rfl, hk, hoff, hHB⟩ := hrel
            by_cases hkn : k < n
            · have t3 : (k : Int) < (n : Int) := by omega
              obtain ⟨b, off, x, y, z, hea, hb, hcx, hcy, hcz, hx, hy, hz⟩ := (rowC_off hrm hoff (fun p hp e => by have h1 := hla.out p hp; have h2 : p.block = gh := e; omega)).at3 hkn
              have hff := HGN.out k hkn
              have hfz := HF2.out k hkn
              subst hea
              rw [← hx.out, ← hy.out] at hff
              rw [← hz.out] at hfz
              obtain ⟨⟨f1, f2⟩, f3, f4⟩ := hff
              obtain ⟨X, rfl⟩ : ∃ X : Nat, x = X := ⟨x.toNat, by omega⟩
              obtain ⟨Y, rfl⟩ : ∃ Y : Nat, y = Y := ⟨y.toNat, by omega⟩
              have hX : X < N := by omega
              have hY : Y < N := by omega
              have cu := blkAt hHB hX
              have cv := blkAt hHB hY
              have hu9 := hPass_in2 HGN.out hN' hn' HF2.out t hlt2 k hk X hX
              have hv9 := hPass_in2 HGN.out hN' hn' HF2.out t hlt2 k hk Y hY
              have HR : Hid (hPass (lightF f P Q) (k + 1) (hAll (lightF f P Q) n t) = putAt (hPass (lightF f P Q) k (hAll (lightF f P Q) n t)) Y (max (hPass (lightF f P Q) k (hAll (lightF f P Q) n t) Y) (hPass (lightF f P Q) k (hAll (lightF f P Q) n t) X + z))) := by
                show hPass (lightF f P Q) (k + 1) (hAll (lightF f P Q) n t) = _
                rw [hPass_succ, ← hx.out, ← hy.out, ← hz.out, Int.toNat_natCast, Int.toNat_natCast]
              obtain ⟨u, hu⟩ : ∃ u, hPass (lightF f P Q) k (hAll (lightF f P Q) n t) X = u := ⟨_, rfl⟩
              obtain ⟨v, hv⟩ : ∃ v, hPass (lightF f P Q) k (hAll (lightF f P Q) n t) Y = v := ⟨_, rfl⟩
              rw [hu] at cu hu9 HR
              rw [hv] at cv hv9 HR
              have lgh := hHB.lt
              have iw : IntKind.i64.wrap (u + z) = u + z := IntWalk.i64_in _ (by omega)
              have hX0 : (0 : Int) ≤ (X : Int) := by omega
              have hXn : (X : Int) < (N : Int) := by omega
              have hY0 : (0 : Int) ≤ (Y : Int) := by omega
              have hYn : (Y : Int) < (N : Int) := by omega
              clear hu hv
              go_upto_region 16 with fail
              have hE : Blk (wr.alloc (.cells #[.int .i64 X, .int .i64 Y, .int .i64 z] 32)) wr.heap.size 32 #[.int .i64 X, .int .i64 Y, .int .i64 z] := Blk.new _ _ _
              have e0 : (wr.alloc (.cells #[.int .i64 X, .int .i64 Y, .int .i64 z] 32)).cell? ⟨wr.heap.size, 0, none⟩ = some (.int .i64 X) := hE.cell 0
              have e1 : (wr.alloc (.cells #[.int .i64 X, .int .i64 Y, .int .i64 z] 32)).cell? ⟨wr.heap.size, 1, none⟩ = some (.int .i64 Y) := hE.cell 1
              have e2 : (wr.alloc (.cells #[.int .i64 X, .int .i64 Y, .int .i64 z] 32)).cell? ⟨wr.heap.size, 2, none⟩ = some (.int .i64 z) := hE.cell 2
              replace cu : (wr.alloc (.cells #[.int .i64 X, .int .i64 Y, .int .i64 z] 32)).cell? ⟨gh, X, none⟩ = some (.int .i64 u) := (World.cell?_alloc_past _ _ _ lgh).trans cu
              replace cv : (wr.alloc (.cells #[.int .i64 X, .int .i64 Y, .int .i64 z] 32)).cell? ⟨gh, Y, none⟩ = some (.int .i64 v) := (World.cell?_alloc_past _ _ _ lgh).trans cv
              have hBn := hHB.alloc (.cells #[.int .i64 X, .int .i64 Y, .int .i64 z] 32)
              have hoff2 := hoff.alloc (.cells #[.int .i64 X, .int .i64 Y, .int .i64 z] 32)
              have lE := hE.lt
              replace lgh := Nat.lt_trans lgh lE
              clear hcx hcy hcz hb hoff hHB hE
              generalize wr.alloc (.cells #[.int .i64 X, .int .i64 Y, .int .i64 z] 32) = we at *
              generalize wr.heap.size = E at *
              have hfz : ∀ i, we.frozen? ⟨gh, i, none⟩ = false := fun i => hBn.frozen i
              by_cases h9 : v < u + z
              · have d9 : decide (v < u + z) = true := by simpa using h9
                refine wp_region_two (S := (fun w' => Below we.heap.size we w')) 18 (by kernel_rfl) ?_ (fun hHeld => ?_)
                · exact (Below.refl _ _).drew
                refine two_take (i := 0) (v := ?_) rfl (by kernel_rfl) (by kernel_rfl) (fun _ _ _ h => h) (Or.inl ⟨by rfl, ?_⟩) (by assumption) ?_
                rotate_left 1
                · intro w' hSw
                  have hl0 := (hSw.cell (p := ⟨E, 0, none⟩) lE).trans e0
                  have hl1 := (hSw.cell (p := ⟨E, 1, none⟩) lE).trans e1
                  have hl2 := (hSw.cell (p := ⟨E, 2, none⟩) lE).trans e2
                  have hl3 := (hSw.cell (p := ⟨gh, X, none⟩) lgh).trans cu
                  have hl4 := (hSw.cell (p := ⟨gh, Y, none⟩) lgh).trans cv
                  clear hSw
                  go_simp
                  try (with_reducible rfl)
                try simp only [List.getElem_toArray, List.getElem_cons_zero, List.getElem_cons_succ, Act.put, List.setIfInBounds_toArray, List.set_cons_zero, List.set_cons_succ]
                refine two_take (i := 1) (v := ?_) rfl (by kernel_rfl) (by kernel_rfl) (fun _ _ _ h => h) (Or.inl ⟨by rfl, ?_⟩) (by assumption) ?_
                rotate_left 1
                · intro w' hSw
                  have hl0 := (hSw.cell (p := ⟨E, 0, none⟩) lE).trans e0
                  have hl1 := (hSw.cell (p := ⟨E, 1, none⟩) lE).trans e1
                  have hl2 := (hSw.cell (p := ⟨E, 2, none⟩) lE).trans e2
                  have hl3 := (hSw.cell (p := ⟨gh, X, none⟩) lgh).trans cu
                  have hl4 := (hSw.cell (p := ⟨gh, Y, none⟩) lgh).trans cv
                  clear hSw
                  go_simp
                  try (with_reducible rfl)
                try simp only [List.getElem_toArray, List.getElem_cons_zero, List.getElem_cons_succ, Act.put, List.setIfInBounds_toArray, List.set_cons_zero, List.set_cons_succ]
                refine two_take (i := 2) (v := ?_) rfl (by kernel_rfl) (by kernel_rfl) (fun _ _ _ h => h) (Or.inl ⟨by rfl, ?_⟩) (by assumption) ?_
                rotate_left 1
                · intro w' hSw
                  have hl0 := (hSw.cell (p := ⟨E, 0, none⟩) lE).trans e0
                  have hl1 := (hSw.cell (p := ⟨E, 1, none⟩) lE).trans e1
                  have hl2 := (hSw.cell (p := ⟨E, 2, none⟩) lE).trans e2
                  have hl3 := (hSw.cell (p := ⟨gh, X, none⟩) lgh).trans cu
                  have hl4 := (hSw.cell (p := ⟨gh, Y, none⟩) lgh).trans cv
                  clear hSw
                  go_simp
                  try (with_reducible rfl)
                try simp only [List.getElem_toArray, List.getElem_cons_zero, List.getElem_cons_succ, Act.put, List.setIfInBounds_toArray, List.set_cons_zero, List.set_cons_succ]
                refine two_take (i := 3) (v := ?_) rfl (by kernel_rfl) (by kernel_rfl) (fun _ _ _ h => h) (Or.inl ⟨by rfl, ?_⟩) (by assumption) ?_
                rotate_left 1
                · intro w' hSw
                  have hl0 := (hSw.cell (p := ⟨E, 0, none⟩) lE).trans e0
                  have hl1 := (hSw.cell (p := ⟨E, 1, none⟩) lE).trans e1
                  have hl2 := (hSw.cell (p := ⟨E, 2, none⟩) lE).trans e2
                  have hl3 := (hSw.cell (p := ⟨gh, X, none⟩) lgh).trans cu
                  have hl4 := (hSw.cell (p := ⟨gh, Y, none⟩) lgh).trans cv
                  clear hSw
                  go_simp
                  try (with_reducible rfl)
                try simp only [List.getElem_toArray, List.getElem_cons_zero, List.getElem_cons_succ, Act.put, List.setIfInBounds_toArray, List.set_cons_zero, List.set_cons_succ]
                refine two_take (i := 4) (v := ?_) rfl (by kernel_rfl) (by kernel_rfl) (fun _ _ _ h => h) (Or.inl ⟨by rfl, ?_⟩) (by assumption) ?_
                rotate_left 1
                · intro w' hSw
                  have hl0 := (hSw.cell (p := ⟨E, 0, none⟩) lE).trans e0
                  have hl1 := (hSw.cell (p := ⟨E, 1, none⟩) lE).trans e1
                  have hl2 := (hSw.cell (p := ⟨E, 2, none⟩) lE).trans e2
                  have hl3 := (hSw.cell (p := ⟨gh, X, none⟩) lgh).trans cu
                  have hl4 := (hSw.cell (p := ⟨gh, Y, none⟩) lgh).trans cv
                  clear hSw
                  go_simp
                  try (with_reducible rfl)
                try simp only [List.getElem_toArray, List.getElem_cons_zero, List.getElem_cons_succ, Act.put, List.setIfInBounds_toArray, List.set_cons_zero, List.set_cons_succ]
                refine two_take (i := 5) (v := ?_) rfl (by kernel_rfl) (by kernel_rfl) (fun _ _ _ h => h) (Or.inl ⟨by rfl, ?_⟩) (by assumption) ?_
                rotate_left 1
                · intro w' hSw
                  have hl0 := (hSw.cell (p := ⟨E, 0, none⟩) lE).trans e0
                  have hl1 := (hSw.cell (p := ⟨E, 1, none⟩) lE).trans e1
                  have hl2 := (hSw.cell (p := ⟨E, 2, none⟩) lE).trans e2
                  have hl3 := (hSw.cell (p := ⟨gh, X, none⟩) lgh).trans cu
                  have hl4 := (hSw.cell (p := ⟨gh, Y, none⟩) lgh).trans cv
                  clear hSw
                  go_simp
                  try (with_reducible rfl)
                try simp only [List.getElem_toArray, List.getElem_cons_zero, List.getElem_cons_succ, Act.put, List.setIfInBounds_toArray, List.set_cons_zero, List.set_cons_succ]
                refine two_take (i := 6) (v := ?_) rfl (by kernel_rfl) (by kernel_rfl) (fun _ _ _ h => h) (Or.inl ⟨by rfl, ?_⟩) (by assumption) ?_
                rotate_left 1
                · intro w' hSw
                  have hl0 := (hSw.cell (p := ⟨E, 0, none⟩) lE).trans e0
                  have hl1 := (hSw.cell (p := ⟨E, 1, none⟩) lE).trans e1
                  have hl2 := (hSw.cell (p := ⟨E, 2, none⟩) lE).trans e2
                  have hl3 := (hSw.cell (p := ⟨gh, X, none⟩) lgh).trans cu
                  have hl4 := (hSw.cell (p := ⟨gh, Y, none⟩) lgh).trans cv
                  clear hSw
                  go_simp
                  try (with_reducible rfl)
                try simp only [List.getElem_toArray, List.getElem_cons_zero, List.getElem_cons_succ, Act.put, List.setIfInBounds_toArray, List.set_cons_zero, List.set_cons_succ]
                refine two_take (i := 7) (v := ?_) rfl (by kernel_rfl) (by kernel_rfl) (fun _ _ _ h => h) (Or.inl ⟨by rfl, ?_⟩) (by assumption) ?_
                rotate_left 1
                · intro w' hSw
                  have hl0 := (hSw.cell (p := ⟨E, 0, none⟩) lE).trans e0
                  have hl1 := (hSw.cell (p := ⟨E, 1, none⟩) lE).trans e1
                  have hl2 := (hSw.cell (p := ⟨E, 2, none⟩) lE).trans e2
                  have hl3 := (hSw.cell (p := ⟨gh, X, none⟩) lgh).trans cu
                  have hl4 := (hSw.cell (p := ⟨gh, Y, none⟩) lgh).trans cv
                  clear hSw
                  go_simp
                  try (with_reducible rfl)
                try simp only [List.getElem_toArray, List.getElem_cons_zero, List.getElem_cons_succ, Act.put, List.setIfInBounds_toArray, List.set_cons_zero, List.set_cons_succ]
                refine two_take (i := 8) (v := ?_) rfl (by kernel_rfl) (by kernel_rfl) (fun _ _ _ h => h) (Or.inl ⟨by rfl, ?_⟩) (by assumption) ?_
                rotate_left 1
                · intro w' hSw
                  have hl0 := (hSw.cell (p := ⟨E, 0, none⟩) lE).trans e0
                  have hl1 := (hSw.cell (p := ⟨E, 1, none⟩) lE).trans e1
                  have hl2 := (hSw.cell (p := ⟨E, 2, none⟩) lE).trans e2
                  have hl3 := (hSw.cell (p := ⟨gh, X, none⟩) lgh).trans cu
                  have hl4 := (hSw.cell (p := ⟨gh, Y, none⟩) lgh).trans cv
                  clear hSw
                  go_simp
                  try (with_reducible rfl)
                try simp only [List.getElem_toArray, List.getElem_cons_zero, List.getElem_cons_succ, Act.put, List.setIfInBounds_toArray, List.set_cons_zero, List.set_cons_succ]
                refine two_take (i := 9) (v := ?_) rfl (by kernel_rfl) (by kernel_rfl) (fun _ _ _ h => h) (Or.inl ⟨by rfl, ?_⟩) (by assumption) ?_
                rotate_left 1
                · intro w' hSw
                  have hl0 := (hSw.cell (p := ⟨E, 0, none⟩) lE).trans e0
                  have hl1 := (hSw.cell (p := ⟨E, 1, none⟩) lE).trans e1
                  have hl2 := (hSw.cell (p := ⟨E, 2, none⟩) lE).trans e2
                  have hl3 := (hSw.cell (p := ⟨gh, X, none⟩) lgh).trans cu
                  have hl4 := (hSw.cell (p := ⟨gh, Y, none⟩) lgh).trans cv
                  clear hSw
                  go_simp
                  try (with_reducible rfl)
                try simp only [List.getElem_toArray, List.getElem_cons_zero, List.getElem_cons_succ, Act.put, List.setIfInBounds_toArray, List.set_cons_zero, List.set_cons_succ]
                refine two_take (i := 10) (v := ?_) rfl (by kernel_rfl) (by kernel_rfl) (fun _ _ _ h => h) (Or.inl ⟨by rfl, ?_⟩) (by assumption) ?_
                rotate_left 1
                · intro w' hSw
                  have hl0 := (hSw.cell (p := ⟨E, 0, none⟩) lE).trans e0
                  have hl1 := (hSw.cell (p := ⟨E, 1, none⟩) lE).trans e1
                  have hl2 := (hSw.cell (p := ⟨E, 2, none⟩) lE).trans e2
                  have hl3 := (hSw.cell (p := ⟨gh, X, none⟩) lgh).trans cu
                  have hl4 := (hSw.cell (p := ⟨gh, Y, none⟩) lgh).trans cv
                  clear hSw
                  go_simp
                  try (with_reducible rfl)
                try simp only [List.getElem_toArray, List.getElem_cons_zero, List.getElem_cons_succ, Act.put, List.setIfInBounds_toArray, List.set_cons_zero, List.set_cons_succ]
                refine two_take (i := 11) (v := ?_) rfl (by kernel_rfl) (by kernel_rfl) (fun _ _ _ h => h) (Or.inl ⟨by rfl, ?_⟩) (by assumption) ?_
                rotate_left 1
                · intro w' hSw
                  have hl0 := (hSw.cell (p := ⟨E, 0, none⟩) lE).trans e0
                  have hl1 := (hSw.cell (p := ⟨E, 1, none⟩) lE).trans e1
                  have hl2 := (hSw.cell (p := ⟨E, 2, none⟩) lE).trans e2
                  have hl3 := (hSw.cell (p := ⟨gh, X, none⟩) lgh).trans cu
                  have hl4 := (hSw.cell (p := ⟨gh, Y, none⟩) lgh).trans cv
                  clear hSw
                  go_simp
                  try (with_reducible rfl)
                try simp only [List.getElem_toArray, List.getElem_cons_zero, List.getElem_cons_succ, Act.put, List.setIfInBounds_toArray, List.set_cons_zero, List.set_cons_succ]
                refine two_take (i := 12) (v := ?_) rfl (by kernel_rfl) (by kernel_rfl) (fun _ _ _ h => h) (Or.inl ⟨by rfl, ?_⟩) (by assumption) ?_
                rotate_left 1
                · intro w' hSw
                  have hl0 := (hSw.cell (p := ⟨E, 0, none⟩) lE).trans e0
                  have hl1 := (hSw.cell (p := ⟨E, 1, none⟩) lE).trans e1
                  have hl2 := (hSw.cell (p := ⟨E, 2, none⟩) lE).trans e2
                  have hl3 := (hSw.cell (p := ⟨gh, X, none⟩) lgh).trans cu
                  have hl4 := (hSw.cell (p := ⟨gh, Y, none⟩) lgh).trans cv
                  clear hSw
                  go_simp
                  try (with_reducible rfl)
                try simp only [List.getElem_toArray, List.getElem_cons_zero, List.getElem_cons_succ, Act.put, List.setIfInBounds_toArray, List.set_cons_zero, List.set_cons_succ]
                refine two_take (i := 13) (v := ?_) rfl (by kernel_rfl) (by kernel_rfl) (fun _ _ _ h => h) (Or.inl ⟨by rfl, ?_⟩) (by assumption) ?_
                rotate_left 1
                · intro w' hSw
                  have hl0 := (hSw.cell (p := ⟨E, 0, none⟩) lE).trans e0
                  have hl1 := (hSw.cell (p := ⟨E, 1, none⟩) lE).trans e1
                  have hl2 := (hSw.cell (p := ⟨E, 2, none⟩) lE).trans e2
                  have hl3 := (hSw.cell (p := ⟨gh, X, none⟩) lgh).trans cu
                  have hl4 := (hSw.cell (p := ⟨gh, Y, none⟩) lgh).trans cv
                  clear hSw
                  go_simp
                  try (with_reducible rfl)
                try simp only [List.getElem_toArray, List.getElem_cons_zero, List.getElem_cons_succ, Act.put, List.setIfInBounds_toArray, List.set_cons_zero, List.set_cons_succ]
                refine two_take (i := 14) (v := ?_) rfl (by kernel_rfl) (by kernel_rfl) (fun _ _ _ h => h) (Or.inl ⟨by rfl, ?_⟩) (by assumption) ?_
                rotate_left 1
                · intro w' hSw
                  have hl0 := (hSw.cell (p := ⟨E, 0, none⟩) lE).trans e0
                  have hl1 := (hSw.cell (p := ⟨E, 1, none⟩) lE).trans e1
                  have hl2 := (hSw.cell (p := ⟨E, 2, none⟩) lE).trans e2
                  have hl3 := (hSw.cell (p := ⟨gh, X, none⟩) lgh).trans cu
                  have hl4 := (hSw.cell (p := ⟨gh, Y, none⟩) lgh).trans cv
                  clear hSw
                  go_simp
                  try (with_reducible rfl)
                try simp only [List.getElem_toArray, List.getElem_cons_zero, List.getElem_cons_succ, Act.put, List.setIfInBounds_toArray, List.set_cons_zero, List.set_cons_succ]
                refine two_take (i := 15) (v := ?_) rfl (by kernel_rfl) (by kernel_rfl) (fun _ _ _ h => h) (Or.inl ⟨by rfl, ?_⟩) (by assumption) ?_
                rotate_left 1
                · intro w' hSw
                  have hl0 := (hSw.cell (p := ⟨E, 0, none⟩) lE).trans e0
                  have hl1 := (hSw.cell (p := ⟨E, 1, none⟩) lE).trans e1
                  have hl2 := (hSw.cell (p := ⟨E, 2, none⟩) lE).trans e2
                  have hl3 := (hSw.cell (p := ⟨gh, X, none⟩) lgh).trans cu
                  have hl4 := (hSw.cell (p := ⟨gh, Y, none⟩) lgh).trans cv
                  clear hSw
                  go_simp
                  try (with_reducible rfl)
                try simp only [List.getElem_toArray, List.getElem_cons_zero, List.getElem_cons_succ, Act.put, List.setIfInBounds_toArray, List.set_cons_zero, List.set_cons_succ]
                refine two_take (i := 16) (v := ?_) rfl (by kernel_rfl) (by kernel_rfl) (fun _ _ _ h => h) (Or.inl ⟨by rfl, ?_⟩) (by assumption) ?_
                rotate_left 1
                · intro w' hSw
                  have hl0 := (hSw.cell (p := ⟨E, 0, none⟩) lE).trans e0
                  have hl1 := (hSw.cell (p := ⟨E, 1, none⟩) lE).trans e1
                  have hl2 := (hSw.cell (p := ⟨E, 2, none⟩) lE).trans e2
                  have hl3 := (hSw.cell (p := ⟨gh, X, none⟩) lgh).trans cu
                  have hl4 := (hSw.cell (p := ⟨gh, Y, none⟩) lgh).trans cv
                  clear hSw
                  go_simp
                  try (with_reducible rfl)
                try simp only [List.getElem_toArray, List.getElem_cons_zero, List.getElem_cons_succ, Act.put, List.setIfInBounds_toArray, List.set_cons_zero, List.set_cons_succ]
                refine two_take (i := 17) (v := ?_) rfl (by kernel_rfl) (by kernel_rfl) (fun _ _ _ h => h) (Or.inl ⟨by rfl, ?_⟩) (by assumption) ?_
                rotate_left 1
                · intro w' hSw
                  have hl0 := (hSw.cell (p := ⟨E, 0, none⟩) lE).trans e0
                  have hl1 := (hSw.cell (p := ⟨E, 1, none⟩) lE).trans e1
                  have hl2 := (hSw.cell (p := ⟨E, 2, none⟩) lE).trans e2
                  have hl3 := (hSw.cell (p := ⟨gh, X, none⟩) lgh).trans cu
                  have hl4 := (hSw.cell (p := ⟨gh, Y, none⟩) lgh).trans cv
                  clear hSw
                  go_simp
                  try (with_reducible rfl)
                try simp only [List.getElem_toArray, List.getElem_cons_zero, List.getElem_cons_succ, Act.put, List.setIfInBounds_toArray, List.set_cons_zero, List.set_cons_succ]
                refine two_ready (rs := [18]) (by kernel_rfl) (by kernel_rfl) (by simp) ?_
                refine AllReadyB.last rfl (fun K hK => ?_)
                go_simp
                refine hK.out _ _ ?_
                clear hK K
                try simp only [List.getElem_toArray, List.getElem_cons_zero, List.getElem_cons_succ, Act.put, List.setIfInBounds_toArray, List.set_cons_zero, List.set_cons_succ]
                refine two_late (by kernel_rfl) ?_
                refine wpAny_done (by kernel_rfl) ?_ _
                have HN : Hid (Blk (we.setCell ⟨gh, Y, none⟩ (.int .i64 (u + z))).drew gh 3 (cellsOf N (hPass (lightF f P Q) (k + 1) (hAll (lightF f P Q) n t))).toArray) := by
                  have h := hBn.put Y (.int .i64 (u + z))
                  rw [cells_puts] at h
                  rw [HR.out, show max v (u + z) = u + z by omega]
                  exact h
                have hO2 : Off (fun y => y = gh) wm (we.setCell ⟨gh, Y, none⟩ (.int .i64 (u + z))).drew := (hoff2.setCell (p := ⟨gh, Y, none⟩) (fun _ => rfl) _).drew
                clear hBn hoff2 cu cv e0 e1 e2 hfz
                go_wp2
                go_roundw
                case rel => exact ⟨k + 1, by go_num, by omega, hO2, HN.out⟩
                case measure => simp [intOf]; omega
              · have d9 : decide (v < u + z) = false := by simpa using h9
                refine wp_region_two (S := (fun w' => Below we.heap.size we w')) 18 (by kernel_rfl) ?_ (fun hHeld => ?_)
                · exact (Below.refl _ _).drew
                refine two_take (i := 0) (v := ?_) rfl (by kernel_rfl) (by kernel_rfl) (fun _ _ _ h => h) (Or.inl ⟨by rfl, ?_⟩) (by assumption) ?_
                rotate_left 1
                · intro w' hSw
                  have hl0 := (hSw.cell (p := ⟨E, 0, none⟩) lE).trans e0
                  have hl1 := (hSw.cell (p := ⟨E, 1, none⟩) lE).trans e1
                  have hl2 := (hSw.cell (p := ⟨E, 2, none⟩) lE).trans e2
                  have hl3 := (hSw.cell (p := ⟨gh, X, none⟩) lgh).trans cu
                  have hl4 := (hSw.cell (p := ⟨gh, Y, none⟩) lgh).trans cv
                  clear hSw
                  go_simp
                  try (with_reducible rfl)
                try simp only [List.getElem_toArray, List.getElem_cons_zero, List.getElem_cons_succ, Act.put, List.setIfInBounds_toArray, List.set_cons_zero, List.set_cons_succ]
                refine two_take (i := 1) (v := ?_) rfl (by kernel_rfl) (by kernel_rfl) (fun _ _ _ h => h) (Or.inl ⟨by rfl, ?_⟩) (by assumption) ?_
                rotate_left 1
                · intro w' hSw
                  have hl0 := (hSw.cell (p := ⟨E, 0, none⟩) lE).trans e0
                  have hl1 := (hSw.cell (p := ⟨E, 1, none⟩) lE).trans e1
                  have hl2 := (hSw.cell (p := ⟨E, 2, none⟩) lE).trans e2
                  have hl3 := (hSw.cell (p := ⟨gh, X, none⟩) lgh).trans cu
                  have hl4 := (hSw.cell (p := ⟨gh, Y, none⟩) lgh).trans cv
                  clear hSw
                  go_simp
                  try (with_reducible rfl)
                try simp only [List.getElem_toArray, List.getElem_cons_zero, List.getElem_cons_succ, Act.put, List.setIfInBounds_toArray, List.set_cons_zero, List.set_cons_succ]
                refine two_take (i := 2) (v := ?_) rfl (by kernel_rfl) (by kernel_rfl) (fun _ _ _ h => h) (Or.inl ⟨by rfl, ?_⟩) (by assumption) ?_
                rotate_left 1
                · intro w' hSw
                  have hl0 := (hSw.cell (p := ⟨E, 0, none⟩) lE).trans e0
                  have hl1 := (hSw.cell (p := ⟨E, 1, none⟩) lE).trans e1
                  have hl2 := (hSw.cell (p := ⟨E, 2, none⟩) lE).trans e2
                  have hl3 := (hSw.cell (p := ⟨gh, X, none⟩) lgh).trans cu
                  have hl4 := (hSw.cell (p := ⟨gh, Y, none⟩) lgh).trans cv
                  clear hSw
                  go_simp
                  try (with_reducible rfl)
                try simp only [List.getElem_toArray, List.getElem_cons_zero, List.getElem_cons_succ, Act.put, List.setIfInBounds_toArray, List.set_cons_zero, List.set_cons_succ]
                refine two_take (i := 3) (v := ?_) rfl (by kernel_rfl) (by kernel_rfl) (fun _ _ _ h => h) (Or.inl ⟨by rfl, ?_⟩) (by assumption) ?_
                rotate_left 1
                · intro w' hSw
                  have hl0 := (hSw.cell (p := ⟨E, 0, none⟩) lE).trans e0
                  have hl1 := (hSw.cell (p := ⟨E, 1, none⟩) lE).trans e1
                  have hl2 := (hSw.cell (p := ⟨E, 2, none⟩) lE).trans e2
                  have hl3 := (hSw.cell (p := ⟨gh, X, none⟩) lgh).trans cu
                  have hl4 := (hSw.cell (p := ⟨gh, Y, none⟩) lgh).trans cv
                  clear hSw
                  go_simp
                  try (with_reducible rfl)
                try simp only [List.getElem_toArray, List.getElem_cons_zero, List.getElem_cons_succ, Act.put, List.setIfInBounds_toArray, List.set_cons_zero, List.set_cons_succ]
                refine two_take (i := 4) (v := ?_) rfl (by kernel_rfl) (by kernel_rfl) (fun _ _ _ h => h) (Or.inl ⟨by rfl, ?_⟩) (by assumption) ?_
                rotate_left 1
                · intro w' hSw
                  have hl0 := (hSw.cell (p := ⟨E, 0, none⟩) lE).trans e0
                  have hl1 := (hSw.cell (p := ⟨E, 1, none⟩) lE).trans e1
                  have hl2 := (hSw.cell (p := ⟨E, 2, none⟩) lE).trans e2
                  have hl3 := (hSw.cell (p := ⟨gh, X, none⟩) lgh).trans cu
                  have hl4 := (hSw.cell (p := ⟨gh, Y, none⟩) lgh).trans cv
                  clear hSw
                  go_simp
                  try (with_reducible rfl)
                try simp only [List.getElem_toArray, List.getElem_cons_zero, List.getElem_cons_succ, Act.put, List.setIfInBounds_toArray, List.set_cons_zero, List.set_cons_succ]
                refine two_take (i := 5) (v := ?_) rfl (by kernel_rfl) (by kernel_rfl) (fun _ _ _ h => h) (Or.inl ⟨by rfl, ?_⟩) (by assumption) ?_
                rotate_left 1
                · intro w' hSw
                  have hl0 := (hSw.cell (p := ⟨E, 0, none⟩) lE).trans e0
                  have hl1 := (hSw.cell (p := ⟨E, 1, none⟩) lE).trans e1
                  have hl2 := (hSw.cell (p := ⟨E, 2, none⟩) lE).trans e2
                  have hl3 := (hSw.cell (p := ⟨gh, X, none⟩) lgh).trans cu
                  have hl4 := (hSw.cell (p := ⟨gh, Y, none⟩) lgh).trans cv
                  clear hSw
                  go_simp
                  try (with_reducible rfl)
                try simp only [List.getElem_toArray, List.getElem_cons_zero, List.getElem_cons_succ, Act.put, List.setIfInBounds_toArray, List.set_cons_zero, List.set_cons_succ]
                refine two_take (i := 6) (v := ?_) rfl (by kernel_rfl) (by kernel_rfl) (fun _ _ _ h => h) (Or.inl ⟨by rfl, ?_⟩) (by assumption) ?_
                rotate_left 1
                · intro w' hSw
                  have hl0 := (hSw.cell (p := ⟨E, 0, none⟩) lE).trans e0
                  have hl1 := (hSw.cell (p := ⟨E, 1, none⟩) lE).trans e1
                  have hl2 := (hSw.cell (p := ⟨E, 2, none⟩) lE).trans e2
                  have hl3 := (hSw.cell (p := ⟨gh, X, none⟩) lgh).trans cu
                  have hl4 := (hSw.cell (p := ⟨gh, Y, none⟩) lgh).trans cv
                  clear hSw
                  go_simp
                  try (with_reducible rfl)
                try simp only [List.getElem_toArray, List.getElem_cons_zero, List.getElem_cons_succ, Act.put, List.setIfInBounds_toArray, List.set_cons_zero, List.set_cons_succ]
                refine two_take (i := 7) (v := ?_) rfl (by kernel_rfl) (by kernel_rfl) (fun _ _ _ h => h) (Or.inl ⟨by rfl, ?_⟩) (by assumption) ?_
                rotate_left 1
                · intro w' hSw
                  have hl0 := (hSw.cell (p := ⟨E, 0, none⟩) lE).trans e0
                  have hl1 := (hSw.cell (p := ⟨E, 1, none⟩) lE).trans e1
                  have hl2 := (hSw.cell (p := ⟨E, 2, none⟩) lE).trans e2
                  have hl3 := (hSw.cell (p := ⟨gh, X, none⟩) lgh).trans cu
                  have hl4 := (hSw.cell (p := ⟨gh, Y, none⟩) lgh).trans cv
                  clear hSw
                  go_simp
                  try (with_reducible rfl)
                try simp only [List.getElem_toArray, List.getElem_cons_zero, List.getElem_cons_succ, Act.put, List.setIfInBounds_toArray, List.set_cons_zero, List.set_cons_succ]
                refine two_take (i := 8) (v := ?_) rfl (by kernel_rfl) (by kernel_rfl) (fun _ _ _ h => h) (Or.inl ⟨by rfl, ?_⟩) (by assumption) ?_
                rotate_left 1
                · intro w' hSw
                  have hl0 := (hSw.cell (p := ⟨E, 0, none⟩) lE).trans e0
                  have hl1 := (hSw.cell (p := ⟨E, 1, none⟩) lE).trans e1
                  have hl2 := (hSw.cell (p := ⟨E, 2, none⟩) lE).trans e2
                  have hl3 := (hSw.cell (p := ⟨gh, X, none⟩) lgh).trans cu
                  have hl4 := (hSw.cell (p := ⟨gh, Y, none⟩) lgh).trans cv
                  clear hSw
                  go_simp
                  try (with_reducible rfl)
                try simp only [List.getElem_toArray, List.getElem_cons_zero, List.getElem_cons_succ, Act.put, List.setIfInBounds_toArray, List.set_cons_zero, List.set_cons_succ]
                refine two_take (i := 9) (v := ?_) rfl (by kernel_rfl) (by kernel_rfl) (fun _ _ _ h => h) (Or.inl ⟨by rfl, ?_⟩) (by assumption) ?_
                rotate_left 1
                · intro w' hSw
                  have hl0 := (hSw.cell (p := ⟨E, 0, none⟩) lE).trans e0
                  have hl1 := (hSw.cell (p := ⟨E, 1, none⟩) lE).trans e1
                  have hl2 := (hSw.cell (p := ⟨E, 2, none⟩) lE).trans e2
                  have hl3 := (hSw.cell (p := ⟨gh, X, none⟩) lgh).trans cu
                  have hl4 := (hSw.cell (p := ⟨gh, Y, none⟩) lgh).trans cv
                  clear hSw
                  go_simp
                  try (with_reducible rfl)
                try simp only [List.getElem_toArray, List.getElem_cons_zero, List.getElem_cons_succ, Act.put, List.setIfInBounds_toArray, List.set_cons_zero, List.set_cons_succ]
                refine two_take (i := 10) (v := ?_) rfl (by kernel_rfl) (by kernel_rfl) (fun _ _ _ h => h) (Or.inl ⟨by rfl, ?_⟩) (by assumption) ?_
                rotate_left 1
                · intro w' hSw
                  have hl0 := (hSw.cell (p := ⟨E, 0, none⟩) lE).trans e0
                  have hl1 := (hSw.cell (p := ⟨E, 1, none⟩) lE).trans e1
                  have hl2 := (hSw.cell (p := ⟨E, 2, none⟩) lE).trans e2
                  have hl3 := (hSw.cell (p := ⟨gh, X, none⟩) lgh).trans cu
                  have hl4 := (hSw.cell (p := ⟨gh, Y, none⟩) lgh).trans cv
                  clear hSw
                  go_simp
                  try (with_reducible rfl)
                try simp only [List.getElem_toArray, List.getElem_cons_zero, List.getElem_cons_succ, Act.put, List.setIfInBounds_toArray, List.set_cons_zero, List.set_cons_succ]
                refine two_take (i := 11) (v := ?_) rfl (by kernel_rfl) (by kernel_rfl) (fun _ _ _ h => h) (Or.inl ⟨by rfl, ?_⟩) (by assumption) ?_
                rotate_left 1
                · intro w' hSw
                  have hl0 := (hSw.cell (p := ⟨E, 0, none⟩) lE).trans e0
                  have hl1 := (hSw.cell (p := ⟨E, 1, none⟩) lE).trans e1
                  have hl2 := (hSw.cell (p := ⟨E, 2, none⟩) lE).trans e2
                  have hl3 := (hSw.cell (p := ⟨gh, X, none⟩) lgh).trans cu
                  have hl4 := (hSw.cell (p := ⟨gh, Y, none⟩) lgh).trans cv
                  clear hSw
                  go_simp
                  try (with_reducible rfl)
                try simp only [List.getElem_toArray, List.getElem_cons_zero, List.getElem_cons_succ, Act.put, List.setIfInBounds_toArray, List.set_cons_zero, List.set_cons_succ]
                refine two_take (i := 12) (v := ?_) rfl (by kernel_rfl) (by kernel_rfl) (fun _ _ _ h => h) (Or.inl ⟨by rfl, ?_⟩) (by assumption) ?_
                rotate_left 1
                · intro w' hSw
                  have hl0 := (hSw.cell (p := ⟨E, 0, none⟩) lE).trans e0
                  have hl1 := (hSw.cell (p := ⟨E, 1, none⟩) lE).trans e1
                  have hl2 := (hSw.cell (p := ⟨E, 2, none⟩) lE).trans e2
                  have hl3 := (hSw.cell (p := ⟨gh, X, none⟩) lgh).trans cu
                  have hl4 := (hSw.cell (p := ⟨gh, Y, none⟩) lgh).trans cv
                  clear hSw
                  go_simp
                  try (with_reducible rfl)
                try simp only [List.getElem_toArray, List.getElem_cons_zero, List.getElem_cons_succ, Act.put, List.setIfInBounds_toArray, List.set_cons_zero, List.set_cons_succ]
                refine two_take (i := 13) (v := ?_) rfl (by kernel_rfl) (by kernel_rfl) (fun _ _ _ h => h) (Or.inl ⟨by rfl, ?_⟩) (by assumption) ?_
                rotate_left 1
                · intro w' hSw
                  have hl0 := (hSw.cell (p := ⟨E, 0, none⟩) lE).trans e0
                  have hl1 := (hSw.cell (p := ⟨E, 1, none⟩) lE).trans e1
                  have hl2 := (hSw.cell (p := ⟨E, 2, none⟩) lE).trans e2
                  have hl3 := (hSw.cell (p := ⟨gh, X, none⟩) lgh).trans cu
                  have hl4 := (hSw.cell (p := ⟨gh, Y, none⟩) lgh).trans cv
                  clear hSw
                  go_simp
                  try (with_reducible rfl)
                try simp only [List.getElem_toArray, List.getElem_cons_zero, List.getElem_cons_succ, Act.put, List.setIfInBounds_toArray, List.set_cons_zero, List.set_cons_succ]
                refine two_take (i := 14) (v := ?_) rfl (by kernel_rfl) (by kernel_rfl) (fun _ _ _ h => h) (Or.inl ⟨by rfl, ?_⟩) (by assumption) ?_
                rotate_left 1
                · intro w' hSw
                  have hl0 := (hSw.cell (p := ⟨E, 0, none⟩) lE).trans e0
                  have hl1 := (hSw.cell (p := ⟨E, 1, none⟩) lE).trans e1
                  have hl2 := (hSw.cell (p := ⟨E, 2, none⟩) lE).trans e2
                  have hl3 := (hSw.cell (p := ⟨gh, X, none⟩) lgh).trans cu
                  have hl4 := (hSw.cell (p := ⟨gh, Y, none⟩) lgh).trans cv
                  clear hSw
                  go_simp
                  try (with_reducible rfl)
                try simp only [List.getElem_toArray, List.getElem_cons_zero, List.getElem_cons_succ, Act.put, List.setIfInBounds_toArray, List.set_cons_zero, List.set_cons_succ]
                refine two_take (i := 15) (v := ?_) rfl (by kernel_rfl) (by kernel_rfl) (fun _ _ _ h => h) (Or.inl ⟨by rfl, ?_⟩) (by assumption) ?_
                rotate_left 1
                · intro w' hSw
                  have hl0 := (hSw.cell (p := ⟨E, 0, none⟩) lE).trans e0
                  have hl1 := (hSw.cell (p := ⟨E, 1, none⟩) lE).trans e1
                  have hl2 := (hSw.cell (p := ⟨E, 2, none⟩) lE).trans e2
                  have hl3 := (hSw.cell (p := ⟨gh, X, none⟩) lgh).trans cu
                  have hl4 := (hSw.cell (p := ⟨gh, Y, none⟩) lgh).trans cv
                  clear hSw
                  go_simp
                  try (with_reducible rfl)
                try simp only [List.getElem_toArray, List.getElem_cons_zero, List.getElem_cons_succ, Act.put, List.setIfInBounds_toArray, List.set_cons_zero, List.set_cons_succ]
                refine two_take (i := 16) (v := ?_) rfl (by kernel_rfl) (by kernel_rfl) (fun _ _ _ h => h) (Or.inl ⟨by rfl, ?_⟩) (by assumption) ?_
                rotate_left 1
                · intro w' hSw
                  have hl0 := (hSw.cell (p := ⟨E, 0, none⟩) lE).trans e0
                  have hl1 := (hSw.cell (p := ⟨E, 1, none⟩) lE).trans e1
                  have hl2 := (hSw.cell (p := ⟨E, 2, none⟩) lE).trans e2
                  have hl3 := (hSw.cell (p := ⟨gh, X, none⟩) lgh).trans cu
                  have hl4 := (hSw.cell (p := ⟨gh, Y, none⟩) lgh).trans cv
                  clear hSw
                  go_simp
                  try (with_reducible rfl)
                try simp only [List.getElem_toArray, List.getElem_cons_zero, List.getElem_cons_succ, Act.put, List.setIfInBounds_toArray, List.set_cons_zero, List.set_cons_succ]
                refine two_take (i := 17) (v := ?_) rfl (by kernel_rfl) (by kernel_rfl) (fun _ _ _ h => h) (Or.inl ⟨by rfl, ?_⟩) (by assumption) ?_
                rotate_left 1
                · intro w' hSw
                  have hl0 := (hSw.cell (p := ⟨E, 0, none⟩) lE).trans e0
                  have hl1 := (hSw.cell (p := ⟨E, 1, none⟩) lE).trans e1
                  have hl2 := (hSw.cell (p := ⟨E, 2, none⟩) lE).trans e2
                  have hl3 := (hSw.cell (p := ⟨gh, X, none⟩) lgh).trans cu
                  have hl4 := (hSw.cell (p := ⟨gh, Y, none⟩) lgh).trans cv
                  clear hSw
                  go_simp
                  try (with_reducible rfl)
                try simp only [List.getElem_toArray, List.getElem_cons_zero, List.getElem_cons_succ, Act.put, List.setIfInBounds_toArray, List.set_cons_zero, List.set_cons_succ]
                refine two_ready (rs := [18]) (by kernel_rfl) (by kernel_rfl) (by simp) ?_
                refine AllReadyB.last rfl (fun K hK => ?_)
                go_simp
                refine hK.out _ _ ?_
                clear hK K
                try simp only [List.getElem_toArray, List.getElem_cons_zero, List.getElem_cons_succ, Act.put, List.setIfInBounds_toArray, List.set_cons_zero, List.set_cons_succ]
                refine two_late (by kernel_rfl) ?_
                refine wpAny_done (by kernel_rfl) ?_ _
                have HN : Hid (Blk (we.setCell ⟨gh, Y, none⟩ (.int .i64 (v))).drew gh 3 (cellsOf N (hPass (lightF f P Q) (k + 1) (hAll (lightF f P Q) n t))).toArray) := by
                  have h := hBn.put Y (.int .i64 (v))
                  rw [cells_puts] at h
                  rw [HR.out, show max v (u + z) = v by omega]
                  exact h
                have hO2 : Off (fun y => y = gh) wm (we.setCell ⟨gh, Y, none⟩ (.int .i64 (v))).drew := (hoff2.setCell (p := ⟨gh, Y, none⟩) (fun _ => rfl) _).drew
                clear hBn hoff2 cu cv e0 e1 e2 hfz
                go_wp2
                go_roundw
                case rel => exact ⟨k + 1, by go_num, by omega, hO2, HN.out⟩
                case measure => simp [intOf]; omega
            · obtain rfl : n = k := by omega
              have hHB2 : Hid (Blk wr gh 3 (cellsOf N (hAll (lightF f P Q) n (t + 1))).toArray) := hHB
              have HOF := Lib.hid hoff
              clear hHB hoff
              go_wp2
              go_roundw
              case rel => exact ⟨t + 1, by go_num, by omega, HOF.out, hHB2.out⟩
              case measure => simp [intOf]; omega
        · obtain rfl : N = t := by omega
          have hGr : Blk wr G 24 #[.int .i64 N, .slice a n c] := hGm.off hoff (fun e => by have h2 : G = gh := e; omega)
          have cG0 : wr.cell? ⟨G, 0, none⟩ = some (.int .i64 N) := hGr.cell 0
          have lGr2 := hGr.lt
          have lHr := hHB.lt
          have hrr : RowC wr 3 la n (lightF f P Q) := rowC_off hrm hoff (fun p hp e => by have h1 := hla.out p hp; have h2 : p.block = gh := e; omega)
          have HBr : Hid (Below G w wr) := HM3.out.trans ((HBM.out.trans (hoff.below (B := w3.heap.size) (fun y e => by have h2 : y = gh := e; omega) (by omega))).mono (by omega))
          have hla2 : Hid (∀ p : Addr, la = some p → p.block < wr.heap.size) := fun p hp => by have := hla.out p hp; omega
          have hmk := fun W => run_make_row' (P := Try.prog) 35 3 (.int .i64 0) 8 Try.underlying35 intInfo rfl .i64 .i64 N (by omega) (by omega) W
          clear hoff hGr
          go_upto_region 19 with fail
          refine wp_region_held_drew (S := (fun w' => Below wr.heap.size wr w')) (by kernel_rfl) ?_ (fun hHeld => ?_)
          · exact (Below.refl _ _).drew
          generalize wr.drew = q0 at *
          refine wpAnyH_take (i := 0) (v := ?_) rfl (by kernel_rfl) (by kernel_rfl) (by kernel_rfl) (fun _ _ _ h => h) (Or.inl ⟨by rfl, ?_⟩) (by assumption) ?_
          rotate_left 1
          · intro w' hSw
            have hl0 := (hSw.cell (p := ⟨G, 0, none⟩) lGr2).trans cG0
            clear hSw
            go_simp
            try (with_reducible rfl)
          try simp only [List.getElem_toArray, List.getElem_cons_zero, List.getElem_cons_succ, Act.put, List.setIfInBounds_toArray, List.set_cons_zero, List.set_cons_succ]
          refine wpAnyH_take (i := 1) (v := ?_) rfl (by kernel_rfl) (by kernel_rfl) (by kernel_rfl) (fun _ _ _ h => h) (Or.inl ⟨by rfl, ?_⟩) (by assumption) ?_
          rotate_left 1
          · intro w' hSw
            have hl0 := (hSw.cell (p := ⟨G, 0, none⟩) lGr2).trans cG0
            clear hSw
            go_simp
            try (with_reducible rfl)
          try simp only [List.getElem_toArray, List.getElem_cons_zero, List.getElem_cons_succ, Act.put, List.setIfInBounds_toArray, List.set_cons_zero, List.set_cons_succ]
          refine wpAnyH_take (i := 3) (v := ?_) rfl (by kernel_rfl) (by kernel_rfl) (by kernel_rfl) (fun _ _ _ h => h) (Or.inl ⟨by rfl, ?_⟩) (by assumption) ?_
          rotate_left 1
          · intro w' hSw
            have hl0 := (hSw.cell (p := ⟨G, 0, none⟩) lGr2).trans cG0
            clear hSw
            go_simp
            try (with_reducible rfl)
          try simp only [List.getElem_toArray, List.getElem_cons_zero, List.getElem_cons_succ, Act.put, List.setIfInBounds_toArray, List.set_cons_zero, List.set_cons_succ]
          refine wpAnyH_take (i := 4) (v := ?_) rfl (by kernel_rfl) (by kernel_rfl) (by kernel_rfl) (fun _ _ _ h => h) (Or.inl ⟨by rfl, ?_⟩) (by assumption) ?_
          rotate_left 1
          · intro w' hSw
            have hl0 := (hSw.cell (p := ⟨G, 0, none⟩) lGr2).trans cG0
            clear hSw
            go_simp
            try (with_reducible rfl)
          try simp only [List.getElem_toArray, List.getElem_cons_zero, List.getElem_cons_succ, Act.put, List.setIfInBounds_toArray, List.set_cons_zero, List.set_cons_succ]
          refine wpAnyH_take (i := 6) (v := ?_) rfl (by kernel_rfl) (by kernel_rfl) (by kernel_rfl) (fun _ _ _ h => h) (Or.inl ⟨by rfl, ?_⟩) (by assumption) ?_
          rotate_left 1
          · intro w' hSw
            have hl0 := (hSw.cell (p := ⟨G, 0, none⟩) lGr2).trans cG0
            clear hSw
            go_simp
            try (with_reducible rfl)
          try simp only [List.getElem_toArray, List.getElem_cons_zero, List.getElem_cons_succ, Act.put, List.setIfInBounds_toArray, List.set_cons_zero, List.set_cons_succ]
          refine wpAnyH_take (i := 7) (v := ?_) rfl (by kernel_rfl) (by kernel_rfl) (by kernel_rfl) (fun _ _ _ h => h) (Or.inl ⟨by rfl, ?_⟩) (by assumption) ?_
          rotate_left 1
          · intro w' hSw
            have hl0 := (hSw.cell (p := ⟨G, 0, none⟩) lGr2).trans cG0
            clear hSw
            go_simp
            try (with_reducible rfl)
          try simp only [List.getElem_toArray, List.getElem_cons_zero, List.getElem_cons_succ, Act.put, List.setIfInBounds_toArray, List.set_cons_zero, List.set_cons_succ]
          refine wpAnyH_ready (rs := [2, 8]) (by kernel_rfl) (by simp) ?_
          refine AllReadyH.cons rfl (fun K hK => ?_) (AllReadyH.cons rfl (fun K hK => ?_) AllReadyH.nil)
          · go_simp
            have hC : Blk (q0.alloc (.cells #[.int .i64 (-1)] 3)) q0.heap.size 3 #[.int .i64 (-1)] := Blk.new _ _ _
            have hh : Below wr.heap.size wr (q0.alloc (.cells #[.int .i64 (-1)] 3)) := hHeld.alloc hHeld.size _
            clear hHeld
            refine hK.out _ _ ?_ (fun hHeld => ?_)
            · exact hh
            clear hK K hh
            try simp only [lay]
            generalize (q0.alloc (.cells #[.int .i64 (-1)] 3)) = q1 at *
            generalize q0.heap.size = C at *
            refine wpAnyH_ready (rs := [5, 8]) (by kernel_rfl) (by simp) ?_
            refine AllReadyH.cons rfl (fun K hK => ?_) (AllReadyH.cons rfl (fun K hK => ?_) AllReadyH.nil)
            · go_simp
              refine (repeat_at C 0 _ (-1) N _ (hC.cell 0) hC.lt hN').mono ?_
              rintro e w7 ⟨gb, os7, d7, rfl, hgb, rfl, hB⟩
              have hh : Below wr.heap.size wr (q1.more os7 d7) := hHeld.trans (below_more q1 os7 d7 _ hHeld.size)
              have hgb2 : wr.heap.size ≤ gb := by rw [← hgb]; exact hHeld.size
              clear hHeld hC hgb
              refine hK.out _ _ ?_ (fun hHeld => ?_)
              · exact hh
              clear hK K hh
              try simp only [lay]
              generalize q1.more os7 d7 = q2 at *
              refine wpAnyH_ready (rs := [8]) (by kernel_rfl) (by simp) ?_
              refine AllReadyH.cons rfl (fun K hK => ?_) AllReadyH.nil
              go_simp
              have hZ : Blk (q2.alloc (.cells (madeCells #[.int .i64 0] N) 3)) q2.heap.size 3 (cellsOf N (fun _ => 0)).toArray := by rw [← made_cells]; exact Blk.new _ _ _
              have hh : Below wr.heap.size wr (q2.alloc (.cells (madeCells #[.int .i64 0] N) 3)) := hHeld.alloc hHeld.size _
              have hgs2 := hHeld.size
              have hne : gb ≠ q2.heap.size := by have := hB.lt; omega
              replace hB := hB.alloc (.cells (madeCells #[.int .i64 0] N) 3)
              clear hHeld
              refine hK.out _ _ ?_ (fun hHeld => ?_)
              · exact hh
              clear hK K hh
              try simp only [lay]
              generalize (q2.alloc (.cells (madeCells #[.int .i64 0] N) 3)) = q3 at *
              generalize q2.heap.size = gs at *
              refine tk0 9 rfl ?_; try simp only [lay]
              refine wpAnyH_ready (rs := [10]) (by kernel_rfl) (by simp) ?_
              refine AllReadyH.cons rfl (fun K hK => ?_) AllReadyH.nil
              go_simp
              have hW : Blk (q3.alloc (.cells #[.slice (some ⟨gh, 0, none⟩) N N, .slice la n lc, .slice (some ⟨gb, 0, none⟩) N N, .slice (some ⟨gs, 0, none⟩) N N] 49)) q3.heap.size 49 #[.slice (some ⟨gh, 0, none⟩) N N, .slice la n lc, .slice (some ⟨gb, 0, none⟩) N N, .slice (some ⟨gs, 0, none⟩) N N] := Blk.new _ _ _
              have hh : Below wr.heap.size wr (q3.alloc (.cells #[.slice (some ⟨gh, 0, none⟩) N N, .slice la n lc, .slice (some ⟨gb, 0, none⟩) N N, .slice (some ⟨gs, 0, none⟩) N N] 49)) := hHeld.alloc hHeld.size _
              have hWk : Hid (Wkr (q3.alloc (.cells #[.slice (some ⟨gh, 0, none⟩) N N, .slice la n lc, .slice (some ⟨gb, 0, none⟩) N N, .slice (some ⟨gs, 0, none⟩) N N] 49)) q3.heap.size gh gb gs N la n lc (lightF f P Q) (hAll (lightF f P Q) n N) ⟨fun _ => -1, fun _ => 0⟩) := ⟨hW, hHB.below hh lHr, hB.alloc _, hZ.alloc _, hrr.below hh (Nat.le_refl _), ⟨by have := hB.lt; omega, by have := hZ.lt; omega, by omega, by omega, hne⟩, fun p hp => by have h1 := hla2.out p hp; omega⟩
              clear hHeld hW hB hZ hne
              refine hK.out _ _ ?_ (fun hHeld => ?_)
              · exact hh
              clear hK K hh
              try simp only [lay]
              refine tk0 11 rfl ?_; try simp only [lay]
              refine wpAnyH_done (by kernel_rfl) ?_ _
              generalize (q3.alloc (.cells #[.slice (some ⟨gh, 0, none⟩) N N, .slice la n lc, .slice (some ⟨gb, 0, none⟩) N N, .slice (some ⟨gs, 0, none⟩) N N] 49)) = wv at *
              generalize q3.heap.size = WW at *
              have cGv : wv.cell? ⟨G, 0, none⟩ = some (.int .i64 N) := (hHeld.cell (p := ⟨G, 0, none⟩) lGr2).trans cG0
              have lGv : G < wv.heap.size := by have := hHeld.size; omega
              have HBv : Hid (Below G w wv) := HBr.out.trans (hHeld.mono (by omega))
              have HlG : Hid (G ≤ wv.heap.size) := Nat.le_of_lt lGv
              have hgn : Hid (G ≤ gb ∧ G ≤ gs) := ⟨by omega, by omega⟩
              have HH := Lib.hid (fun u (hu : u < N) => (show 0 ≤ hAll (lightF f P Q) n N u ∧ hAll (lightF f P Q) n N u ≤ 4000000000000000 by have h := high_in HGN.out hN' hn' HF2.out N (Nat.le_refl _) u hu; omega))
              have HBL : Hid (bestL f n N = (visAll (lightF f P Q) (hAll (lightF f P Q) n N) n N N).2) := by unfold bestL; rw [hP.out, hQ.out]; rfl
              have HFD : Hid ((visAll (lightF f P Q) (hAll (lightF f P Q) n N) n N N).2 ≠ []) := by obtain ⟨gg, g1, g2, g3, g4, _⟩ := HLW.out; exact light_found HG.out H0.out g1 g2 g3 g4
              clear hHeld cG0
              generalize hAll (lightF f P Q) n N = hh at *
              generalize lightF f P Q = ff at *
              go_wp2_with fail
              clear cGv lGv
              obtain ⟨ws, rfl⟩ : ∃ ws : World, ws = wr := ⟨_, rfl⟩
              go_loopw [93] (fun i wr => ∃ v : Nat, i = .int .i64 v ∧ v ≤ N ∧ Hid ((visAll ff hh n N v).2 = []) ∧ Hid (Wkr wr WW gh gb gs N la n lc ff hh (visAll ff hh n N v).1) ∧ Hid (Off (fun y => y = gb ∨ y = gs) wv wr)) (fun i _ => N - (intOf i).toNat)
              case atStart => exact ⟨0, rfl, Nat.zero_le _, rfl, hWk, Off.refl _ _⟩
              case round =>
                clear hWk
                obtain ⟨v, rfl, hv, HE, HW, HO⟩ := hrel
                by_cases hvN : v < N
                · have t9 : (v : Int) < (N : Int) := by omega
                  have HVI := Lib.hid ((visAll_ok (h := hh) HGN.out v hv).1 HE.out)
                  obtain ⟨Z, hZe⟩ : ∃ Z, Hid (visAll ff hh n N (v + 1) = Z) := ⟨_, rfl⟩
                  have HST : Hid (vis ff hh n N N v (visAll ff hh n N v).1 = Z) := by
                    show _ = Z
                    rw [← hZe.out, visAll, if_pos HE.out]
                  have HC := Lib.hid (visit_any WW gh gb gs N la n lc ff hh HGN.out hN' hn' HH.out HF2.out N v (visAll ff hh n N v).1 [] wr HVI.out.1 hvN (fun h => by cases (HVI.out.1.on v hvN).1 h) (zer_all _ N) (fun b l h => by cases h) HW.out)
                  rw [HST.out] at HC
                  go_wp2_with fail
                  refine (HC.out).mono ?_
                  rintro e w9 ⟨ao, co, rfl, hrow, hoo, hkk⟩
                  have HO9 : Hid (Off (fun y => y = gb ∨ y = gs) wv w9) := HO.out.trans hoo
                  have HKK := Lib.hid hkk
                  have HRW := Lib.hid hrow
                  clear hrow hoo hkk
                  by_cases hq0 : Z.2 = []
                  · have hl0 : Z.2.length = 0 := by rw [hq0]; rfl
                    rw [hl0]
                    have HE2 : Hid ((visAll ff hh n N (v + 1)).2 = []) := by show _ = _; rw [hZe.out]; exact hq0
                    have HW2 : Hid (Wkr w9 WW gh gb gs N la n lc ff hh (visAll ff hh n N (v + 1)).1) := by rw [hZe.out]; exact HKK.out hq0
                    clear hq0 hl0
                    go_wp2
                    go_roundw
                    case rel => exact ⟨v + 1, by go_num, by omega, HE2, HW2, HO9⟩
                    case measure => simp [intOf]; omega
                  · have hl0 : 0 < Z.2.length := List.length_pos_iff.2 hq0
                    have HL9 : Hid (bestL f n N = Z.2) := by
                      show _ = _
                      rw [HBL.out, ← hZe.out, visAll_stay' (by rw [hZe.out]; exact hq0) (show v + 1 ≤ N by omega)]
                    obtain ⟨ql, hql⟩ : ∃ ql, Hid (Z.2.length = ql) := ⟨_, rfl⟩
                    rw [hql.out] at hl0 ⊢
                    have t6 : (0 : Int) < (ql : Int) := by omega
                    clear hq0
                    go_wp2
                    go_ret2
                    rw [HGe.out]
                    refine ⟨.inr ⟨H0.out, ao, co, by rw [HL9.out, hql.out]; rfl, by rw [HL9.out]; exact HRW.out⟩, HBv.out.trans (HO9.out.below (B := G) (fun y e => by have := hgn.out; rcases e with e | e <;> omega) HlG.out)⟩
                · obtain rfl : N = v := by omega
                  exact absurd HE.out HFD.out
            · go_simp
              have hZ : Blk (q1.alloc (.cells (madeCells #[.int .i64 0] N) 3)) q1.heap.size 3 (cellsOf N (fun _ => 0)).toArray := by rw [← made_cells]; exact Blk.new _ _ _
              have hh : Below wr.heap.size wr (q1.alloc (.cells (madeCells #[.int .i64 0] N) 3)) := hHeld.alloc hHeld.size _
              have hgs2 := hHeld.size
              replace hC := hC.alloc (.cells (madeCells #[.int .i64 0] N) 3)
              clear hHeld
              refine hK.out _ _ ?_ (fun hHeld => ?_)
              · exact hh
              clear hK K hh
              try simp only [lay]
              generalize (q1.alloc (.cells (madeCells #[.int .i64 0] N) 3)) = q2 at *
              generalize q1.heap.size = gs at *
              refine wpAnyH_ready (rs := [5]) (by kernel_rfl) (by simp) ?_
              refine AllReadyH.cons rfl (fun K hK => ?_) AllReadyH.nil
              go_simp
              refine (repeat_at C 0 _ (-1) N _ (hC.cell 0) hC.lt hN').mono ?_
              rintro e w7 ⟨gb, os7, d7, rfl, hgb, rfl, hB⟩
              have hh : Below wr.heap.size wr (q2.more os7 d7) := hHeld.trans (below_more q2 os7 d7 _ hHeld.size)
              have hgb2 : wr.heap.size ≤ gb := by rw [← hgb]; exact hHeld.size
              have hne : gb ≠ gs := by have := hZ.lt; omega
              replace hZ := hZ.more os7 d7
              clear hHeld hC hgb
              refine hK.out _ _ ?_ (fun hHeld => ?_)
              · exact hh
              clear hK K hh
              try simp only [lay]
              generalize q2.more os7 d7 = q3 at *
              refine tk0 9 rfl ?_; try simp only [lay]
              refine wpAnyH_ready (rs := [10]) (by kernel_rfl) (by simp) ?_
              refine AllReadyH.cons rfl (fun K hK => ?_) AllReadyH.nil
              go_simp
              have hW : Blk (q3.alloc (.cells #[.slice (some ⟨gh, 0, none⟩) N N, .slice la n lc, .slice (some ⟨gb, 0, none⟩) N N, .slice (some ⟨gs, 0, none⟩) N N] 49)) q3.heap.size 49 #[.slice (some ⟨gh, 0, none⟩) N N, .slice la n lc, .slice (some ⟨gb, 0, none⟩) N N, .slice (some ⟨gs, 0, none⟩) N N] := Blk.new _ _ _
              have hh : Below wr.heap.size wr (q3.alloc (.cells #[.slice (some ⟨gh, 0, none⟩) N N, .slice la n lc, .slice (some ⟨gb, 0, none⟩) N N, .slice (some ⟨gs, 0, none⟩) N N] 49)) := hHeld.alloc hHeld.size _
              have hWk : Hid (Wkr (q3.alloc (.cells #[.slice (some ⟨gh, 0, none⟩) N N, .slice la n lc, .slice (some ⟨gb, 0, none⟩) N N, .slice (some ⟨gs, 0, none⟩) N N] 49)) q3.heap.size gh gb gs N la n lc (lightF f P Q) (hAll (lightF f P Q) n N) ⟨fun _ => -1, fun _ => 0⟩) := ⟨hW, hHB.below hh lHr, hB.alloc _, hZ.alloc _, hrr.below hh (Nat.le_refl _), ⟨by have := hB.lt; omega, by have := hZ.lt; omega, by omega, by omega, hne⟩, fun p hp => by have h1 := hla2.out p hp; omega⟩
              clear hHeld hW hB hZ hne
              refine hK.out _ _ ?_ (fun hHeld => ?_)
              · exact hh
              clear hK K hh
              try simp only [lay]
              refine tk0 11 rfl ?_; try simp only [lay]
              refine wpAnyH_done (by kernel_rfl) ?_ _
              generalize (q3.alloc (.cells #[.slice (some ⟨gh, 0, none⟩) N N, .slice la n lc, .slice (some ⟨gb, 0, none⟩) N N, .slice (some ⟨gs, 0, none⟩) N N] 49)) = wv at *
              generalize q3.heap.size = WW at *
              have cGv : wv.cell? ⟨G, 0, none⟩ = some (.int .i64 N) := (hHeld.cell (p := ⟨G, 0, none⟩) lGr2).trans cG0
              have lGv : G < wv.heap.size := by have := hHeld.size; omega
              have HBv : Hid (Below G w wv) := HBr.out.trans (hHeld.mono (by omega))
              have HlG : Hid (G ≤ wv.heap.size) := Nat.le_of_lt lGv
              have hgn : Hid (G ≤ gb ∧ G ≤ gs) := ⟨by omega, by omega⟩
              have HH := Lib.hid (fun u (hu : u < N) => (show 0 ≤ hAll (lightF f P Q) n N u ∧ hAll (lightF f P Q) n N u ≤ 4000000000000000 by have h := high_in HGN.out hN' hn' HF2.out N (Nat.le_refl _) u hu; omega))
              have HBL : Hid (bestL f n N = (visAll (lightF f P Q) (hAll (lightF f P Q) n N) n N N).2) := by unfold bestL; rw [hP.out, hQ.out]; rfl
              have HFD : Hid ((visAll (lightF f P Q) (hAll (lightF f P Q) n N) n N N).2 ≠ []) := by obtain ⟨gg, g1, g2, g3, g4, _⟩ := HLW.out; exact light_found HG.out H0.out g1 g2 g3 g4
              clear hHeld cG0
              generalize hAll (lightF f P Q) n N = hh at *
              generalize lightF f P Q = ff at *
              go_wp2_with fail
              clear cGv lGv
              obtain ⟨ws, rfl⟩ : ∃ ws : World, ws = wr := ⟨_, rfl⟩
              go_loopw [93] (fun i wr => ∃ v : Nat, i = .int .i64 v ∧ v ≤ N ∧ Hid ((visAll ff hh n N v).2 = []) ∧ Hid (Wkr wr WW gh gb gs N la n lc ff hh (visAll ff hh n N v).1) ∧ Hid (Off (fun y => y = gb ∨ y = gs) wv wr)) (fun i _ => N - (intOf i).toNat)
              case atStart => exact ⟨0, rfl, Nat.zero_le _, rfl, hWk, Off.refl _ _⟩
              case round =>
                clear hWk
                obtain ⟨v, rfl, hv, HE, HW, HO⟩ := hrel
                by_cases hvN : v < N
                · have t9 : (v : Int) < (N : Int) := by omega
                  have HVI := Lib.hid ((visAll_ok (h := hh) HGN.out v hv).1 HE.out)
                  obtain ⟨Z, hZe⟩ : ∃ Z, Hid (visAll ff hh n N (v + 1) = Z) := ⟨_, rfl⟩
                  have HST : Hid (vis ff hh n N N v (visAll ff hh n N v).1 = Z) := by
                    show _ = Z
                    rw [← hZe.out, visAll, if_pos HE.out]
                  have HC := Lib.hid (visit_any WW gh gb gs N la n lc ff hh HGN.out hN' hn' HH.out HF2.out N v (visAll ff hh n N v).1 [] wr HVI.out.1 hvN (fun h => by cases (HVI.out.1.on v hvN).1 h) (zer_all _ N) (fun b l h => by cases h) HW.out)
                  rw [HST.out] at HC
                  go_wp2_with fail
                  refine (HC.out).mono ?_
                  rintro e w9 ⟨ao, co, rfl, hrow, hoo, hkk⟩
                  have HO9 : Hid (Off (fun y => y = gb ∨ y = gs) wv w9) := HO.out.trans hoo
                  have HKK := Lib.hid hkk
                  have HRW := Lib.hid hrow
                  clear hrow hoo hkk
                  by_cases hq0 : Z.2 = []
                  · have hl0 : Z.2.length = 0 := by rw [hq0]; rfl
                    rw [hl0]
                    have HE2 : Hid ((visAll ff hh n N (v + 1)).2 = []) := by show _ = _; rw [hZe.out]; exact hq0
                    have HW2 : Hid (Wkr w9 WW gh gb gs N la n lc ff hh (visAll ff hh n N (v + 1)).1) := by rw [hZe.out]; exact HKK.out hq0
                    clear hq0 hl0
                    go_wp2
                    go_roundw
                    case rel => exact ⟨v + 1, by go_num, by omega, HE2, HW2, HO9⟩
                    case measure => simp [intOf]; omega
                  · have hl0 : 0 < Z.2.length := List.length_pos_iff.2 hq0
                    have HL9 : Hid (bestL f n N = Z.2) := by
                      show _ = _
                      rw [HBL.out, ← hZe.out, visAll_stay' (by rw [hZe.out]; exact hq0) (show v + 1 ≤ N by omega)]
                    obtain ⟨ql, hql⟩ : ∃ ql, Hid (Z.2.length = ql) := ⟨_, rfl⟩
                    rw [hql.out] at hl0 ⊢
                    have t6 : (0 : Int) < (ql : Int) := by omega
                    clear hq0
                    go_wp2
                    go_ret2
                    rw [HGe.out]
                    refine ⟨.inr ⟨H0.out, ao, co, by rw [HL9.out, hql.out]; rfl, by rw [HL9.out]; exact HRW.out⟩, HBv.out.trans (HO9.out.below (B := G) (fun y e => by have := hgn.out; rcases e with e | e <;> omega) HlG.out)⟩
                · obtain rfl : N = v := by omega
                  exact absurd HE.out HFD.out
          · go_simp
            have hZ : Blk (q0.alloc (.cells (madeCells #[.int .i64 0] N) 3)) q0.heap.size 3 (cellsOf N (fun _ => 0)).toArray := by rw [← made_cells]; exact Blk.new _ _ _
            have hh : Below wr.heap.size wr (q0.alloc (.cells (madeCells #[.int .i64 0] N) 3)) := hHeld.alloc hHeld.size _
            have hgs2 := hHeld.size
            clear hHeld
            refine hK.out _ _ ?_ (fun hHeld => ?_)
            · exact hh
            clear hK K hh
            try simp only [lay]
            generalize (q0.alloc (.cells (madeCells #[.int .i64 0] N) 3)) = q1 at *
            generalize q0.heap.size = gs at *
            refine wpAnyH_ready (rs := [2]) (by kernel_rfl) (by simp) ?_
            refine AllReadyH.cons rfl (fun K hK => ?_) AllReadyH.nil
            go_simp
            have hC : Blk (q1.alloc (.cells #[.int .i64 (-1)] 3)) q1.heap.size 3 #[.int .i64 (-1)] := Blk.new _ _ _
            have hh : Below wr.heap.size wr (q1.alloc (.cells #[.int .i64 (-1)] 3)) := hHeld.alloc hHeld.size _
            replace hZ := hZ.alloc (.cells #[.int .i64 (-1)] 3)
            clear hHeld
            refine hK.out _ _ ?_ (fun hHeld => ?_)
            · exact hh
            clear hK K hh
            try simp only [lay]
            generalize (q1.alloc (.cells #[.int .i64 (-1)] 3)) = q2 at *
            generalize q1.heap.size = C at *
            refine wpAnyH_ready (rs := [5]) (by kernel_rfl) (by simp) ?_
            refine AllReadyH.cons rfl (fun K hK => ?_) AllReadyH.nil
            go_simp
            refine (repeat_at C 0 _ (-1) N _ (hC.cell 0) hC.lt hN').mono ?_
            rintro e w7 ⟨gb, os7, d7, rfl, hgb, rfl, hB⟩
            have hh : Below wr.heap.size wr (q2.more os7 d7) := hHeld.trans (below_more q2 os7 d7 _ hHeld.size)
            have hgb2 : wr.heap.size ≤ gb := by rw [← hgb]; exact hHeld.size
            have hne : gb ≠ gs := by have := hZ.lt; omega
            replace hZ := hZ.more os7 d7
            clear hHeld hC hgb
            refine hK.out _ _ ?_ (fun hHeld => ?_)
            · exact hh
            clear hK K hh
            try simp only [lay]
            generalize q2.more os7 d7 = q3 at *
            refine tk0 9 rfl ?_; try simp only [lay]
            refine wpAnyH_ready (rs := [10]) (by kernel_rfl) (by simp) ?_
            refine AllReadyH.cons rfl (fun K hK => ?_) AllReadyH.nil
            go_simp
            have hW : Blk (q3.alloc (.cells #[.slice (some ⟨gh, 0, none⟩) N N, .slice la n lc, .slice (some ⟨gb, 0, none⟩) N N, .slice (some ⟨gs, 0, none⟩) N N] 49)) q3.heap.size 49 #[.slice (some ⟨gh, 0, none⟩) N N, .slice la n lc, .slice (some ⟨gb, 0, none⟩) N N, .slice (some ⟨gs, 0, none⟩) N N] := Blk.new _ _ _
            have hh : Below wr.heap.size wr (q3.alloc (.cells #[.slice (some ⟨gh, 0, none⟩) N N, .slice la n lc, .slice (some ⟨gb, 0, none⟩) N N, .slice (some ⟨gs, 0, none⟩) N N] 49)) := hHeld.alloc hHeld.size _
            have hWk : Hid (Wkr (q3.alloc (.cells #[.slice (some ⟨gh, 0, none⟩) N N, .slice la n lc, .slice (some ⟨gb, 0, none⟩) N N, .slice (some ⟨gs, 0, none⟩) N N] 49)) q3.heap.size gh gb gs N la n lc (lightF f P Q) (hAll (lightF f P Q) n N) ⟨fun _ => -1, fun _ => 0⟩) := ⟨hW, hHB.below hh lHr, hB.alloc _, hZ.alloc _, hrr.below hh (Nat.le_refl _), ⟨by have := hB.lt; omega, by have := hZ.lt; omega, by omega, by omega, hne⟩, fun p hp => by have h1 := hla2.out p hp; omega⟩
            clear hHeld hW hB hZ hne
            refine hK.out _ _ ?_ (fun hHeld => ?_)
            · exact hh
            clear hK K hh
            try simp only [lay]
            refine tk0 11 rfl ?_; try simp only [lay]
            refine wpAnyH_done (by kernel_rfl) ?_ _
            generalize (q3.alloc (.cells #[.slice (some ⟨gh, 0, none⟩) N N, .slice la n lc, .slice (some ⟨gb, 0, none⟩) N N, .slice (some ⟨gs, 0, none⟩) N N] 49)) = wv at *
            generalize q3.heap.size = WW at *
            have cGv : wv.cell? ⟨G, 0, none⟩ = some (.int .i64 N) := (hHeld.cell (p := ⟨G, 0, none⟩) lGr2).trans cG0
            have lGv : G < wv.heap.size := by have := hHeld.size; omega
            have HBv : Hid (Below G w wv) := HBr.out.trans (hHeld.mono (by omega))
            have HlG : Hid (G ≤ wv.heap.size) := Nat.le_of_lt lGv
            have hgn : Hid (G ≤ gb ∧ G ≤ gs) := ⟨by omega, by omega⟩
            have HH := Lib.hid (fun u (hu : u < N) => (show 0 ≤ hAll (lightF f P Q) n N u ∧ hAll (lightF f P Q) n N u ≤ 4000000000000000 by have h := high_in HGN.out hN' hn' HF2.out N (Nat.le_refl _) u hu; omega))
            have HBL : Hid (bestL f n N = (visAll (lightF f P Q) (hAll (lightF f P Q) n N) n N N).2) := by unfold bestL; rw [hP.out, hQ.out]; rfl
            have HFD : Hid ((visAll (lightF f P Q) (hAll (lightF f P Q) n N) n N N).2 ≠ []) := by obtain ⟨gg, g1, g2, g3, g4, _⟩ := HLW.out; exact light_found HG.out H0.out g1 g2 g3 g4
            clear hHeld cG0
            generalize hAll (lightF f P Q) n N = hh at *
            generalize lightF f P Q = ff at *
            go_wp2_with fail
            clear cGv lGv
            obtain ⟨ws, rfl⟩ : ∃ ws : World, ws = wr := ⟨_, rfl⟩
            go_loopw [93] (fun i wr => ∃ v : Nat, i = .int .i64 v ∧ v ≤ N ∧ Hid ((visAll ff hh n N v).2 = []) ∧ Hid (Wkr wr WW gh gb gs N la n lc ff hh (visAll ff hh n N v).1) ∧ Hid (Off (fun y => y = gb ∨ y = gs) wv wr)) (fun i _ => N - (intOf i).toNat)
            case atStart => exact ⟨0, rfl, Nat.zero_le _, rfl, hWk, Off.refl _ _⟩
            case round =>
              clear hWk
              obtain ⟨v, rfl, hv, HE, HW, HO⟩ := hrel
              by_cases hvN : v < N
              · have t9 : (v : Int) < (N : Int) := by omega
                have HVI := Lib.hid ((visAll_ok (h := hh) HGN.out v hv).1 HE.out)
                obtain ⟨Z, hZe⟩ : ∃ Z, Hid (visAll ff hh n N (v + 1) = Z) := ⟨_, rfl⟩
                have HST : Hid (vis ff hh n N N v (visAll ff hh n N v).1 = Z) := by
                  show _ = Z
                  rw [← hZe.out, visAll, if_pos HE.out]
                have HC := Lib.hid (visit_any WW gh gb gs N la n lc ff hh HGN.out hN' hn' HH.out HF2.out N v (visAll ff hh n N v).1 [] wr HVI.out.1 hvN (fun h => by cases (HVI.out.1.on v hvN).1 h) (zer_all _ N) (fun b l h => by cases h) HW.out)
                rw [HST.out] at HC
                go_wp2_with fail
                refine (HC.out).mono ?_
                rintro e w9 ⟨ao, co, rfl, hrow, hoo, hkk⟩
                have HO9 : Hid (Off (fun y => y = gb ∨ y = gs) wv w9) := HO.out.trans hoo
                have HKK := Lib.hid hkk
                have HRW := Lib.hid hrow
                clear hrow hoo hkk
                by_cases hq0 : Z.2 = []
                · have hl0 : Z.2.length = 0 := by rw [hq0]; rfl
                  rw [hl0]
                  have HE2 : Hid ((visAll ff hh n N (v + 1)).2 = []) := by show _ = _; rw [hZe.out]; exact hq0
                  have HW2 : Hid (Wkr w9 WW gh gb gs N la n lc ff hh (visAll ff hh n N (v + 1)).1) := by rw [hZe.out]; exact HKK.out hq0
                  clear hq0 hl0
                  go_wp2
                  go_roundw
                  case rel => exact ⟨v + 1, by go_num, by omega, HE2, HW2, HO9⟩
                  case measure => simp [intOf]; omega
                · have hl0 : 0 < Z.2.length := List.length_pos_iff.2 hq0
                  have HL9 : Hid (bestL f n N = Z.2) := by
                    show _ = _
                    rw [HBL.out, ← hZe.out, visAll_stay' (by rw [hZe.out]; exact hq0) (show v + 1 ≤ N by omega)]
                  obtain ⟨ql, hql⟩ : ∃ ql, Hid (Z.2.length = ql) := ⟨_, rfl⟩
                  rw [hql.out] at hl0 ⊢
                  have t6 : (0 : Int) < (ql : Int) := by omega
                  clear hq0
                  go_wp2
                  go_ret2
                  rw [HGe.out]
                  refine ⟨.inr ⟨H0.out, ao, co, by rw [HL9.out, hql.out]; rfl, by rw [HL9.out]; exact HRW.out⟩, HBv.out.trans (HO9.out.below (B := G) (fun y e => by have := hgn.out; rcases e with e | e <;> omega) HlG.out)⟩
              · obtain rfl : N = v := by omega
                exact absurd HE.out HFD.out
end Go.Proofs.Ytnbjcohkkaijaaa
