/- Sums of rounds; and that none brings more than the rate. Conditions: none. -/
import Derived.Test.YtnlglhfpcoicaabDuelY
import Derived.StillTailTactics
import Derived.Deep.RegionHeld
set_option linter.unusedVariables false
set_option linter.unusedSimpArgs false
namespace Go
open Go.RowKit
theorem RowC.at6 {w : World} {a : Option Addr} {n : Nat} {f : Nat → Nat → Int} (h : RowC w 6 a n f) {k : Nat} (hk : k < n) : ∃ b off x0 x1 x2 x3 x4 x5, a = some ⟨b, off, none⟩ ∧ b < w.heap.size ∧ w.cell? ⟨b, off + k * 6, none⟩ = some (.int .i64 x0) ∧ w.cell? ⟨b, off + (k * 6 + 1), none⟩ = some (.int .i64 x1) ∧ w.cell? ⟨b, off + (k * 6 + 2), none⟩ = some (.int .i64 x2)
    ∧ w.cell? ⟨b, off + (k * 6 + 3), none⟩ = some (.int .i64 x3) ∧ w.cell? ⟨b, off + (k * 6 + 4), none⟩ = some (.int .i64 x4) ∧ w.cell? ⟨b, off + (k * 6 + 5), none⟩ = some (.int .i64 x5) ∧ Hid (x0 = f k 0 ∧ x1 = f k 1 ∧ x2 = f k 2 ∧ x3 = f k 3 ∧ x4 = f k 4 ∧ x5 = f k 5) := by
  obtain ⟨b, off, e, hb, hc⟩ := h (by omega)
  exact ⟨b, off, _, _, _, _, _, _, e, hb, hc k 0 hk (by omega), hc k 1 hk (by omega), hc k 2 hk (by omega), hc k 3 hk (by omega), hc k 4 hk (by omega), hc k 5 hk (by omega), rfl, rfl, rfl, rfl, rfl, rfl⟩
/-- What a cell holds stored into it again: nothing has turned. -/
theorem Blk.put_same {w : World} {g : Nat} {t : TypeId} {cs : Array Value} (h : Blk w g t cs) {i : Nat} {v : Value} (hv : cs[i]? = some v) : w.setCell ⟨g, i, none⟩ v = w := by
  have hlt := h.lt
  unfold Blk at h
  have hv' : w.heap[g] = .cells cs t (0, 0) := (Array.getElem?_eq_some_iff.1 h).2
  obtain ⟨hi, hvi⟩ := Array.getElem?_eq_some_iff.1 hv
  have hcs : cs.setIfInBounds i v = cs := by
    apply Array.ext_getElem?
    intro k
    rw [Array.getElem?_setIfInBounds]
    split
    · rename_i e
      subst e
      simp [hi, hvi]
    · rfl
  cases w with
  | mk heap tape drawn os output =>
    simp only [World.setCell] at *
    congr 1
    apply Array.ext_getElem?
    intro k
    rw [Array.getElem?_modify]
    by_cases hk : g = k
    · subst hk
      simp [h, hcs]
    · simp [hk]
end Go
namespace Go.Tide
/-- Sums of what place q holds, of the first n. -/
def tot (f : Nat → Nat → Int) (q : Nat) : Nat → Int
  | 0 => 0
  | n + 1 => tot f q n + f n q
theorem tot_bd {f : Nat → Nat → Int} {q : Nat} : ∀ n, (∀ k, k < n → 0 ≤ f k q ∧ f k q ≤ 100) → 0 ≤ tot f q n ∧ tot f q n ≤ 100 * n := by
  intro n
  induction n with
  | zero => intro _; simp [tot]
  | succ n ih =>
    intro h
    have h1 := ih fun k hk => h k (by omega)
    have h2 := h n (by omega)
    show 0 ≤ tot f q n + f n q ∧ tot f q n + f n q ≤ 100 * ((n + 1 : Nat) : Int)
    omega
end Go.Tide
namespace Go.Proofs.Ytnlglhfpcoicaab
open Go.RowKit Go.Tide
set_option linter.unusedVariables false
set_option linter.unusedSimpArgs false
structure SB (w wr : World) (A0 A1 B0 B1 C0 C1 : Int) : Prop where
  a : Blk wr w.heap.size 22 #[.int .i64 A0, .int .i64 A1]
  b : Blk wr (w.heap.size + 1) 22 #[.int .i64 B0, .int .i64 B1]
  c : Blk wr (w.heap.size + 2) 22 #[.int .i64 C0, .int .i64 C1]
  below : Below w.heap.size w wr
section
variable {w wr : World} {A0 A1 B0 B1 C0 C1 : Int}
theorem SB.alloc (h : SB w wr A0 A1 B0 B1 C0 C1) (o : Obj) : SB w (wr.alloc o) A0 A1 B0 B1 C0 C1 := ⟨h.a.alloc o, h.b.alloc o, h.c.alloc o, h.below.alloc h.below.size o⟩
theorem SB.drew (h : SB w wr A0 A1 B0 B1 C0 C1) : SB w wr.drew A0 A1 B0 B1 C0 C1 := ⟨h.a, h.b, h.c, h.below.drew⟩
theorem SB.put_a0 (h : SB w wr A0 A1 B0 B1 C0 C1) (v : Int) : SB w (wr.setCell ⟨w.heap.size, 0, none⟩ (.int .i64 v)) v A1 B0 B1 C0 C1 := ⟨h.a.put 0 (.int .i64 v), h.b.far (by simp only [ne_eq]; omega) _, h.c.far (by simp only [ne_eq]; omega) _, h.below.setCell (by dsimp only; omega) _⟩
theorem SB.put_a1 (h : SB w wr A0 A1 B0 B1 C0 C1) (v : Int) : SB w (wr.setCell ⟨w.heap.size, 1, none⟩ (.int .i64 v)) A0 v B0 B1 C0 C1 := ⟨h.a.put 1 (.int .i64 v), h.b.far (by simp only [ne_eq]; omega) _, h.c.far (by simp only [ne_eq]; omega) _, h.below.setCell (by dsimp only; omega) _⟩
theorem SB.put_b0 (h : SB w wr A0 A1 B0 B1 C0 C1) (v : Int) : SB w (wr.setCell ⟨w.heap.size + 1, 0, none⟩ (.int .i64 v)) A0 A1 v B1 C0 C1 := ⟨h.a.far (by simp only [ne_eq]; omega) _, h.b.put 0 (.int .i64 v), h.c.far (by simp only [ne_eq]; omega) _, h.below.setCell (by dsimp only; omega) _⟩
theorem SB.put_b1 (h : SB w wr A0 A1 B0 B1 C0 C1) (v : Int) : SB w (wr.setCell ⟨w.heap.size + 1, 1, none⟩ (.int .i64 v)) A0 A1 B0 v C0 C1 := ⟨h.a.far (by simp only [ne_eq]; omega) _, h.b.put 1 (.int .i64 v), h.c.far (by simp only [ne_eq]; omega) _, h.below.setCell (by dsimp only; omega) _⟩
theorem SB.put_c0 (h : SB w wr A0 A1 B0 B1 C0 C1) (v : Int) : SB w (wr.setCell ⟨w.heap.size + 2, 0, none⟩ (.int .i64 v)) A0 A1 B0 B1 v C1 := ⟨h.a.far (by simp only [ne_eq]; omega) _, h.b.far (by simp only [ne_eq]; omega) _, h.c.put 0 (.int .i64 v), h.below.setCell (by dsimp only; omega) _⟩
theorem SB.put_c1 (h : SB w wr A0 A1 B0 B1 C0 C1) (v : Int) : SB w (wr.setCell ⟨w.heap.size + 2, 1, none⟩ (.int .i64 v)) A0 A1 B0 B1 C0 v := ⟨h.a.far (by simp only [ne_eq]; omega) _, h.b.far (by simp only [ne_eq]; omega) _, h.c.put 1 (.int .i64 v), h.below.setCell (by dsimp only; omega) _⟩
end
theorem over_no (x0 x1 x2 x3 x4 x5 k0 k1 rate buf jit : Int) (R : Nat) (w : World) (hR : Blk w R 24 #[.int .i64 k0, .int .i64 k1, .int .i64 rate, .int .i64 buf, .int .i64 jit]) (h2 : 0 ≤ x2 ∧ x2 ≤ 100) (h3 : 0 ≤ x3 ∧ x3 ≤ 100) (hle : x2 + x3 ≤ rate) :
    Calls Try.prog 10 #[.agg #[.int .i64 x0, .int .i64 x1, .int .i64 x2, .int .i64 x3, .int .i64 x4, .int .i64 x5], .pointer (some ⟨R, 0, none⟩)] w fun e w' => e = .returned (.bool false) ∧ More w w' := by
  have hc : w.cell? ⟨R, 2, none⟩ = some (.int .i64 rate) := hR.cell 2
  have hl := hR.lt
  have g : decide (rate < x2 + x3) = false := by simp; omega
  go_enter Try.func10, Try.ntmps10
  go_wp2
  go_ret
  exact ⟨rfl, (by repeat (first | (with_reducible assumption) | (with_reducible exact More.refl _) | (with_reducible refine More.alloc ?_ _) | (with_reducible refine More.more ?_ _ _) | (with_reducible refine More.drewN ?_ _) | (with_reducible refine More.drew ?_)))⟩
set_option maxHeartbeats 400000 in
theorem oindex_no (k0 k1 rate buf jit : Int) (R : Nat) (a : Option Addr) (n c : Nat) (f : Nat → Nat → Int) (w : World) (hf : RowC w 6 a n f) (hR : Blk w R 24 #[.int .i64 k0, .int .i64 k1, .int .i64 rate, .int .i64 buf, .int .i64 jit]) (hn : n ≤ 1152921504606846976) (hb : ∀ k q, k < n → 0 ≤ f k q ∧ f k q ≤ 100) (hle : ∀ k, k < n → f k 2 + f k 3 ≤ rate) :
    Calls Try.prog 17 #[.slice a n c, .func (.func 10) #[] #[.pointer (some ⟨R, 0, none⟩)]] w fun e w' => e = .returned (.int .i64 (-1)) ∧ More w w' := by
  have HB := Lib.hid hb
  have HL := Lib.hid hle
  clear hb hle
  go_enter Try.func17, Try.ntmps17
  go_wp2
  go_loopw [8] (fun i wr => ∃ (k : Nat) (os : Array Obj) (d : Nat), i = .int .i64 k ∧ k ≤ n ∧ wr = w.more os d) (fun i _ => n - (intOf i).toNat)
  case atStart => exact ⟨0, #[], w.drawn, rfl, Nat.zero_le _, by simp [World.more]⟩
  case round =>
    obtain ⟨k, os, d, rfl, hk, rfl⟩ := hrel
    by_cases hlt : k < n
    · obtain ⟨b, off, x0, x1, x2, x3, x4, x5, rfl, hb, c0, c1, c2, c3, c4, c5, hx⟩ := (hf.more os d).at6 hlt
      have hHm := hR.more os d
      have b2 := HB.out k 2 hlt
      have b3 := HB.out k 3 hlt
      have bl := HL.out k hlt
      obtain ⟨hx0, hx1, hx2, hx3, hx4, hx5⟩ := hx.out
      rw [← hx2] at b2 bl
      rw [← hx3] at b3 bl
      clear hx0 hx1 hx2 hx3 hx4 hx5
      go_wp2_with fail
      refine (over_no x0 x1 x2 x3 x4 x5 k0 k1 rate buf jit R _ hHm b2 b3 bl).mono ?_
      rintro e w1 ⟨rfl, os1, d1, rfl⟩
      go_wp2_with fail
      go_roundw
      case rel => exact ⟨k + 1, os ++ os1, d1, by go_num, by omega, by simp [World.more]⟩
      case measure => simp [intOf]; omega
    · obtain rfl : k = n := by omega
      go_wp2
      go_ret
      exact ⟨rfl, (by repeat (first | (with_reducible assumption) | (with_reducible exact More.refl _) | (with_reducible refine More.alloc ?_ _) | (with_reducible refine More.more ?_ _ _) | (with_reducible refine More.drewN ?_ _) | (with_reducible refine More.drew ?_)))⟩
theorem ocontains_no (k0 k1 rate buf jit : Int) (R : Nat) (a : Option Addr) (n c : Nat) (f : Nat → Nat → Int) (w : World) (hf : RowC w 6 a n f) (hR : Blk w R 24 #[.int .i64 k0, .int .i64 k1, .int .i64 rate, .int .i64 buf, .int .i64 jit]) (hn : n ≤ 1152921504606846976) (hb : ∀ k q, k < n → 0 ≤ f k q ∧ f k q ≤ 100) (hle : ∀ k, k < n → f k 2 + f k 3 ≤ rate) :
    Calls Try.prog 9 #[.slice a n c, .func (.func 10) #[] #[.pointer (some ⟨R, 0, none⟩)]] w fun e w' => e = .returned (.bool false) ∧ More w w' := by
  have HB := Lib.hid hb
  have HL := Lib.hid hle
  clear hb hle
  go_enter Try.func9, Try.ntmps9
  go_wp2_with fail
  refine (oindex_no k0 k1 rate buf jit R a n c f _ hf hR hn HB.out HL.out).mono ?_
  rintro e w' ⟨rfl, os, d, rfl⟩
  go_wp2
  go_ret
  exact ⟨rfl, (by repeat (first | (with_reducible assumption) | (with_reducible exact More.refl _) | (with_reducible refine More.alloc ?_ _) | (with_reducible refine More.more ?_ _ _) | (with_reducible refine More.drewN ?_ _) | (with_reducible refine More.drew ?_)))⟩
set_option maxRecDepth 20000 in
set_option maxHeartbeats 4000000 in
theorem sums_any (a : Option Addr) (n c : Nat) (f : Nat → Nat → Int) (w : World) (hf : RowC w 6 a n f) (hn : n ≤ 1048576) (hb : ∀ k q, k < n → 0 ≤ f k q ∧ f k q ≤ 100) :
    Calls Try.prog 8 #[.slice a n c] w fun e w' => e = .returned (.tuple #[.agg #[.int .i64 (tot f 2 n), .int .i64 (tot f 3 n)], .agg #[.int .i64 (tot f 4 n), .int .i64 (tot f 5 n)], .agg #[.int .i64 (tot f 0 n), .int .i64 (tot f 1 n)]]) ∧ More w w' := by
  have HB := Lib.hid hb
  clear hb
  go_enter Try.func8, Try.ntmps8
  go_wp2_with fail
  have hI : Hid (SB w (((w.alloc (.cells #[.int .i64 0, .int .i64 0] 22)).alloc (.cells #[.int .i64 0, .int .i64 0] 22)).alloc (.cells #[.int .i64 0, .int .i64 0] 22)) 0 0 0 0 0 0) := ⟨(by repeat (first | (with_reducible assumption) | ((with_reducible refine Blk.new' ?_); (simp [Nat.add_assoc]; done)) | (with_reducible refine Blk.alloc ?_ _) | (with_reducible refine Blk.more ?_ _ _) | (with_reducible refine Blk.drew ?_) | (with_reducible refine Blk.drewN ?_ _))), (by repeat (first | (with_reducible assumption) | ((with_reducible refine Blk.new' ?_); (simp [Nat.add_assoc]; done)) | (with_reducible refine Blk.alloc ?_ _) | (with_reducible refine Blk.more ?_ _ _) | (with_reducible refine Blk.drew ?_) | (with_reducible refine Blk.drewN ?_ _))), (by repeat (first | (with_reducible assumption) | ((with_reducible refine Blk.new' ?_); (simp [Nat.add_assoc]; done)) | (with_reducible refine Blk.alloc ?_ _) | (with_reducible refine Blk.more ?_ _ _) | (with_reducible refine Blk.drew ?_) | (with_reducible refine Blk.drewN ?_ _))), More.below (by repeat (first | (with_reducible assumption) | (with_reducible exact More.refl _) | (with_reducible refine More.alloc ?_ _) | (with_reducible refine More.more ?_ _ _) | (with_reducible refine More.drewN ?_ _) | (with_reducible refine More.drew ?_)))⟩
  generalize (((w.alloc (.cells #[.int .i64 0, .int .i64 0] 22)).alloc (.cells #[.int .i64 0, .int .i64 0] 22)).alloc (.cells #[.int .i64 0, .int .i64 0] 22)) = w3 at *
  go_loopw [10] (fun i wr => ∃ k : Nat, i = .int .i64 k ∧ k ≤ n ∧ Hid (SB w wr (tot f 2 k) (tot f 3 k) (tot f 4 k) (tot f 5 k) (tot f 0 k) (tot f 1 k))) (fun i _ => n - (intOf i).toNat)
  case atStart => exact ⟨0, rfl, Nat.zero_le _, hI⟩
  case round =>
    obtain ⟨k, rfl, hk, hI⟩ := hrel
    have hs := hI.out.below.size
    by_cases hlt : k < n
    · obtain ⟨b, off, x0, x1, x2, x3, x4, x5, rfl, hb, c0, c1, c2, c3, c4, c5, hx⟩ := (hf.below hI.out.below (Nat.le_refl _)).at6 hlt
      go_wp2_with fail
      have hI2 : Hid (SB w (wr.alloc (.cells #[.int .i64 x0, .int .i64 x1, .int .i64 x2, .int .i64 x3, .int .i64 x4, .int .i64 x5] 42)) (tot f 2 k) (tot f 3 k) (tot f 4 k) (tot f 5 k) (tot f 0 k) (tot f 1 k)) := hI.out.alloc _
      have hE2 : Hid (Blk (wr.alloc (.cells #[.int .i64 x0, .int .i64 x1, .int .i64 x2, .int .i64 x3, .int .i64 x4, .int .i64 x5] 42)) wr.heap.size 42 #[.int .i64 x0, .int .i64 x1, .int .i64 x2, .int .i64 x3, .int .i64 x4, .int .i64 x5]) := Blk.new _ _ _
      have hne : w.heap.size + 2 < wr.heap.size := hI.out.c.lt
      clear hI c0 c1 c2 c3 c4 c5
      generalize wr.alloc (.cells #[.int .i64 x0, .int .i64 x1, .int .i64 x2, .int .i64 x3, .int .i64 x4, .int .i64 x5] 42) = w5 at *
      generalize wr.heap.size = E at *
      have bb : ∀ q, q < 6 → 0 ≤ tot f q k ∧ tot f q k ≤ 104857600 := fun q hq => by
        have := tot_bd (f := f) (q := q) k (fun t ht => HB.out t q (by omega))
        omega
      have bx : ∀ q, 0 ≤ f k q ∧ f k q ≤ 100 := fun q => HB.out k q hlt
      have d0 := bb 0 (by omega)
      have d1 := bb 1 (by omega)
      have d2 := bb 2 (by omega)
      have d3 := bb 3 (by omega)
      have d4 := bb 4 (by omega)
      have d5 := bb 5 (by omega)
      have e0 := bx 0
      have e1 := bx 1
      have e2 := bx 2
      have e3 := bx 3
      have e4 := bx 4
      have e5 := bx 5
      clear bb bx
      obtain ⟨hx0, hx1, hx2, hx3, hx4, hx5⟩ := hx.out
      rw [← hx0] at e0
      rw [← hx1] at e1
      rw [← hx2] at e2
      rw [← hx3] at e3
      rw [← hx4] at e4
      rw [← hx5] at e5
      have ht : Hid (∀ q, tot f q (k + 1) = tot f q k + f k q) := fun q => rfl
      clear hx0 hx1 hx2 hx3 hx4 hx5
      go_loopw [14] (fun i w2 => ∃ j : Nat, i = .int .i64 j ∧ j ≤ 2 ∧ Hid (SB w w2 (tot f 2 (if 0 < j then k + 1 else k)) (tot f 3 (if 1 < j then k + 1 else k)) (tot f 4 (if 0 < j then k + 1 else k)) (tot f 5 (if 1 < j then k + 1 else k)) (tot f 0 (if 0 < j then k + 1 else k)) (tot f 1 (if 1 < j then k + 1 else k))) ∧ Hid (Blk w2 E 42 #[.int .i64 x0, .int .i64 x1, .int .i64 x2, .int .i64 x3, .int .i64 x4, .int .i64 x5])) (fun i _ => 2 - (intOf i).toNat)
      case atStart => exact ⟨0, rfl, by omega, hI2, hE2⟩
      case round =>
        obtain ⟨j, rfl, hj, hJ, hF⟩ := hrel
        obtain rfl | rfl | rfl : j = 0 ∨ j = 1 ∨ j = 2 := by omega
        · have hI : SB w wr (tot f 2 k) (tot f 3 k) (tot f 4 k) (tot f 5 k) (tot f 0 k) (tot f 1 k) := hJ.out
          have hE := hF.out
          clear hJ hF hI2 hE2
          generalize wr = w2 at *
          go_wp2_with fail
          have c1 : w2.cell? ⟨w.heap.size, 0, none⟩ = some (.int .i64 (tot f 2 k)) := hI.a.cell 0
          have c2 : w2.frozen? ⟨w.heap.size, 0, none⟩ = false := hI.a.frozen 0
          have c3 : w2.cell? ⟨E, 2, none⟩ = some (.int .i64 x2) := hE.cell 2
          have c4 := hI.a.lt
          have c5 := hE.lt
          have c6 : IntKind.i64.wrap (tot f 2 k + x2) = tot f 2 k + x2 := IntWalk.i64_in _ (by omega)
          go_still_tail 8, (by kernel_rfl)
          change wpList _ _ _ _ _ w2.drew
          have hI' := hI.drew
          have hE' := hE.drew
          have c1' : w2.drew.cell? ⟨w.heap.size, 0, none⟩ = some (.int .i64 (tot f 2 k)) := c1
          have c2' : w2.drew.frozen? ⟨w.heap.size, 0, none⟩ = false := c2
          have c4' := hI'.a.lt
          have c5' := hE'.lt
          generalize w2.drew = w4 at *
          clear c1 c2 c3 c4 c5 c6
          clear hI hE
          go_wp2_with fail
          have hI := hI'.put_a0 (tot f 2 k + x2)
          have hE := hE'.far (p := ⟨w.heap.size, 0, none⟩) (by simp only [ne_eq]; omega) (.int .i64 (tot f 2 k + x2))
          clear hI' hE' c1' c2' c4' c5'
          generalize w4.setCell ⟨w.heap.size, 0, none⟩ (.int .i64 (tot f 2 k + x2)) = w2 at *
          go_wp2_with fail
          have c1 : w2.cell? ⟨w.heap.size + 1, 0, none⟩ = some (.int .i64 (tot f 4 k)) := hI.b.cell 0
          have c2 : w2.frozen? ⟨w.heap.size + 1, 0, none⟩ = false := hI.b.frozen 0
          have c3 : w2.cell? ⟨E, 4, none⟩ = some (.int .i64 x4) := hE.cell 4
          have c4 := hI.b.lt
          have c5 := hE.lt
          have c6 : IntKind.i64.wrap (tot f 4 k + x4) = tot f 4 k + x4 := IntWalk.i64_in _ (by omega)
          go_still_tail 8, (by kernel_rfl)
          change wpList _ _ _ _ _ w2.drew
          have hI' := hI.drew
          have hE' := hE.drew
          have c1' : w2.drew.cell? ⟨w.heap.size + 1, 0, none⟩ = some (.int .i64 (tot f 4 k)) := c1
          have c2' : w2.drew.frozen? ⟨w.heap.size + 1, 0, none⟩ = false := c2
          have c4' := hI'.b.lt
          have c5' := hE'.lt
          generalize w2.drew = w4 at *
          clear c1 c2 c3 c4 c5 c6
          clear hI hE
          go_wp2_with fail
          have hI := hI'.put_b0 (tot f 4 k + x4)
          have hE := hE'.far (p := ⟨w.heap.size + 1, 0, none⟩) (by simp only [ne_eq]; omega) (.int .i64 (tot f 4 k + x4))
          clear hI' hE' c1' c2' c4' c5'
          generalize w4.setCell ⟨w.heap.size + 1, 0, none⟩ (.int .i64 (tot f 4 k + x4)) = w2 at *
          go_wp2_with fail
          have c1 : w2.cell? ⟨w.heap.size + 2, 0, none⟩ = some (.int .i64 (tot f 0 k)) := hI.c.cell 0
          have c2 : w2.frozen? ⟨w.heap.size + 2, 0, none⟩ = false := hI.c.frozen 0
          have c3 : w2.cell? ⟨E, 0, none⟩ = some (.int .i64 x0) := hE.cell 0
          have c4 := hI.c.lt
          have c5 := hE.lt
          have c6 : IntKind.i64.wrap (tot f 0 k + x0) = tot f 0 k + x0 := IntWalk.i64_in _ (by omega)
          go_still_tail 8, (by kernel_rfl)
          change wpList _ _ _ _ _ w2.drew
          have hI' := hI.drew
          have hE' := hE.drew
          have c1' : w2.drew.cell? ⟨w.heap.size + 2, 0, none⟩ = some (.int .i64 (tot f 0 k)) := c1
          have c2' : w2.drew.frozen? ⟨w.heap.size + 2, 0, none⟩ = false := c2
          have c4' := hI'.c.lt
          have c5' := hE'.lt
          generalize w2.drew = w4 at *
          clear c1 c2 c3 c4 c5 c6
          clear hI hE
          go_wp2_with fail
          have hI := hI'.put_c0 (tot f 0 k + x0)
          have hE := hE'.far (p := ⟨w.heap.size + 2, 0, none⟩) (by simp only [ne_eq]; omega) (.int .i64 (tot f 0 k + x0))
          clear hI' hE' c1' c2' c4' c5'
          generalize w4.setCell ⟨w.heap.size + 2, 0, none⟩ (.int .i64 (tot f 0 k + x0)) = w2 at *
          go_roundw
          case rel =>
            refine ⟨1, by go_num, by omega, ?_, hE⟩
            show SB w w2 (tot f 2 (k + 1)) (tot f 3 k) (tot f 4 (k + 1)) (tot f 5 k) (tot f 0 (k + 1)) (tot f 1 k)
            rw [ht.out 2, ht.out 4, ht.out 0, ← hx.out.1, ← hx.out.2.2.1, ← hx.out.2.2.2.2.1]
            exact hI
          case measure => simp [intOf]
        · have hI : SB w wr (tot f 2 (k + 1)) (tot f 3 k) (tot f 4 (k + 1)) (tot f 5 k) (tot f 0 (k + 1)) (tot f 1 k) := hJ.out
          have hE := hF.out
          clear hJ hF hI2 hE2
          generalize wr = w2 at *
          go_wp2_with fail
          have c1 : w2.cell? ⟨w.heap.size, 1, none⟩ = some (.int .i64 (tot f 3 k)) := hI.a.cell 1
          have c2 : w2.frozen? ⟨w.heap.size, 1, none⟩ = false := hI.a.frozen 1
          have c3 : w2.cell? ⟨E, 3, none⟩ = some (.int .i64 x3) := hE.cell 3
          have c4 := hI.a.lt
          have c5 := hE.lt
          have c6 : IntKind.i64.wrap (tot f 3 k + x3) = tot f 3 k + x3 := IntWalk.i64_in _ (by omega)
          go_still_tail 8, (by kernel_rfl)
          change wpList _ _ _ _ _ w2.drew
          have hI' := hI.drew
          have hE' := hE.drew
          have c1' : w2.drew.cell? ⟨w.heap.size, 1, none⟩ = some (.int .i64 (tot f 3 k)) := c1
          have c2' : w2.drew.frozen? ⟨w.heap.size, 1, none⟩ = false := c2
          have c4' := hI'.a.lt
          have c5' := hE'.lt
          generalize w2.drew = w4 at *
          clear c1 c2 c3 c4 c5 c6
          clear hI hE
          go_wp2_with fail
          have hI := hI'.put_a1 (tot f 3 k + x3)
          have hE := hE'.far (p := ⟨w.heap.size, 1, none⟩) (by simp only [ne_eq]; omega) (.int .i64 (tot f 3 k + x3))
          clear hI' hE' c1' c2' c4' c5'
          generalize w4.setCell ⟨w.heap.size, 1, none⟩ (.int .i64 (tot f 3 k + x3)) = w2 at *
          go_wp2_with fail
          have c1 : w2.cell? ⟨w.heap.size + 1, 1, none⟩ = some (.int .i64 (tot f 5 k)) := hI.b.cell 1
          have c2 : w2.frozen? ⟨w.heap.size + 1, 1, none⟩ = false := hI.b.frozen 1
          have c3 : w2.cell? ⟨E, 5, none⟩ = some (.int .i64 x5) := hE.cell 5
          have c4 := hI.b.lt
          have c5 := hE.lt
          have c6 : IntKind.i64.wrap (tot f 5 k + x5) = tot f 5 k + x5 := IntWalk.i64_in _ (by omega)
          go_still_tail 8, (by kernel_rfl)
          change wpList _ _ _ _ _ w2.drew
          have hI' := hI.drew
          have hE' := hE.drew
          have c1' : w2.drew.cell? ⟨w.heap.size + 1, 1, none⟩ = some (.int .i64 (tot f 5 k)) := c1
          have c2' : w2.drew.frozen? ⟨w.heap.size + 1, 1, none⟩ = false := c2
          have c4' := hI'.b.lt
          have c5' := hE'.lt
          generalize w2.drew = w4 at *
          clear c1 c2 c3 c4 c5 c6
          clear hI hE
          go_wp2_with fail
          have hI := hI'.put_b1 (tot f 5 k + x5)
          have hE := hE'.far (p := ⟨w.heap.size + 1, 1, none⟩) (by simp only [ne_eq]; omega) (.int .i64 (tot f 5 k + x5))
          clear hI' hE' c1' c2' c4' c5'
          generalize w4.setCell ⟨w.heap.size + 1, 1, none⟩ (.int .i64 (tot f 5 k + x5)) = w2 at *
          go_wp2_with fail
          have c1 : w2.cell? ⟨w.heap.size + 2, 1, none⟩ = some (.int .i64 (tot f 1 k)) := hI.c.cell 1
          have c2 : w2.frozen? ⟨w.heap.size + 2, 1, none⟩ = false := hI.c.frozen 1
          have c3 : w2.cell? ⟨E, 1, none⟩ = some (.int .i64 x1) := hE.cell 1
          have c4 := hI.c.lt
          have c5 := hE.lt
          have c6 : IntKind.i64.wrap (tot f 1 k + x1) = tot f 1 k + x1 := IntWalk.i64_in _ (by omega)
          go_still_tail 8, (by kernel_rfl)
          change wpList _ _ _ _ _ w2.drew
          have hI' := hI.drew
          have hE' := hE.drew
          have c1' : w2.drew.cell? ⟨w.heap.size + 2, 1, none⟩ = some (.int .i64 (tot f 1 k)) := c1
          have c2' : w2.drew.frozen? ⟨w.heap.size + 2, 1, none⟩ = false := c2
          have c4' := hI'.c.lt
          have c5' := hE'.lt
          generalize w2.drew = w4 at *
          clear c1 c2 c3 c4 c5 c6
          clear hI hE
          go_wp2_with fail
          have hI := hI'.put_c1 (tot f 1 k + x1)
          have hE := hE'.far (p := ⟨w.heap.size + 2, 1, none⟩) (by simp only [ne_eq]; omega) (.int .i64 (tot f 1 k + x1))
          clear hI' hE' c1' c2' c4' c5'
          generalize w4.setCell ⟨w.heap.size + 2, 1, none⟩ (.int .i64 (tot f 1 k + x1)) = w2 at *
          go_roundw
          case rel =>
            refine ⟨2, by go_num, by omega, ?_, hE⟩
            show SB w w2 (tot f 2 (k + 1)) (tot f 3 (k + 1)) (tot f 4 (k + 1)) (tot f 5 (k + 1)) (tot f 0 (k + 1)) (tot f 1 (k + 1))
            rw [ht.out 3, ht.out 5, ht.out 1, ← hx.out.2.1, ← hx.out.2.2.2.1, ← hx.out.2.2.2.2.2]
            exact hI
          case measure => simp [intOf]
        · have hI : Hid (SB w wr (tot f 2 (k + 1)) (tot f 3 (k + 1)) (tot f 4 (k + 1)) (tot f 5 (k + 1)) (tot f 0 (k + 1)) (tot f 1 (k + 1))) := hJ.out
          clear hJ hF hI2 hE2
          go_wp2_with fail
          go_roundw
          case rel => exact ⟨k + 1, by go_num, by omega, hI⟩
          case measure => simp [intOf]; omega
    · obtain rfl : k = n := by omega
      have hJ := hI.out
      clear hI
      go_wp2_with fail
      have m0 : wr.cell? ⟨w.heap.size, 0, none⟩ = some (.int .i64 (tot f 2 k)) := hJ.a.cell 0
      have m1 : wr.frozen? ⟨w.heap.size, 0, none⟩ = false := hJ.a.frozen 0
      have m2 : wr.cell? ⟨w.heap.size, 1, none⟩ = some (.int .i64 (tot f 3 k)) := hJ.a.cell 1
      have m3 : wr.frozen? ⟨w.heap.size, 1, none⟩ = false := hJ.a.frozen 1
      have m4 : wr.cell? ⟨w.heap.size + 1, 0, none⟩ = some (.int .i64 (tot f 4 k)) := hJ.b.cell 0
      have m5 : wr.frozen? ⟨w.heap.size + 1, 0, none⟩ = false := hJ.b.frozen 0
      have m6 : wr.cell? ⟨w.heap.size + 1, 1, none⟩ = some (.int .i64 (tot f 5 k)) := hJ.b.cell 1
      have m7 : wr.frozen? ⟨w.heap.size + 1, 1, none⟩ = false := hJ.b.frozen 1
      have m8 : wr.cell? ⟨w.heap.size + 2, 0, none⟩ = some (.int .i64 (tot f 0 k)) := hJ.c.cell 0
      have m9 : wr.frozen? ⟨w.heap.size + 2, 0, none⟩ = false := hJ.c.frozen 0
      have m10 : wr.cell? ⟨w.heap.size + 2, 1, none⟩ = some (.int .i64 (tot f 1 k)) := hJ.c.cell 1
      have m11 : wr.frozen? ⟨w.heap.size + 2, 1, none⟩ = false := hJ.c.frozen 1
      have l1 := hJ.a.lt
      have l2 := hJ.b.lt
      have l3 := hJ.c.lt
      go_region
      simp only [hJ.a.put_same (i := 0) (v := .int .i64 (tot f 2 k)) rfl, hJ.a.put_same (i := 1) (v := .int .i64 (tot f 3 k)) rfl, hJ.b.put_same (i := 0) (v := .int .i64 (tot f 4 k)) rfl, hJ.b.put_same (i := 1) (v := .int .i64 (tot f 5 k)) rfl, hJ.c.put_same (i := 0) (v := .int .i64 (tot f 0 k)) rfl, hJ.c.put_same (i := 1) (v := .int .i64 (tot f 1 k)) rfl]
      go_wp2
      refine bodyPost_ret (v := .tuple #[.agg #[.int .i64 (tot f 2 k), .int .i64 (tot f 3 k)], .agg #[.int .i64 (tot f 4 k), .int .i64 (tot f 5 k)], .agg #[.int .i64 (tot f 0 k), .int .i64 (tot f 1 k)]]) ?_ rfl ?_
      · simp [results, Try.results8, go_sem, m0, m2, m4, m6, m8, m10]
      · exact ⟨rfl, (More.of_below hJ.below).drew⟩
end Go.Proofs.Ytnlglhfpcoicaab
