/- What queue.Play answers, for every input. Conditions: lengths within the form's reach. -/
import Derived.Test.YtdilmnpoicdkhaaQueue
set_option linter.unusedVariables false
set_option linter.unusedSimpArgs false
namespace Go
theorem apart_symm {a b : Option Nat} (h : a = none ∨ a ≠ b) : b = none ∨ b ≠ a := by
  rcases h with h | h
  · subst h; cases b with
    | none => exact .inl rfl
    | some b => exact .inr (by simp)
  · exact .inr (fun e => h e.symm)
theorem apart_new {vi vj : Option Nat} {gi H G S : Nat} (ap : vi = none ∨ vi ≠ vj) (hat : vi = some gi ∨ gi = H) (nb : ∀ i, (i < G ∨ S ≤ i) → some i ≠ vj) (hS : S ≤ H) : some gi = none ∨ some gi ≠ vj := by
  right
  intro e
  rcases hat with h | h
  · rcases ap with h' | h'
    · rw [h'] at h; cases h
    · exact h' (h.trans e)
  · exact nb gi (.inr (by omega)) e
theorem gg_ne {v : Option Nat} {gi gj H : Nat} (n : some gi = none ∨ some gi ≠ v) (hat : v = some gj ∨ gj = H) (hlt : gi < H) : gi ≠ gj := by
  rintro rfl
  rcases hat with h | h
  · rcases n with n | n
    · cases n
    · exact n h.symm
  · omega
end Go
namespace Go.Proofs.Ytdilmnpoicdkhaa
open Go.RowKit Go.Tide
set_option linter.unusedVariables false
set_option linter.unusedSimpArgs false

theorem play_none (R M : Int) (a : Option Addr) (n c : Nat) (x : Nat → Int) (w : World) (hx : Row w a n x) (hn : n ≤ 1152921504606846976) (h : bRight R M n x = false) :
    Calls Try.prog 26 #[.int .i64 R, .int .i64 M, .slice a n c] w fun e w' => e = .returned (.tuple #[.slice none 0 0, .slice none 0 0, .slice none 0 0]) ∧ More w w' := by
  have E := Lib.hid h
  go_enter Try.func26, Try.ntmps26
  go_wp2_with fail
  refine (qright_any R M a n c x _ (by repeat (first | (with_reducible assumption) | (with_reducible exact Row.nil) | (with_reducible apply Row.drewN) | (with_reducible apply Row.drew) | (with_reducible apply Row.more) | (with_reducible apply Row.alloc))) hn).mono ?_
  rintro e w1 ⟨rfl, os, d, rfl⟩
  rw [E.out]
  go_wp2_with fail
  exact bodyPost_ret (v := .tuple #[.slice none 0 0, .slice none 0 0, .slice none 0 0]) (by simp [results, Try.results26, go_sem]) rfl ⟨rfl, (by repeat (first | (with_reducible exact More.refl _) | (with_reducible refine More.alloc ?_ _) | (with_reducible refine More.more ?_ _ _) | (with_reducible refine More.drewN ?_ _) | (with_reducible refine More.drew ?_)))⟩

set_option maxHeartbeats 1000000 in
theorem play_any (R M : Int) (a : Option Addr) (n c : Nat) (x : Nat → Int) (w : World) (hx : Row w a n x) (h : BRight R M n x) :
    Calls Try.prog 26 #[.int .i64 R, .int .i64 M, .slice a n c] w fun e w' => ∃ a1 c1 a2 c2 a3 c3, e = .returned (.tuple #[.slice a1 n c1, .slice a2 n c2, .slice a3 n c3]) ∧ (n ≤ c1 ∧ n ≤ c2 ∧ n ≤ c3) ∧
      (Row w' a1 n (quWent R M x) ∧ Row w' a2 n (quLost R M x) ∧ Row w' a3 n (fun k => quWait R M x (k + 1))) ∧ Below w.heap.size w w' := by
  have E := Lib.hid (bRight_iff.2 h)
  obtain ⟨hR, hM, hn, hall⟩ := h
  have HA := Lib.hid hall
  clear hall
  obtain ⟨i0, hi, hz0, hz1, hz2⟩ := info_parts intInfo
  go_enter Try.func26, Try.ntmps26
  go_wp2_with fail
  refine (qright_any R M a n c x _ (by repeat (first | (with_reducible assumption) | (with_reducible exact Row.nil) | (with_reducible apply Row.drewN) | (with_reducible apply Row.drew) | (with_reducible apply Row.more) | (with_reducible apply Row.alloc))) (by omega)).mono ?_
  rintro e w1 ⟨rfl, os, d, rfl⟩
  rw [E.out]
  go_wp2_with fail
  have hmW : More w ((w.more os d).alloc (.cells #[.int .i64 R, .int .i64 M, .int .i64 0] 59)) := (by repeat (first | (with_reducible exact More.refl _) | (with_reducible refine More.alloc ?_ _) | (with_reducible refine More.more ?_ _ _) | (with_reducible refine More.drewN ?_ _) | (with_reducible refine More.drew ?_)))
  have hbW : Blk ((w.more os d).alloc (.cells #[.int .i64 R, .int .i64 M, .int .i64 0] 59)) (w.heap.size + os.size) 59 #[.int .i64 R, .int .i64 M, .int .i64 0] := (by repeat (first | (with_reducible assumption) | ((with_reducible refine Blk.new' ?_); (simp [Nat.add_assoc]; done)) | (with_reducible refine Blk.alloc ?_ _) | (with_reducible refine Blk.more ?_ _ _) | (with_reducible refine Blk.drew ?_) | (with_reducible refine Blk.drewN ?_ _)))
  have hsW : ((w.more os d).alloc (.cells #[.int .i64 R, .int .i64 M, .int .i64 0] 59)).heap.size = w.heap.size + os.size + 1 := by simp
  have hgW : w.heap.size ≤ w.heap.size + os.size := by omega
  have hbelW := hmW.below
  clear hmW
  generalize ((w.more os d).alloc (.cells #[.int .i64 R, .int .i64 M, .int .i64 0] 59)) = wq at *
  generalize w.heap.size + os.size = g at *
  have hbW' : Blk wq g 59 #[.int .i64 R, .int .i64 M, .int .i64 (quWait R M x 0)] := hbW
  go_loopw [6, 7, 8, 25] (fun u6 u7 u8 i wr => ∃ k : Nat, i = .int .i64 k ∧ k ≤ n ∧ (wr.ownsRow (g + 1) 3 1 u6 k (cellsOf k (quWent R M x)) ∧ wr.ownsRow (g + 1) 3 1 u7 k (cellsOf k (quLost R M x)) ∧ wr.ownsRow (g + 1) 3 1 u8 k (cellsOf k (fun k => quWait R M x (k + 1)))) ∧
    ((u6.ownBlock = none ∨ u6.ownBlock ≠ u7.ownBlock) ∧ (u6.ownBlock = none ∨ u6.ownBlock ≠ u8.ownBlock) ∧ (u7.ownBlock = none ∨ u7.ownBlock ≠ u8.ownBlock)) ∧ Blk wr g 59 #[.int .i64 R, .int .i64 M, .int .i64 (quWait R M x k)] ∧ Below w.heap.size w wr) (fun _ _ _ i _ => n - (intOf i).toNat)
  case atStart => exact ⟨0, rfl, Nat.zero_le _, ⟨World.ownsRow_nil _ _ _ _, World.ownsRow_nil _ _ _ _, World.ownsRow_nil _ _ _ _⟩, ⟨.inl rfl, .inl rfl, .inl rfl⟩, hbW', hbelW⟩
  case round =>

    obtain ⟨k, rfl, hk, ⟨hw1, hw2, hw3⟩, ⟨ap12, ap13, ap23⟩, hblk, hbe⟩ := hrel
    by_cases hlt : k < n
    · obtain ⟨b1, off1, xv, rfl, hb1, hcx, hxv⟩ := (hx.below hbe (Nat.le_refl _)).at_ hlt
      have hx0 : 0 ≤ xv ∧ xv ≤ 1099511627776 := by rw [hxv.out]; exact HA.out k hlt
      have hst := qu_state hR.1 hM.1 (n := n) (x := x) (fun k hk => (HA.out k hk).1) k hk
      have T := tick_any g R M (quWait R M x k) xv wr hblk hR hM hst hx0
      have t1 : min (quWait R M x k + xv) R = quWent R M x k := by rw [hxv.out]; rfl
      rw [t1] at T
      have t2 : max (quWait R M x k + xv - quWent R M x k - M) 0 = quLost R M x k := by rw [hxv.out]; rfl
      rw [t2] at T
      have t3 : quWait R M x k + xv - quWent R M x k - quLost R M x k = quWait R M x (k + 1) := by rw [hxv.out, qu_succ]
      rw [t3] at T
      clear t1 t2 t3
      have c1 := cellsOf_succ k (quWent R M x)
      have c2 := cellsOf_succ k (quLost R M x)
      have c3 := cellsOf_succ k (fun k => quWait R M x (k + 1))
      have C1 := Lib.hid c1
      have C2 := Lib.hid c2
      have C3 := Lib.hid c3
      clear c1 c2 c3
      generalize quWent R M x k = V at *
      generalize quLost R M x k = L at *
      obtain ⟨W, HW⟩ : ∃ W, Hid (quWait R M x (k + 1) = W) := ⟨_, rfl⟩
      rw [HW.out] at T C3
      go_wp2_with (refine T.mono ?_; clear T; rintro e w2 ⟨rfl, hb2, hg2, hs2⟩)
      have l1 := hw1.lt
      have l2 := hw2.lt
      have l3 := hw3.lt
      have sep : ∀ (v : Value), (∀ k, v.ownBlock = some k → g + 1 ≤ k ∧ k < wr.heap.size) → v.ownBlock = none ∨ v.ownBlock ≠ some g := fun v h => .inr (fun e => by have := h g e; omega)
      have hw1 : w2.ownsRow (g + 1) 3 1 u6 k _ := hw1.kept hg2 (sep _ l1)
      have hw2 : w2.ownsRow (g + 1) 3 1 u7 k _ := hw2.kept hg2 (sep _ l2)
      have hw3 : w2.ownsRow (g + 1) 3 1 u8 k _ := hw3.kept hg2 (sep _ l3)
      have hbe2 : Below w.heap.size w w2 := hbe.trans ⟨hg2.os, hg2.tape, hg2.output, hg2.size, fun j hj => hg2.block j (by have := hbe.size; omega) (fun e => by injection e with e; omega)⟩
      have ap21 : u7.ownBlock = none ∨ u7.ownBlock ≠ u6.ownBlock := apart_symm ap12
      have ap31 : u8.ownBlock = none ∨ u8.ownBlock ≠ u6.ownBlock := apart_symm ap13
      have ap32 : u8.ownBlock = none ∨ u8.ownBlock ≠ u7.ownBlock := apart_symm ap23
      rw [← hs2] at l1 l2 l3
      have hgl := hb2.lt
      have nb1 : ∀ i, (i < g + 1 ∨ w2.heap.size ≤ i) → some i ≠ u6.ownBlock := fun i hi' e => by have := l1 i e.symm; omega
      have nb2 : ∀ i, (i < g + 1 ∨ w2.heap.size ≤ i) → some i ≠ u7.ownBlock := fun i hi' e => by have := l2 i e.symm; omega
      have nb3 : ∀ i, (i < g + 1 ∨ w2.heap.size ≤ i) → some i ≠ u8.ownBlock := fun i hi' e => by have := l3 i e.symm; omega
      have lb1 : ∀ i, u6.ownBlock = some i → w.heap.size ≤ i := fun i e => by have := l1 i e; omega
      have lb2 : ∀ i, u7.ownBlock = some i → w.heap.size ≤ i := fun i e => by have := l2 i e; omega
      have lb3 : ∀ i, u8.ownBlock = some i → w.heap.size ≤ i := fun i e => by have := l3 i e; omega
      clear hblk hbe hcx sep l1 l2 l3 hs2 hg2 hst
      go_region_held3 (fun w' => w'.cell? ⟨g, 2, none⟩ = some (.int .i64 W)) (exact Blk.cell (t := 59) (cs := #[.int .i64 R, .int .i64 M, .int .i64 W]) (by repeat (first | (with_reducible assumption) | ((with_reducible refine Blk.new' ?_); (simp [Nat.add_assoc]; done)) | (with_reducible refine Blk.alloc ?_ _) | (with_reducible refine Blk.drew ?_) | (with_reducible refine Blk.drewN ?_ _) | (refine Blk.grown ?_ (by assumption) (by first | exact nb1 _ (by first | (left; omega) | (right; (try simp only [World.size_alloc, World.size_drew]); omega)) | exact nb2 _ (by first | (left; omega) | (right; (try simp only [World.size_alloc, World.size_drew]); omega)) | exact nb3 _ (by first | (left; omega) | (right; (try simp only [World.size_alloc, World.size_drew]); omega)))))) 2) (first
        | (refine step_append_lies _ (by rfl) _ _ _ (by rfl) (g + 1) 3 i0 _ 1 8 Try.underlying22 hi hz0 hz1 hz2 rfl (by omega) u6 k (cellsOf k (quWent R M x)) (by rfl) (by repeat (first | (with_reducible assumption) | (with_reducible refine World.ownsRow.alloc ?_ _) | (with_reducible refine World.ownsRow.drew ?_) | (with_reducible refine own_drewN ?_ _) | (refine World.ownsRow.kept ?_ (by assumption) (by assumption)))) _ 1 1 [.int .i64 V] (by rfl) (by rfl) (World.news_of_block (cs := #[.int .i64 V]) (t := 3) (fr := (0, 0)) (by show Blk _ _ 3 #[.int .i64 V]; exact (by repeat (first | (with_reducible assumption) | ((with_reducible refine Blk.new' ?_); (simp [Nat.add_assoc]; done)) | (with_reducible refine Blk.alloc ?_ _) | (with_reducible refine Blk.drew ?_) | (with_reducible refine Blk.drewN ?_ _) | (refine Blk.grown ?_ (by assumption) (by first | exact nb1 _ (by first | (left; omega) | (right; (try simp only [World.size_alloc, World.size_drew]); omega)) | exact nb2 _ (by first | (left; omega) | (right; (try simp only [World.size_alloc, World.size_drew]); omega)) | exact nb3 _ (by first | (left; omega) | (right; (try simp only [World.size_alloc, World.size_drew]); omega)))))))) (by simp [Value.oneCell']) (by omega) (by simp only [maxLen]; omega) (by omega) (by (try simp only [World.size_alloc, World.size_drew]); omega) _ rfl ?_; intro gg1 cap1 wA1 hown1 hgrow1 hat1 hlt1; have hsz1 := hgrow1.size; (try simp only [World.size_alloc, World.size_drew] at hsz1); (try simp only [World.size_alloc, World.size_drew] at hat1); have n12 : (Value.slice (some ⟨gg1, 0, none⟩) (k + 1) cap1).ownBlock = none ∨ (Value.slice (some ⟨gg1, 0, none⟩) (k + 1) cap1).ownBlock ≠ u7.ownBlock := apart_new ap12 hat1 nb2 (by omega); have n13 : (Value.slice (some ⟨gg1, 0, none⟩) (k + 1) cap1).ownBlock = none ∨ (Value.slice (some ⟨gg1, 0, none⟩) (k + 1) cap1).ownBlock ≠ u8.ownBlock := apart_new ap13 hat1 nb3 (by omega))
        | (refine step_append_lies _ (by rfl) _ _ _ (by rfl) (g + 1) 3 i0 _ 1 8 Try.underlying22 hi hz0 hz1 hz2 rfl (by omega) u7 k (cellsOf k (quLost R M x)) (by rfl) (by repeat (first | (with_reducible assumption) | (with_reducible refine World.ownsRow.alloc ?_ _) | (with_reducible refine World.ownsRow.drew ?_) | (with_reducible refine own_drewN ?_ _) | (refine World.ownsRow.kept ?_ (by assumption) (by assumption)))) _ 1 1 [.int .i64 L] (by rfl) (by rfl) (World.news_of_block (cs := #[.int .i64 L]) (t := 3) (fr := (0, 0)) (by show Blk _ _ 3 #[.int .i64 L]; exact (by repeat (first | (with_reducible assumption) | ((with_reducible refine Blk.new' ?_); (simp [Nat.add_assoc]; done)) | (with_reducible refine Blk.alloc ?_ _) | (with_reducible refine Blk.drew ?_) | (with_reducible refine Blk.drewN ?_ _) | (refine Blk.grown ?_ (by assumption) (by first | exact nb1 _ (by first | (left; omega) | (right; (try simp only [World.size_alloc, World.size_drew]); omega)) | exact nb2 _ (by first | (left; omega) | (right; (try simp only [World.size_alloc, World.size_drew]); omega)) | exact nb3 _ (by first | (left; omega) | (right; (try simp only [World.size_alloc, World.size_drew]); omega)))))))) (by simp [Value.oneCell']) (by omega) (by simp only [maxLen]; omega) (by omega) (by (try simp only [World.size_alloc, World.size_drew]); omega) _ rfl ?_; intro gg2 cap2 wA2 hown2 hgrow2 hat2 hlt2; have hsz2 := hgrow2.size; (try simp only [World.size_alloc, World.size_drew] at hsz2); (try simp only [World.size_alloc, World.size_drew] at hat2); have n23 : (Value.slice (some ⟨gg2, 0, none⟩) (k + 1) cap2).ownBlock = none ∨ (Value.slice (some ⟨gg2, 0, none⟩) (k + 1) cap2).ownBlock ≠ u8.ownBlock := apart_new ap23 hat2 nb3 (by omega); have m12 : gg1 ≠ gg2 := gg_ne n12 hat2 (by omega))
        | (refine step_append_lies _ (by rfl) _ _ _ (by rfl) (g + 1) 3 i0 _ 1 8 Try.underlying22 hi hz0 hz1 hz2 rfl (by omega) u8 k (cellsOf k (fun k => quWait R M x (k + 1))) (by rfl) (by repeat (first | (with_reducible assumption) | (with_reducible refine World.ownsRow.alloc ?_ _) | (with_reducible refine World.ownsRow.drew ?_) | (with_reducible refine own_drewN ?_ _) | (refine World.ownsRow.kept ?_ (by assumption) (by assumption)))) _ 1 1 [.int .i64 W] (by rfl) (by rfl) (World.news_of_block (cs := #[.int .i64 W]) (t := 3) (fr := (0, 0)) (by show Blk _ _ 3 #[.int .i64 W]; exact (by repeat (first | (with_reducible assumption) | ((with_reducible refine Blk.new' ?_); (simp [Nat.add_assoc]; done)) | (with_reducible refine Blk.alloc ?_ _) | (with_reducible refine Blk.drew ?_) | (with_reducible refine Blk.drewN ?_ _) | (refine Blk.grown ?_ (by assumption) (by first | exact nb1 _ (by first | (left; omega) | (right; (try simp only [World.size_alloc, World.size_drew]); omega)) | exact nb2 _ (by first | (left; omega) | (right; (try simp only [World.size_alloc, World.size_drew]); omega)) | exact nb3 _ (by first | (left; omega) | (right; (try simp only [World.size_alloc, World.size_drew]); omega)))))))) (by simp [Value.oneCell']) (by omega) (by simp only [maxLen]; omega) (by omega) (by (try simp only [World.size_alloc, World.size_drew]); omega) _ rfl ?_; intro gg3 cap3 wA3 hown3 hgrow3 hat3 hlt3; have hsz3 := hgrow3.size; (try simp only [World.size_alloc, World.size_drew] at hsz3); (try simp only [World.size_alloc, World.size_drew] at hat3); have m13 : gg1 ≠ gg3 := gg_ne n13 hat3 (by omega); have m23 : gg2 ≠ gg3 := gg_ne n23 hat3 (by omega)))
      -- end of the region
      all_goals
        have r1 : wA3.ownsRow (g + 1) 3 1 (.slice (some ⟨gg1, 0, none⟩) (k + 1) cap1) (k + 1) (cellsOf (k + 1) (quWent R M x)) := by rw [C1.out]; exact (by repeat (first | (with_reducible assumption) | (with_reducible refine World.ownsRow.alloc ?_ _) | (with_reducible refine World.ownsRow.drew ?_) | (with_reducible refine own_drewN ?_ _) | (refine World.ownsRow.kept ?_ (by assumption) (by assumption))))
        have r2 : wA3.ownsRow (g + 1) 3 1 (.slice (some ⟨gg2, 0, none⟩) (k + 1) cap2) (k + 1) (cellsOf (k + 1) (quLost R M x)) := by rw [C2.out]; exact (by repeat (first | (with_reducible assumption) | (with_reducible refine World.ownsRow.alloc ?_ _) | (with_reducible refine World.ownsRow.drew ?_) | (with_reducible refine own_drewN ?_ _) | (refine World.ownsRow.kept ?_ (by assumption) (by assumption))))
        have r3 : wA3.ownsRow (g + 1) 3 1 (.slice (some ⟨gg3, 0, none⟩) (k + 1) cap3) (k + 1) (cellsOf (k + 1) (fun k => quWait R M x (k + 1))) := by rw [C3.out]; exact hown3
        have r4 : Blk wA3 g 59 #[.int .i64 R, .int .i64 M, .int .i64 W] := (by repeat (first | (with_reducible assumption) | ((with_reducible refine Blk.new' ?_); (simp [Nat.add_assoc]; done)) | (with_reducible refine Blk.alloc ?_ _) | (with_reducible refine Blk.drew ?_) | (with_reducible refine Blk.drewN ?_ _) | (refine Blk.grown ?_ (by assumption) (by first | exact nb1 _ (by first | (left; omega) | (right; (try simp only [World.size_alloc, World.size_drew]); omega)) | exact nb2 _ (by first | (left; omega) | (right; (try simp only [World.size_alloc, World.size_drew]); omega)) | exact nb3 _ (by first | (left; omega) | (right; (try simp only [World.size_alloc, World.size_drew]); omega))))))
        have r5 : Below w.heap.size w wA3 := (by repeat (first | (with_reducible assumption) | (with_reducible refine Below.alloc ?_ (by (try simp only [World.size_alloc, World.size_drew]); omega) _) | (with_reducible refine Below.drew ?_) | (refine Below.grown ?_ (by assumption) (by (try simp only [World.size_alloc, World.size_drew]); omega) (by first | exact lb1 | exact lb2 | exact lb3))))
        clear hw1 hw2 hw3 hown1 hown2 hown3 hgrow1 hgrow2 hgrow3
        go_wp2
        go_roundw
        case rel =>
          refine ⟨k + 1, by go_num, by omega, ⟨r1, r2, r3⟩, ⟨.inr (fun e => m12 (Option.some.inj e)), .inr (fun e => m13 (Option.some.inj e)), .inr (fun e => m23 (Option.some.inj e))⟩, ?_, r5⟩
          rw [← HW.out] at r4
          exact r4
        case measure => simp [intOf]; omega
    · obtain rfl : k = n := by omega
      obtain ⟨a1, c1, rfl, hc1⟩ := own_slice hw1
      obtain ⟨a2, c2, rfl, hc2⟩ := own_slice hw2
      obtain ⟨a3, c3, rfl, hc3⟩ := own_slice hw3
      go_wp2
      exact bodyPost_ret (v := .tuple #[.slice a1 k c1, .slice a2 k c2, .slice a3 k c3]) (by simp [results, Try.results26, go_sem]) rfl ⟨a1, c1, a2, c2, a3, c3, rfl, ⟨hc1, hc2, hc3⟩, ⟨Row.of_own hw1, Row.of_own hw2, Row.of_own hw3⟩, hbe⟩
end Go.Proofs.Ytdilmnpoicdkhaa
