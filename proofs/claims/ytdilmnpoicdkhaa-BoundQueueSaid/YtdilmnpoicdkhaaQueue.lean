/- What queue.Right, Play and Delays answer, for every input. Conditions: lengths within the form's reach. -/
import Derived.Test.YtdilmnpoicdkhaaBdLaw
import Derived.Test.YtdilmnpoicdkhaaBucket
import Derived.Deep.RegionHeld3
set_option linter.unusedVariables false
set_option linter.unusedSimpArgs false
namespace Go
theorem grown_put (w : World) (g i : Nat) (v : Value) : w.grownBy (w.setCell ⟨g, i, none⟩ v) (some g) :=
  ⟨rfl, rfl, rfl, by simp, fun k _ hk => RowKit.Below.heap_setCell w ⟨g, i, none⟩ v k (fun e => hk (by subst e; rfl))⟩
end Go
namespace Go.Proofs.Ytdilmnpoicdkhaa
open Go.RowKit Go.Tide
set_option linter.unusedVariables false
set_option linter.unusedSimpArgs false

theorem qright_any (R M : Int) (a : Option Addr) (n c : Nat) (x : Nat → Int) (w : World) (hx : Row w a n x) (hn : n ≤ 1152921504606846976) :
    Calls Try.prog 41 #[.int .i64 R, .int .i64 M, .slice a n c] w fun e w' => e = .returned (.bool (bRight R M n x)) ∧ More w w' := by
  go_enter Try.func41, Try.ntmps41
  go_wp2_with fail
  refine (bright_any R M a n c x _ (by repeat (first | (with_reducible assumption) | (with_reducible exact Row.nil) | (with_reducible apply Row.drewN) | (with_reducible apply Row.drew) | (with_reducible apply Row.more) | (with_reducible apply Row.alloc))) hn).mono ?_
  rintro e w1 ⟨rfl, os, d, rfl⟩
  go_wp2
  go_ret
  exact ⟨rfl, (by repeat (first | (with_reducible exact More.refl _) | (with_reducible refine More.alloc ?_ _) | (with_reducible refine More.more ?_ _ _) | (with_reducible refine More.drewN ?_ _) | (with_reducible refine More.drew ?_)))⟩

set_option maxHeartbeats 400000 in
theorem tick_any (g : Nat) (R M W x : Int) (w : World) (hblk : Blk w g 59 #[.int .i64 R, .int .i64 M, .int .i64 W]) (hR : 0 ≤ R ∧ R ≤ 1099511627776) (hM : 0 ≤ M ∧ M ≤ 1099511627776) (hW : 0 ≤ W ∧ W ≤ M) (hx : 0 ≤ x ∧ x ≤ 1099511627776) :
    Calls Try.prog 60 #[.pointer (some ⟨g, 0, none⟩), .int .i64 x] w fun e w' => e = .returned (.tuple #[.int .i64 (min (W + x) R), .int .i64 (max (W + x - min (W + x) R - M) 0)]) ∧
      Blk w' g 59 #[.int .i64 R, .int .i64 M, .int .i64 (W + x - min (W + x) R - max (W + x - min (W + x) R - M) 0)] ∧ w.grownBy w' (some g) ∧ w'.heap.size = w.heap.size := by
  have c0 : w.cell? ⟨g, 0, none⟩ = some (.int .i64 R) := hblk.cell 0
  have c1 : w.cell? ⟨g, 1, none⟩ = some (.int .i64 M) := hblk.cell 1
  have c2 : w.cell? ⟨g, 2, none⟩ = some (.int .i64 W) := hblk.cell 2
  have z2 : w.frozen? ⟨g, 2, none⟩ = false := hblk.frozen 2
  have hlt := hblk.lt
  have kw : IntKind.i64.wrap (W + x) = W + x := IntWalk.i64_in _ (by omega)
  have hmn : (if R < W + x then R else W + x) = min (W + x) R := by omega
  obtain ⟨V, hV⟩ : ∃ V, Hid (min (W + x) R = V) := ⟨_, rfl⟩
  rw [hV.out] at hmn ⊢
  have hVb : 0 ≤ V ∧ V ≤ W + x := by have := hV.out; omega
  have kv : IntKind.i64.wrap (W + x - V) = W + x - V := IntWalk.i64_in _ (by omega)
  obtain ⟨L, hL⟩ : ∃ L, Hid (max (W + x - V - M) 0 = L) := ⟨_, rfl⟩
  rw [hL.out]
  have hLb : 0 ≤ L ∧ L ≤ W + x - V := by have := hL.out; omega
  have km : IntKind.i64.wrap (W + x - V - M) = W + x - V - M := IntWalk.i64_in _ (by omega)
  have kl : IntKind.i64.wrap (W + x - V - L) = W + x - V - L := IntWalk.i64_in _ (by omega)
  have hmx : (if W + x - V - M < 0 then 0 else W + x - V - M) = L := by have := hL.out; omega
  go_enter Try.func60, Try.ntmps60
  go_wp2
  have hb2 : Blk (w.setCell ⟨g, 2, none⟩ (.int .i64 (W + x))) g 59 #[.int .i64 R, .int .i64 M, .int .i64 (W + x)] := hblk.put 2 _
  have hg2 : w.grownBy (w.setCell ⟨g, 2, none⟩ (.int .i64 (W + x))) (some g) := grown_put w g 2 _
  have hs2 : (w.setCell ⟨g, 2, none⟩ (.int .i64 (W + x))).heap.size = w.heap.size := by simp
  generalize w.setCell ⟨g, 2, none⟩ (.int .i64 (W + x)) = wa at *
  have c0' : wa.cell? ⟨g, 0, none⟩ = some (.int .i64 R) := hb2.cell 0
  have c1' : wa.cell? ⟨g, 1, none⟩ = some (.int .i64 M) := hb2.cell 1
  have c2' : wa.cell? ⟨g, 2, none⟩ = some (.int .i64 (W + x)) := hb2.cell 2
  have z2' : wa.frozen? ⟨g, 2, none⟩ = false := hb2.frozen 2
  have hlt' := hb2.lt
  go_quiet (fail)
  go_wp2
  have hb3 : Blk (wa.setCell ⟨g, 2, none⟩ (.int .i64 (W + x - V))) g 59 #[.int .i64 R, .int .i64 M, .int .i64 (W + x - V)] := hb2.put 2 _
  have hg3 : w.grownBy (wa.setCell ⟨g, 2, none⟩ (.int .i64 (W + x - V))) (some g) := hg2.trans (grown_put wa g 2 _)
  have hs3 : (wa.setCell ⟨g, 2, none⟩ (.int .i64 (W + x - V))).heap.size = w.heap.size := by simp [hs2]
  clear c0 c1 c2 z2 c0' c1' c2' z2' hlt' hb2 hg2
  generalize wa.setCell ⟨g, 2, none⟩ (.int .i64 (W + x - V)) = wc at *
  have c0' : wc.cell? ⟨g, 0, none⟩ = some (.int .i64 R) := hb3.cell 0
  have c1' : wc.cell? ⟨g, 1, none⟩ = some (.int .i64 M) := hb3.cell 1
  have c2' : wc.cell? ⟨g, 2, none⟩ = some (.int .i64 (W + x - V)) := hb3.cell 2
  have z2' : wc.frozen? ⟨g, 2, none⟩ = false := hb3.frozen 2
  have hlt' := hb3.lt
  go_quiet (fail)
  go_wp2
  have hb4 : Blk (wc.setCell ⟨g, 2, none⟩ (.int .i64 (W + x - V - L))) g 59 #[.int .i64 R, .int .i64 M, .int .i64 (W + x - V - L)] := hb3.put 2 _
  have hg4 : w.grownBy (wc.setCell ⟨g, 2, none⟩ (.int .i64 (W + x - V - L))) (some g) := hg3.trans (grown_put wc g 2 _)
  have hs4 : (wc.setCell ⟨g, 2, none⟩ (.int .i64 (W + x - V - L))).heap.size = w.heap.size := by simp [hs3]
  generalize wc.setCell ⟨g, 2, none⟩ (.int .i64 (W + x - V - L)) = wd at *
  exact bodyPost_ret (v := .tuple #[.int .i64 V, .int .i64 L]) (by simp [results, Try.results60, go_sem]) rfl ⟨rfl, hb4, ⟨hg4.os, hg4.tape, hg4.output, hg4.size, hg4.block⟩, hs4⟩

end Go.Proofs.Ytdilmnpoicdkhaa
