/- alive19: steady's code answers at one duel. Conditions: none. -/
import Derived.Test.YtehlgomjgmabeaaStGr2
import Derived.Test.YtehlgomjgmabeaaStLead
set_option linter.unusedVariables false
set_option linter.unusedSimpArgs false
namespace Go.Proofs.Ytehlgomjgmabeaa
open Go.RowKit Go.Shelf Go.Tide
set_option linter.unusedVariables false
set_option linter.unusedSimpArgs false
def aR : DRules := ⟨1, 3, 3, 4, 0⟩
def aFin : Option (Fnd DSt) → Bool
  | some s => decide (3 < s.l.length) && decide ((leadAt s 300 1).length = 1)
  | none => false
theorem a_fin : aFin (dFin aR 0) = true := by decide +kernel
theorem a_ok : aR.ok := by
  unfold DRules.ok aR dKind dNums
  decide
theorem a_some : ∃ s, dFin aR 0 = some s ∧ 3 < s.l.length ∧ (leadAt s 300 1).length = 1 := by
  have h := a_fin
  cases e : dFin aR 0 with
  | none => rw [e] at h; cases h
  | some s =>
    rw [e] at h
    simp only [aFin, Bool.and_eq_true, decide_eq_true_eq] at h
    exact ⟨s, rfl, h.1, h.2⟩
set_option maxRecDepth 20000 in
set_option maxHeartbeats 2000000 in
theorem steady_alive (w : World) : Calls Try.prog 16 #[] w fun e w' => e = .returned (.bool true) ∧ More w w' := by
  obtain ⟨s, hs, hs3, hs1⟩ := a_some
  have HS := Lib.hid hs
  clear hs
  go_enter Try.func16, Try.ntmps16
  go_wp2_with fail
  refine (states_any aR 0 rfl a_ok _).mono ?_
  rintro e w1 (⟨s1, a1, c1, hF1, rfl, _, hG1, os1, d1, rfl⟩ | ⟨hF1, _⟩)
  case inr => exact absurd (hF1.symm.trans HS.out) (by simp)
  obtain rfl : s1 = s := Option.some.inj (hF1.symm.trans HS.out)
  have hl3 := hG1.le
  clear hF1 hG1
  go_wp2_with fail
  refine (lead_any aR 0 rfl a_ok 1 _).mono ?_
  rintro e w2 ⟨hb2, ⟨s2, a2, c2, hF2, _, _, rfl, _⟩ | ⟨s2, hF2, h2, _⟩ | ⟨hF2, _⟩⟩
  case inr.inr => exact absurd (hF2.symm.trans HS.out) (by simp)
  case inr.inl =>
    obtain rfl : s2 = s1 := Option.some.inj (hF2.symm.trans HS.out)
    exact absurd h2 (by omega)
  obtain rfl : s2 = s1 := Option.some.inj (hF2.symm.trans HS.out)
  clear hF2
  rw [show (leadAt s2 300 (1 : Int).toNat).length = 1 from hs1]
  have hR1 : Blk (((w.alloc (.cells #[.int .i64 1, .int .i64 3, .int .i64 3, .int .i64 4, .int .i64 0] 24)).more os1 d1)) w.heap.size 24 #[.int .i64 1, .int .i64 3, .int .i64 3, .int .i64 4, .int .i64 0] := (by repeat (first | (with_reducible assumption) | ((with_reducible refine Blk.new' ?_); (simp [Nat.add_assoc]; done)) | (with_reducible refine Blk.alloc ?_ _) | (with_reducible refine Blk.more ?_ _ _) | (with_reducible refine Blk.drew ?_) | (with_reducible refine Blk.drewN ?_ _)))
  have hR2 := hR1.below hb2 hR1.lt
  have HM2 : Hid (Below w.heap.size w w2) := Below.trans (show Below w.heap.size w ((w.alloc (.cells #[.int .i64 1, .int .i64 3, .int .i64 3, .int .i64 4, .int .i64 0] 24)).more os1 d1) from (show More w ((w.alloc (.cells #[.int .i64 1, .int .i64 3, .int .i64 3, .int .i64 4, .int .i64 0] 24)).more os1 d1) from (by repeat (first | (with_reducible assumption) | (with_reducible exact More.refl _) | (with_reducible refine More.alloc ?_ _) | (with_reducible refine More.more ?_ _ _) | (with_reducible refine More.drewN ?_ _) | (with_reducible refine More.drew ?_)))).below) (hb2.mono (by simp; omega))
  have f0 : w2.cell? ⟨w.heap.size, 0, none⟩ = _ := hR2.cell 0
  have f1 : w2.cell? ⟨w.heap.size, 1, none⟩ = _ := hR2.cell 1
  have f2 : w2.cell? ⟨w.heap.size, 2, none⟩ = _ := hR2.cell 2
  have f3 : w2.cell? ⟨w.heap.size, 3, none⟩ = _ := hR2.cell 3
  have f4 : w2.cell? ⟨w.heap.size, 4, none⟩ = _ := hR2.cell 4
  have fl := hR2.lt
  clear hR1 hb2
  go_wp2_with fail
  refine (graph_any aR 0 rfl a_ok 0 2 (.inl rfl) ⟨by decide, by decide⟩ _).mono ?_
  rintro e w3 ⟨hb3, ⟨s3, E, a3, c3, hF3, _, hT, rfl, _⟩ | ⟨hF3, _⟩⟩
  case inr => exact absurd (hF3.symm.trans HS.out) (by simp)
  obtain rfl : s3 = s2 := Option.some.inj (hF3.symm.trans HS.out)
  have hE : E.length = s3.l.length := by have h := hT.1; simpa using h
  rw [hE]
  have HM3 : Hid (Below w.heap.size w w3) := HM2.out.trans (hb3.mono HM2.out.size)
  clear hF3 hT hb3 f0 f1 f2 f3 f4 hR2
  have t3 : (3 : Int) < (s3.l.length : Int) := by omega
  go_wp2
  go_ret
  exact ⟨rfl, (More.of_below HM3.out).trans (by repeat (first | (with_reducible assumption) | (with_reducible exact More.refl _) | (with_reducible refine More.alloc ?_ _) | (with_reducible refine More.more ?_ _ _) | (with_reducible refine More.drewN ?_ _) | (with_reducible refine More.drew ?_)))⟩
end Go.Proofs.Ytehlgomjgmabeaa
