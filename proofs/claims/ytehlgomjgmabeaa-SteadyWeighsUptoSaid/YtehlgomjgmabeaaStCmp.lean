/- Rows of states read; two states compared. Conditions: none. -/
import Derived.Test.YtehlgomjgmabeaaStPl
import Derived.Laws.Tables
import Derived.Laws.Rows
import Derived.Deep.MidRow
set_option linter.unusedVariables false
set_option linter.unusedSimpArgs false
namespace Go.Proofs.Ytehlgomjgmabeaa
open Go.RowKit Go.Shelf Go.Tide
set_option linter.unusedVariables false
set_option linter.unusedSimpArgs false
theorem row14 {w : World} {a : Option Addr} {n k : Nat} {s : Fnd DSt} {x : DSt} (h : RowC w 14 a n (stF s)) (hk : k < n) (hx : s.l[k]? = some x) : ∃ b off, a = some ⟨b, off, none⟩ ∧ b < w.heap.size ∧ w.cell? ⟨b, off + k * 14, none⟩ = some (.int .i64 x.a.c0) ∧ w.cell? ⟨b, off + (k * 14 + 1), none⟩ = some (.int .i64 x.a.c1) ∧ w.cell? ⟨b, off + (k * 14 + 2), none⟩ = some (.int .i64 x.a.c2) ∧ w.cell? ⟨b, off + (k * 14 + 3), none⟩ = some (.int .i64 x.a.c3) ∧ w.cell? ⟨b, off + (k * 14 + 4), none⟩ = some (.int .i64 x.a.c4) ∧ w.cell? ⟨b, off + (k * 14 + 5), none⟩ = some (.int .i64 x.a.c5) ∧ w.cell? ⟨b, off + (k * 14 + 6), none⟩ = some (.int .i64 x.b.c0) ∧ w.cell? ⟨b, off + (k * 14 + 7), none⟩ = some (.int .i64 x.b.c1) ∧ w.cell? ⟨b, off + (k * 14 + 8), none⟩ = some (.int .i64 x.b.c2) ∧ w.cell? ⟨b, off + (k * 14 + 9), none⟩ = some (.int .i64 x.b.c3) ∧ w.cell? ⟨b, off + (k * 14 + 10), none⟩ = some (.int .i64 x.b.c4) ∧ w.cell? ⟨b, off + (k * 14 + 11), none⟩ = some (.int .i64 x.b.c5) ∧ w.cell? ⟨b, off + (k * 14 + 12), none⟩ = some (.int .i64 x.w0) ∧ w.cell? ⟨b, off + (k * 14 + 13), none⟩ = some (.int .i64 x.w1) := by
  obtain ⟨b, off, rfl, hb, hc⟩ := h (by omega)
  have e : ∀ j, j < 14 → w.cell? ⟨b, off + (k * 14 + j), none⟩ = some (.int .i64 (dCell x j)) := fun j hj => by
    have h1 := hc k j hk hj
    simpa [stF, hx] using h1
  exact ⟨b, off, rfl, hb, e 0 (by omega), e 1 (by omega), e 2 (by omega), e 3 (by omega), e 4 (by omega), e 5 (by omega), e 6 (by omega), e 7 (by omega), e 8 (by omega), e 9 (by omega), e 10 (by omega), e 11 (by omega), e 12 (by omega), e 13 (by omega)⟩
theorem range14 {w : World} {a : Option Addr} {n k : Nat} {s : Fnd DSt} {x : DSt} (h : RowC w 14 a n (stF s)) (hk : k < n) (hx : s.l[k]? = some x) : ∃ b off, a = some ⟨b, off, none⟩ ∧ b < w.heap.size ∧ w.rangeAt b (off + k * 14) [.int .i64 x.a.c0, .int .i64 x.a.c1, .int .i64 x.a.c2, .int .i64 x.a.c3, .int .i64 x.a.c4, .int .i64 x.a.c5, .int .i64 x.b.c0, .int .i64 x.b.c1, .int .i64 x.b.c2, .int .i64 x.b.c3, .int .i64 x.b.c4, .int .i64 x.b.c5, .int .i64 x.w0, .int .i64 x.w1] := by
  obtain ⟨b, off, rfl, hb, hc⟩ := h (by omega)
  refine ⟨b, off, rfl, hb, fun j v hv => ?_⟩
  have hj : j < 14 := by have := (List.getElem?_eq_some_iff.1 hv).1; simpa using this
  have h1 := hc k j hk hj
  rw [Nat.add_assoc, h1]
  have h2 : stF s k j = dCell x j := by simp [stF, hx]
  rw [h2]
  have h3 : ([.int .i64 x.a.c0, .int .i64 x.a.c1, .int .i64 x.a.c2, .int .i64 x.a.c3, .int .i64 x.a.c4, .int .i64 x.a.c5, .int .i64 x.b.c0, .int .i64 x.b.c1, .int .i64 x.b.c2, .int .i64 x.b.c3, .int .i64 x.b.c4, .int .i64 x.b.c5, .int .i64 x.w0, .int .i64 x.w1] : List Value)[j]? = some (.int .i64 (dCell x j)) := by
    match j, hj with
    | 0, _ => rfl
    | 1, _ => rfl
    | 2, _ => rfl
    | 3, _ => rfl
    | 4, _ => rfl
    | 5, _ => rfl
    | 6, _ => rfl
    | 7, _ => rfl
    | 8, _ => rfl
    | 9, _ => rfl
    | 10, _ => rfl
    | 11, _ => rfl
    | 12, _ => rfl
    | 13, _ => rfl
  rw [h3] at hv
  exact hv
theorem cmp_state (x t : DSt) (hx : x.inI) (ht : t.inI) (w : World) : ∃ r : Bool, (Op.equalIn 10000 32 (.agg #[.int .i64 x.a.c0, .int .i64 x.a.c1, .int .i64 x.a.c2, .int .i64 x.a.c3, .int .i64 x.a.c4, .int .i64 x.a.c5, .int .i64 x.b.c0, .int .i64 x.b.c1, .int .i64 x.b.c2, .int .i64 x.b.c3, .int .i64 x.b.c4, .int .i64 x.b.c5, .int .i64 x.w0, .int .i64 x.w1]) (.agg #[.int .i64 t.a.c0, .int .i64 t.a.c1, .int .i64 t.a.c2, .int .i64 t.a.c3, .int .i64 t.a.c4, .int .i64 t.a.c5, .int .i64 t.b.c0, .int .i64 t.b.c1, .int .i64 t.b.c2, .int .i64 t.b.c3, .int .i64 t.b.c4, .int .i64 t.b.c5, .int .i64 t.w0, .int .i64 t.w1])).run Try.prog w = .ok r w ∧ r = decide (x = t) := by
  obtain ⟨r, h1, h2⟩ := equal_state x.a.c0 x.a.c1 x.a.c2 x.a.c3 x.a.c4 x.a.c5 x.b.c0 x.b.c1 x.b.c2 x.b.c3 x.b.c4 x.b.c5 x.w0 x.w1 t.a.c0 t.a.c1 t.a.c2 t.a.c3 t.a.c4 t.a.c5 t.b.c0 t.b.c1 t.b.c2 t.b.c3 t.b.c4 t.b.c5 t.w0 t.w1 hx.1.1 hx.1.2.1 hx.1.2.2.1 hx.1.2.2.2.1 hx.1.2.2.2.2.1 hx.1.2.2.2.2.2 hx.2.1.1 hx.2.1.2.1 hx.2.1.2.2.1 hx.2.1.2.2.2.1 hx.2.1.2.2.2.2.1 hx.2.1.2.2.2.2.2 hx.2.2.1 hx.2.2.2 ht.1.1 ht.1.2.1 ht.1.2.2.1 ht.1.2.2.2.1 ht.1.2.2.2.2.1 ht.1.2.2.2.2.2 ht.2.1.1 ht.2.1.2.1 ht.2.1.2.2.1 ht.2.1.2.2.2.1 ht.2.1.2.2.2.2.1 ht.2.1.2.2.2.2.2 ht.2.2.1 ht.2.2.2 w
  refine ⟨r, h1, ?_⟩
  have h3 : r = true ↔ x = t := by
    rw [h2]
    constructor
    · intro h
      simp only [List.cons.injEq, and_true] at h
      obtain ⟨e0, e1, e2, e3, e4, e5, e6, e7, e8, e9, e10, e11, e12, e13⟩ := h
      obtain ⟨⟨_, _, _, _, _, _⟩, ⟨_, _, _, _, _, _⟩, _, _⟩ := x
      obtain ⟨⟨_, _, _, _, _, _⟩, ⟨_, _, _, _, _, _⟩, _, _⟩ := t
      simp only at e0 e1 e2 e3 e4 e5 e6 e7 e8 e9 e10 e11 e12 e13
      subst e0 e1 e2 e3 e4 e5 e6 e7 e8 e9 e10 e11
      obtain rfl := Int.ofNat.inj e12
      obtain rfl := Int.ofNat.inj e13
      rfl
    · rintro rfl; rfl
  cases r with
  | true => exact (decide_eq_true (h3.1 rfl)).symm
  | false => exact (decide_eq_false fun e => absurd (h3.2 e) (by simp)).symm
end Go.Proofs.Ytehlgomjgmabeaa
