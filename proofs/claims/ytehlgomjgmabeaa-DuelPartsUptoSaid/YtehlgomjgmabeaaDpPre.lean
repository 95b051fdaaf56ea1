/- DuelParts: what both need. Conditions: none. -/
import Derived.Test.YtehlgomjgmabeaaDpCat
import Derived.Test.YtehlgomjgmabeaaDpEq
import Derived.Test.YtehlgomjgmabeaaDuelA
import Derived.Test.YtehlgomjgmabeaaIsFlat
set_option linter.unusedVariables false
set_option linter.unusedSimpArgs false
namespace Go.Proofs.Ytehlgomjgmabeaa
open Go.RowKit Go.Shelf Go.Tide
set_option linter.unusedVariables false
set_option linter.unusedSimpArgs false
theorem own_below {w w' : World} {base size n : Nat} {e : TypeId} {v : Value} {xs : List Value} (h : w.ownsRow base e size v n xs) (hb : Below w.heap.size w w') : w'.ownsRow base e size v n xs := by
  obtain ⟨os, d, e⟩ := More.of_below hb
  rw [e]
  exact own_more h os d
theorem wp_eql {P : Program} {o : Oper} {a : Act} {w : World} {K : Act → World → Prop} {Q : Exit → Act → World → Prop} (ty ty2 : TypeId) (x y : Operand) (ho : o.op = .binOp .eql ty x y ty2) (cs ds : Array Value) (hx : a.eval x = .agg cs) (hy : a.eval y = .agg ds) (hg : P.eqGuardType P.depth ty = false)
    (r : Bool) (hE : (Op.equal ty (.agg cs) (.agg ds)).run P w = .ok r w) (h : K (a.put o.dst (.bool r)) w) : o.wp P a w K Q := by
  simp only [Oper.wp, run_eql ty ty2 x y ho cs ds hx hy hg r hE, Oper.upon]
  first | exact h | exact .inl h
theorem rowC_off {X : Nat → Prop} {w w' : World} {C : Nat} {a : Option Addr} {n : Nat} {f : Nat → Nat → Int} (h : RowC w C a n f) (hb : Off X w w') (hX : ∀ p : Addr, a = some p → ¬ X p.block) : RowC w' C a n f := by
  intro h0
  obtain ⟨b, off, rfl, hl, hc⟩ := h h0
  refine ⟨b, off, rfl, by have := hb.size; omega, fun k j hk hj => ?_⟩
  rw [← hc k j hk hj]
  exact World.cell?_of_block (a := ⟨b, off + (k * C + j), none⟩) (hb.block b hl (hX _ rfl))
/-- Play by right rules, whatever is late. -/
theorem play_all (r : DRules) (a : Option Addr) (n c : Nat) (f : Nat → Nat → Int) (w : World) (hf : RowC w 2 a n f) (hn : n ≤ 1048576) (hr : r.ok) :
    Calls Try.prog 12 #[.agg #[.int .i64 r.k0, .int .i64 r.k1, .int .i64 r.rate, .int .i64 r.buf, .int .i64 r.jit], .slice a n c] w fun e w' => ∃ (ao : Option Addr) (no co : Nat) (t : DSt) (er : Int),
      e = .returned (.tuple #[.slice ao no co, .agg (stL t).toArray, .int .i64 er]) ∧ Hid ((dAll r f n ∧ er = 0 ∧ no = n ∧ t = dRun r f n ∧ w'.ownsRow w.heap.size 38 6 (.slice ao n co) n (cellsC 6 n (dRows r f))) ∨ (¬ dAll r f n ∧ er = 2)) ∧ Below w.heap.size w w' := by
  by_cases hA : dAll r f n
  · refine (play_ok r a n c f w hf hn hr hA).mono ?_
    rintro e w' ⟨ao, co, he, hown, hb⟩
    exact ⟨ao, n, co, dRun r f n, 0, he, .inl ⟨hA, rfl, rfl, rfl, hown⟩, hb⟩
  · refine (play_any r a n c f w hf hn hr hA).mono ?_
    rintro e w' ⟨he, hm⟩
    exact ⟨none, 0, 0, ⟨⟨0, 0, 0, 0, 0, 0⟩, ⟨0, 0, 0, 0, 0, 0⟩, 0, 0⟩, 2, he, .inr ⟨hA, rfl⟩, hm.below⟩
/-- Two rows of draws behind one another. -/
def catF (n : Nat) (f g : Nat → Nat → Int) (k j : Nat) : Int := if k < n then f k j else g (k - n) j
theorem cat_l {n : Nat} {f g : Nat → Nat → Int} {k j : Nat} (h : k < n) : catF n f g k j = f k j := if_pos h
theorem cat_r {n : Nat} {f g : Nat → Nat → Int} {k j : Nat} : catF n f g (n + k) j = g k j := by
  unfold catF
  rw [if_neg (by omega), show n + k - n = k by omega]
theorem cat_cells {n m : Nat} {f g : Nat → Nat → Int} : cellsC 2 n f ++ cellsC 2 m g = cellsC 2 (n + m) (catF n f g) := by
  rw [cellsC_add]
  congr 1
  · exact cellsC_congr fun k j hk _ => (cat_l hk).symm
  · exact cellsC_congr fun k j _ _ => cat_r.symm
theorem cat_all {r : DRules} {n m : Nat} {f g : Nat → Nat → Int} (h : dAll r (catF n f g) (n + m)) : dAll r f n ∧ dAll r g m := by
  constructor
  · intro k hk
    have h1 := h k (by omega)
    rwa [cat_l hk, cat_l hk] at h1
  · intro k hk
    have h1 := h (n + k) (by omega)
    rwa [cat_r, cat_r] at h1
theorem cat_of {r : DRules} {n m : Nat} {f g : Nat → Nat → Int} (h1 : dAll r f n) (h2 : dAll r g m) : dAll r (catF n f g) (n + m) := by
  intro k hk
  by_cases h : k < n
  · rw [cat_l h, cat_l h]; exact h1 k h
  · obtain ⟨q, rfl⟩ : ∃ q, k = n + q := ⟨k - n, by omega⟩
    rw [cat_r, cat_r]
    exact h2 q (by omega)
theorem run_cat {r : DRules} {n : Nat} {f g : Nat → Nat → Int} : dRun r (catF n f g) n = dRun r f n := by
  rw [run_begin, run_begin]
  exact from_congr r _ n fun k j hk => cat_l hk
theorem rows_cat {r : DRules} {n : Nat} {f g : Nat → Nat → Int} : cellsC 6 n (dRows r f) = cellsC 6 n (dRows r (catF n f g)) := cellsC_congr fun k j hk _ => by
  show dRow r (dRun r f k) j = dRow r (dRun r (catF n f g) k) j
  rw [run_begin, run_begin]
  rw [from_congr r _ k fun q j hq => (cat_l (show q < n by omega) : catF n f g q j = f q j)]
theorem off_then {X Y : Nat → Prop} {w w' w'' : World} (h : Off X w w') (k : Off Y w' w'') (hy : ∀ g, g < w.heap.size → Y g → X g) : Off X w w'' :=
  ⟨k.os.trans h.os, k.tape.trans h.tape, k.output.trans h.output, Nat.le_trans h.size k.size, fun g hg hx => (k.block g (Nat.lt_of_lt_of_le hg h.size) fun y => hx (hy g hg y)).trans (h.block g hg hx)⟩
theorem off_setRow {X : Nat → Prop} {w w' : World} (h : Off X w w') {g : Nat} (hg : g < w.heap.size → X g) (cs : Array Value) : Off X w (w'.setRow g cs) :=
  ⟨h.os, h.tape, h.output, by rw [setRow_size]; exact h.size, fun k hk hx => (setRow_other w' g k cs (fun e => hx (by subst e; exact hg hk))).trans (h.block k hk hx)⟩
theorem grown_setRow (w : World) (g : Nat) (cs : Array Value) : w.grownBy (w.setRow g cs) (some g) :=
  ⟨rfl, rfl, rfl, by rw [setRow_size]; exact Nat.le_refl _, fun k hk hne => setRow_other w g k cs (fun h => hne (by rw [h]))⟩
theorem blk_setRow {w : World} {g k : Nat} {t : TypeId} {cs ds : Array Value} (h : Blk w k t cs) (hne : k ≠ g) : Blk (w.setRow g ds) k t cs := (setRow_other w g k ds hne).trans h
theorem step_goL (r : DRules) (s : DSt) (l0 l1 : Int) (w : World) (hr : r.ok) (h : s.ok r) (hl : dLate r l0 l1) (s' : DSt) (hs' : Hid (dGo r s l0 l1 = s')) (q : Nat → Int) (hq : Hid (dRow r s = q)) :
    Calls Try.prog 14 #[.agg #[.int .i64 r.k0, .int .i64 r.k1, .int .i64 r.rate, .int .i64 r.buf, .int .i64 r.jit], .agg (stL s).toArray, .agg #[.int .i64 l0, .int .i64 l1]] w fun e w' =>
      e = .returned (.tuple #[.agg (stL s').toArray, .agg (rdL q).toArray, .int .i64 0]) ∧ More w w' := step_go r s l0 l1 w hr h hl s' hs' q hq
theorem step_lateL (r : DRules) (s : DSt) (l0 l1 : Int) (w : World) (hr : r.ok) (h : s.ok r) (hl : ¬ dLate r l0 l1) :
    Calls Try.prog 14 #[.agg #[.int .i64 r.k0, .int .i64 r.k1, .int .i64 r.rate, .int .i64 r.buf, .int .i64 r.jit], .agg (stL s).toArray, .agg #[.int .i64 l0, .int .i64 l1]] w fun e w' =>
      ∃ (s' : DSt) (q : Nat → Int), e = .returned (.tuple #[.agg (stL s').toArray, .agg (rdL q).toArray, .int .i64 2]) ∧ More w w' := by
  refine (step_late r s l0 l1 w hr h hl).mono ?_
  rintro e w' ⟨he, hm⟩
  exact ⟨⟨⟨0, 0, 0, 0, 0, 0⟩, ⟨0, 0, 0, 0, 0, 0⟩, 0, 0⟩, fun _ => 0, he, hm⟩
theorem play_wL (a0_0 a0_1 a0_2 a0_3 a0_4 er : Int) (a : Option Addr) (n c : Nat) (w : World) (he : Hid (er ≠ 0)) (hc : ∀ W, Calls Try.prog 26 #[.agg #[.int .i64 a0_0, .int .i64 a0_1, .int .i64 a0_2, .int .i64 a0_3, .int .i64 a0_4]] W fun e w' => e = .returned (.int .i64 er) ∧ More W w') :
    Calls Try.prog 12 #[.agg #[.int .i64 a0_0, .int .i64 a0_1, .int .i64 a0_2, .int .i64 a0_3, .int .i64 a0_4], .slice a n c] w fun e w' => ∃ (ao : Option Addr) (no co : Nat) (t : DSt) (er2 : Int),
      e = .returned (.tuple #[.slice ao no co, .agg (stL t).toArray, .int .i64 er2]) ∧ Hid (er2 = er) ∧ Below w.heap.size w w' := by
  refine (play_w a0_0 a0_1 a0_2 a0_3 a0_4 er a n c w he hc).mono ?_
  rintro e w' ⟨he, hm⟩
  exact ⟨none, 0, 0, ⟨⟨0, 0, 0, 0, 0, 0⟩, ⟨0, 0, 0, 0, 0, 0⟩, 0, 0⟩, er, he, rfl, hm.below⟩
end Go.Proofs.Ytehlgomjgmabeaa
