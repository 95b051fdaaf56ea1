/- What DuelParts needs beside the duel's own texts: states and rounds as rows of cells, compared, stored. Conditions: none. -/
import Derived.Test.YtehlgomjgmabeaaDuelX
import Derived.Test.YtehlgomjgmabeaaStEq
import Derived.Test.YtehlgomjgmabeaaOff
import Derived.Test.YtehlgomjgmabeaaSq
import Derived.Test.YtehlgomjgmabeaaKitC
import Derived.Laws.Tables
import Derived.Laws.Rows
import Derived.Laws.StructEq
import Derived.Deep.MidRow
import Derived.Lib.SliceRun
import Derived.Deep.Cut
set_option linter.unusedVariables false
set_option linter.unusedSimpArgs false
namespace Go.Proofs.Ytehlgomjgmabeaa
open Go.RowKit Go.Shelf Go.Tide
set_option linter.unusedVariables false
set_option linter.unusedSimpArgs false
instance : DecidableEq Ctl := fun a b => decidable_of_iff (a.c0 = b.c0 ∧ a.c1 = b.c1 ∧ a.c2 = b.c2 ∧ a.c3 = b.c3 ∧ a.c4 = b.c4 ∧ a.c5 = b.c5) (by cases a; cases b; simp)
instance : DecidableEq DSt := fun a b => decidable_of_iff (a.a = b.a ∧ a.b = b.b ∧ a.w0 = b.w0 ∧ a.w1 = b.w1) (by cases a; cases b; simp)
def Ctl.inI (c : Ctl) : Prop := InI64 c.c0 ∧ InI64 c.c1 ∧ InI64 c.c2 ∧ InI64 c.c3 ∧ InI64 c.c4 ∧ InI64 c.c5
def DSt.inI (s : DSt) : Prop := s.a.inI ∧ s.b.inI ∧ InI64 s.w0 ∧ InI64 s.w1
theorem Ctl.inI_of {k : Int} {c : Ctl} (hk : dKind k) (h : c.right k) : c.inI := by
  unfold Ctl.right CR at h
  unfold Ctl.inI InI64
  rcases hk with rfl | rfl | rfl
  · rw [if_pos rfl] at h
    have := of_decide_eq_true h
    omega
  · rw [if_neg (by omega), if_pos rfl] at h
    have := of_decide_eq_true h
    omega
  · rw [if_neg (by omega), if_neg (by omega)] at h
    have := of_decide_eq_true h
    omega
theorem DSt.inI_of {r : DRules} {s : DSt} (hr : r.ok) (h : s.ok r) : s.inI := by
  have hn := hr.2.2
  obtain ⟨n1, n2, n3, n4, n5, n6⟩ := hn
  have hw := h.2.2
  refine ⟨Ctl.inI_of hr.1 h.1, Ctl.inI_of hr.2.1 h.2.1, ?_, ?_⟩ <;> unfold InI64 <;> omega
theorem cmp_state (x t : DSt) (hx : x.inI) (ht : t.inI) (w : World) : ∃ r : Bool, (Op.equalIn 10000 32 (.agg #[.int .i64 x.a.c0, .int .i64 x.a.c1, .int .i64 x.a.c2, .int .i64 x.a.c3, .int .i64 x.a.c4, .int .i64 x.a.c5, .int .i64 x.b.c0, .int .i64 x.b.c1, .int .i64 x.b.c2, .int .i64 x.b.c3, .int .i64 x.b.c4, .int .i64 x.b.c5, .int .i64 x.w0, .int .i64 x.w1]) (.agg #[.int .i64 t.a.c0, .int .i64 t.a.c1, .int .i64 t.a.c2, .int .i64 t.a.c3, .int .i64 t.a.c4, .int .i64 t.a.c5, .int .i64 t.b.c0, .int .i64 t.b.c1, .int .i64 t.b.c2, .int .i64 t.b.c3, .int .i64 t.b.c4, .int .i64 t.b.c5, .int .i64 t.w0, .int .i64 t.w1])).run Try.prog w = .ok r w ∧ r = decide (x = t) := by
  obtain ⟨r, h1, h2⟩ := equal_state x.a.c0 x.a.c1 x.a.c2 x.a.c3 x.a.c4 x.a.c5 x.b.c0 x.b.c1 x.b.c2 x.b.c3 x.b.c4 x.b.c5 x.w0 x.w1 t.a.c0 t.a.c1 t.a.c2 t.a.c3 t.a.c4 t.a.c5 t.b.c0 t.b.c1 t.b.c2 t.b.c3 t.b.c4 t.b.c5 t.w0 t.w1 hx.1.1 hx.1.2.1 hx.1.2.2.1 hx.1.2.2.2.1 hx.1.2.2.2.2.1 hx.1.2.2.2.2.2 hx.2.1.1 hx.2.1.2.1 hx.2.1.2.2.1 hx.2.1.2.2.2.1 hx.2.1.2.2.2.2.1 hx.2.1.2.2.2.2.2 hx.2.2.1 hx.2.2.2 ht.1.1 ht.1.2.1 ht.1.2.2.1 ht.1.2.2.2.1 ht.1.2.2.2.2.1 ht.1.2.2.2.2.2 ht.2.1.1 ht.2.1.2.1 ht.2.1.2.2.1 ht.2.1.2.2.2.1 ht.2.1.2.2.2.2.1 ht.2.1.2.2.2.2.2 ht.2.2.1 ht.2.2.2 w
  refine ⟨r, h1, ?_⟩
  have h3 : r = true ↔ x = t := by
    rw [h2]
    constructor
    · intro h
      simp only [List.cons.injEq, and_true] at h
      obtain ⟨e0, e1, e2, e3, e4, e5, e6, e7, e8, e9, e10, e11, e12, e13⟩ := h
      obtain ⟨⟨_, _, _, _, _, _⟩, ⟨_, _, _, _, _, _⟩, _, _⟩ := x
      obtain ⟨⟨_, _, _, _, _, _⟩, ⟨_, _, _, _, _, _⟩, _, _⟩ := t
      simp only at e0 e1 e2 e3 e4 e5 e6 e7 e8 e9 e10 e11 e12 e13
      subst e0 e1 e2 e3 e4 e5 e6 e7 e8 e9 e10 e11
      obtain rfl := Int.ofNat.inj e12
      obtain rfl := Int.ofNat.inj e13
      rfl
    · rintro rfl; rfl
  cases r with
  | true => exact (decide_eq_true (h3.1 rfl)).symm
  | false => exact (decide_eq_false fun e => absurd (h3.2 e) (by simp)).symm
def stL (x : DSt) : List Value := [.int .i64 x.a.c0, .int .i64 x.a.c1, .int .i64 x.a.c2, .int .i64 x.a.c3, .int .i64 x.a.c4, .int .i64 x.a.c5, .int .i64 x.b.c0, .int .i64 x.b.c1, .int .i64 x.b.c2, .int .i64 x.b.c3, .int .i64 x.b.c4, .int .i64 x.b.c5, .int .i64 x.w0, .int .i64 x.w1]
theorem stL_len (x : DSt) : (stL x).length = 14 := rfl
theorem stL_one (x : DSt) : (stL x).toArray.all (·.oneCell') = true := by simp [stL, Value.oneCell']
theorem cmp_stL (x t : DSt) (hx : x.inI) (ht : t.inI) (w : World) : (Op.equalIn 10000 32 (.agg (stL x).toArray) (.agg (stL t).toArray)).run Try.prog w = .ok (decide (x = t)) w := by
  obtain ⟨r, h1, h2⟩ := cmp_state x t hx ht w
  subst h2
  exact h1
theorem stL_info (x : DSt) : (Try.prog.info? 32).map (·.size) = some (stL x).length := by
  rw [stL_len]
  kernel_rfl
theorem blk_range {w : World} {g : Nat} {t : TypeId} {cs : List Value} (h : Blk w g t cs.toArray) : w.rangeAt g 0 cs := fun j v hv => by
  rw [Nat.zero_add, h.cell j]
  simpa using hv
theorem range_below {B : Nat} {w w' : World} {b o : Nat} {cs : List Value} (h : w.rangeAt b o cs) (hb : Below B w w') (hB : b < B) : w'.rangeAt b o cs := fun j v hv => by
  rw [← h j v hv]
  exact hb.cell (p := ⟨b, o + j, none⟩) hB
theorem run_eql {P : Program} {oi : Oper} {ρ : Operand → Value} {w : World} (ty ty2 : TypeId) (x y : Operand) (ho : oi.op = .binOp .eql ty x y ty2) (cs ds : Array Value) (hx : ρ x = .agg cs) (hy : ρ y = .agg ds) (hg : P.eqGuardType P.depth ty = false)
    (r : Bool) (hE : (Op.equal ty (.agg cs) (.agg ds)).run P w = .ok r w) : (execOp ρ oi).run P w = .ok (.value (.bool r)) w := by
  obtain ⟨d, op, t, p, af, g⟩ := oi
  have ho' : op = .binOp .eql ty x y ty2 := ho
  subst ho'
  have h1 : (eqGuard BinOp.eql ty x y (.agg cs) (.agg ds)).run P w = .ok () w := by simp [run_eqGuard_agg, hg]
  have h2 : (binOp BinOp.eql ty (.agg cs) (.agg ds)).run P w = .ok (.bool r) w := by
    unfold binOp
    simp only [Sem.run_bind, hE, Result.andThen_ok, Sem.run_pure]
  show (do let a ← (do eqGuard BinOp.eql ty x y (ρ x) (ρ y); binOp BinOp.eql ty (ρ x) (ρ y)); pure (Next.value a) : Sem Next).run P w = _
  rw [hx, hy]
  simp only [Sem.run_bind, h1, h2, Result.andThen_ok, Sem.run_pure]
theorem run_neq {P : Program} {oi : Oper} {ρ : Operand → Value} {w : World} (ty ty2 : TypeId) (x y : Operand) (ho : oi.op = .binOp .neq ty x y ty2) (cs ds : Array Value) (hx : ρ x = .agg cs) (hy : ρ y = .agg ds) (hg : P.eqGuardType P.depth ty = false)
    (r : Bool) (hE : (Op.equal ty (.agg cs) (.agg ds)).run P w = .ok r w) : (execOp ρ oi).run P w = .ok (.value (.bool (!r))) w := by
  obtain ⟨d, op, t, p, af, g⟩ := oi
  have ho' : op = .binOp .neq ty x y ty2 := ho
  subst ho'
  have h1 : (eqGuard BinOp.neq ty x y (.agg cs) (.agg ds)).run P w = .ok () w := by simp [run_eqGuard_agg, hg]
  have h2 : (binOp BinOp.neq ty (.agg cs) (.agg ds)).run P w = .ok (.bool (!r)) w := by
    unfold binOp
    simp only [Sem.run_bind, hE, Result.andThen_ok, Sem.run_pure]
  show (do let a ← (do eqGuard BinOp.neq ty x y (ρ x) (ρ y); binOp BinOp.neq ty (ρ x) (ρ y)); pure (Next.value a) : Sem Next).run P w = _
  rw [hx, hy]
  simp only [Sem.run_bind, h1, h2, Result.andThen_ok, Sem.run_pure]
theorem wpList_eql {P : Program} {ops : Array Oper} {rest : List Oper} {o : Oper} {a : Act} {w : World} {Q : Exit → Act → World → Prop} (hgd : o.guard = none) (ty ty2 : TypeId) (x y : Operand) (ho : o.op = .binOp .eql ty x y ty2) (cs ds : Array Value) (hx : a.eval x = .agg cs) (hy : a.eval y = .agg ds) (hg : P.eqGuardType P.depth ty = false)
    (r : Bool) (hE : (Op.equal ty (.agg cs) (.agg ds)).run P w = .ok r w) (h : wpList P ops Q rest (a.put o.dst (.bool r)) w) : wpList P ops Q (o :: rest) a w :=
  wpList_plain hgd fun _ hK => by
    simp only [Oper.wp, run_eql ty ty2 x y ho cs ds hx hy hg r hE, Oper.upon]
    first | exact hK _ _ h | exact .inl (hK _ _ h)
theorem equal_of {P : Program} {w : World} {ty : TypeId} {a b : Value} {r : Bool} (h : (Op.equalIn 10000 ty a b).run P w = .ok r w) : (Op.equal ty a b).run P w = .ok r w := by unfold Op.equal Op.maxDepth; exact h
theorem guard_st : Try.prog.eqGuardType Try.prog.depth 32 = false := by kernel_rfl
theorem eq_st (x t : DSt) (hx : x.inI) (ht : t.inI) (w : World) : (Op.equal 32 (.agg (stL x).toArray) (.agg (stL t).toArray)).run Try.prog w = .ok (decide (x = t)) w := equal_of (cmp_stL x t hx ht w)
theorem newRow {w : World} {t : TypeId} {Z cs : Array Value} : Blk ((w.alloc (.cells Z t)).setRow w.heap.size cs) w.heap.size t cs := setRow_heap _ _ _ _ _ _ (Blk.new w t Z)
theorem newRow_below {w : World} {t : TypeId} {Z cs : Array Value} : Below w.heap.size w ((w.alloc (.cells Z t)).setRow w.heap.size cs) := below_setRow ((Below.refl _ _).alloc (Nat.le_refl _) _) (Nat.le_refl _) _
def rdL (q : Nat → Int) : List Value := [.int .i64 (q 0), .int .i64 (q 1), .int .i64 (q 2), .int .i64 (q 3), .int .i64 (q 4), .int .i64 (q 5)]
theorem rdL_one (q : Nat → Int) : (rdL q).toArray.all (·.oneCell') = true := by simp [rdL, Value.oneCell']
theorem rdL_info (q : Nat → Int) : (Try.prog.info? 38).map (·.size) = some (rdL q).length := by
  rw [show (rdL q).length = 6 from rfl]
  kernel_rfl
theorem rangeRow {w : World} {C : Nat} {a : Option Addr} {n k : Nat} {f : Nat → Nat → Int} (h : RowC w C a n f) (hk : k < n) : ∃ b off, a = some ⟨b, off, none⟩ ∧ b < w.heap.size ∧ w.rangeAt b (off + k * C) ((List.range C).map fun j => Value.int .i64 (f k j)) := by
  obtain ⟨b, off, rfl, hb, hc⟩ := h (by omega)
  refine ⟨b, off, rfl, hb, fun j v hv => ?_⟩
  have hj : j < C := by have := (List.getElem?_eq_some_iff.1 hv).1; simpa using this
  have h1 := hc k j hk hj
  rw [Nat.add_assoc, h1]
  simpa [List.getElem?_map, List.getElem?_range hj] using hv
section
variable {P : Program} {ops : Array Oper} {Q : Exit → Act → World → Prop} {md : Region.Mode} {oi : Oper} {fuel : Nat} {listed : Array Bool} {a : Act} {w : World}
/-- Operation i is taken, and walked, in a region that only reads. -/
theorem tkE (i : Nat) {v : Value} (hi : ops[i]? = some oi) (h : wpAnyH P md ops Q (fun w' => w' = w) fuel (listed.setIfInBounds i true) (a.put oi.dst v) w)
    (hg : Region.wanted oi (yielded ops a.tmps) = true := by rfl) (hy : (execOp a.eval oi).run P w = .ok (.value v) w := by go_simp; try (with_reducible rfl))
    (hs : Region.noSelect ops = true := by kernel_rfl) (hf : Region.free md ops listed i = true := by kernel_rfl) (hr : (Region.ready md ops listed).contains i = true := by kernel_rfl)
    (hQ : ∀ c a w, Q (.panic c) (a.put oi.dst v) w → Q (.panic c) a w := by exact fun _ _ _ h => h) : wpAnyH P md ops Q (fun w' => w' = w) (fuel + 1) listed a w :=
  wpAnyH_take hi hs hf hr hQ (Or.inl ⟨hg, fun w' hw => by rw [hw]; exact hy⟩) rfl h
end
theorem twoInfo : (Try.prog.info? 22).map (fun i => (i.zero, i.size, i.bytes)) = some (some (.agg #[.int .i64 0, .int .i64 0]), 2, 16) := by kernel_rfl
def runFrom (r : DRules) (y : DSt) (f : Nat → Nat → Int) : Nat → DSt
  | 0 => y
  | k + 1 => dGo r (runFrom r y f k) (f k 0) (f k 1)
theorem run_begin (r : DRules) (f : Nat → Nat → Int) : ∀ n, dRun r f n = runFrom r (dBegin r) f n := by
  intro n
  induction n with
  | zero => rfl
  | succ n ih => show dGo r (dRun r f n) _ _ = dGo r (runFrom r (dBegin r) f n) _ _; rw [ih]
theorem from_congr (r : DRules) (y : DSt) {f g : Nat → Nat → Int} : ∀ n, (∀ k j, k < n → f k j = g k j) → runFrom r y f n = runFrom r y g n := by
  intro n
  induction n with
  | zero => intro _; rfl
  | succ n ih => intro h; show dGo r (runFrom r y f n) _ _ = dGo r (runFrom r y g n) _ _; rw [ih fun k j hk => h k j (by omega), h n 0 (by omega), h n 1 (by omega)]
theorem row_pos {r : DRules} {s : DSt} (hr : r.ok) (h : s.ok r) (q : Nat) : 0 ≤ dRow r s q ∧ dRow r s q ≤ 100 := (pass_law hr h).1 q
theorem cellsC_add (C n : Nat) (F : Nat → Nat → Int) : ∀ m, cellsC C (n + m) F = cellsC C n F ++ cellsC C m (fun q => F (n + q)) := by
  intro m
  induction m with
  | zero => simp [cellsC]
  | succ m ih => rw [← Nat.add_assoc, cellsC_succ, cellsC_succ, ih, List.append_assoc]
theorem newsC {w : World} {C b off n : Nat} {f : Nat → Nat → Int} (hC : 0 < C) (hf : RowC w C (some ⟨b, off, none⟩) n f) (i : Nat) (u : Value) (hi : (cellsC C n f)[i]? = some u) : w.cell? ⟨b, off + i, none⟩ = some u := by
  have hl : i < n * C := by
    have := (List.getElem?_eq_some_iff.1 hi).1
    rwa [cellsC_length] at this
  obtain ⟨k, j, hj, rfl⟩ : ∃ k r, r < C ∧ i = k * C + r := ⟨i / C, i % C, Nat.mod_lt _ hC, by rw [Nat.mul_comm]; exact (Nat.div_add_mod i C).symm⟩
  have hk : k < n := by
    rcases Nat.lt_or_ge k n with h | h
    · exact h
    · have := Nat.mul_le_mul_right C h
      omega
  obtain ⟨b', off', e, hb, hc⟩ := hf (by omega)
  injection e with e
  injection e with e1 e2
  subst e1 e2
  rw [cellsC_get f hk hj] at hi
  rw [hc k j hk hj]
  exact hi
theorem rowC_setRow {w : World} {C : Nat} {a : Option Addr} {n g : Nat} {f : Nat → Nat → Int} (h : RowC w C a n f) (cs : Array Value) (hg : ∀ p : Addr, a = some p → g ≠ p.block) : RowC (w.setRow g cs) C a n f := by
  intro h0
  obtain ⟨b, off, rfl, hb, hc⟩ := h h0
  have hne : g ≠ b := hg _ rfl
  refine ⟨b, off, rfl, by simpa [World.setRow] using hb, fun k j hk hj => ?_⟩
  rw [← hc k j hk hj]
  exact cell_setRow_other w g cs _ (Ne.symm hne)
end Go.Proofs.Ytehlgomjgmabeaa
