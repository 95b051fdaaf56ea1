/- A state as a row of cells; two of them compared; slices of a duel's lead. Conditions: none. -/
import Derived.Test.YtehlgomjgmabeaaStCmp
import Derived.Laws.StructEq
set_option linter.unusedVariables false
set_option linter.unusedSimpArgs false
namespace Go.Proofs.Ytehlgomjgmabeaa
open Go.RowKit Go.Shelf Go.Tide
set_option linter.unusedVariables false
set_option linter.unusedSimpArgs false
/-- A state's cells. -/
def stL (x : DSt) : List Value := [.int .i64 x.a.c0, .int .i64 x.a.c1, .int .i64 x.a.c2, .int .i64 x.a.c3, .int .i64 x.a.c4, .int .i64 x.a.c5, .int .i64 x.b.c0, .int .i64 x.b.c1, .int .i64 x.b.c2, .int .i64 x.b.c3, .int .i64 x.b.c4, .int .i64 x.b.c5, .int .i64 x.w0, .int .i64 x.w1]
theorem stL_len (x : DSt) : (stL x).length = 14 := rfl
theorem stL_one (x : DSt) : (stL x).toArray.all (·.oneCell') = true := by simp [stL, Value.oneCell']
theorem cmp_stL (x t : DSt) (hx : x.inI) (ht : t.inI) (w : World) : (Op.equalIn 10000 32 (.agg (stL x).toArray) (.agg (stL t).toArray)).run Try.prog w = .ok (decide (x = t)) w := by
  obtain ⟨r, h1, h2⟩ := cmp_state x t hx ht w
  subst h2
  exact h1
theorem stL_info (x : DSt) : (Try.prog.info? 32).map (·.size) = some (stL x).length := by
  rw [stL_len]
  kernel_rfl
theorem blk_range {w : World} {g : Nat} {t : TypeId} {cs : List Value} (h : Blk w g t cs.toArray) : w.rangeAt g 0 cs := fun j v hv => by
  rw [Nat.zero_add, h.cell j]
  simpa using hv
theorem rangeL {w : World} {a : Option Addr} {n k : Nat} {s : Fnd DSt} {x : DSt} (h : RowC w 14 a n (stF s)) (hk : k < n) (hx : s.l[k]? = some x) : ∃ b off, a = some ⟨b, off, none⟩ ∧ b < w.heap.size ∧ w.rangeAt b (off + k * 14) (stL x) := range14 h hk hx
theorem range_below {B : Nat} {w w' : World} {b o : Nat} {cs : List Value} (h : w.rangeAt b o cs) (hb : Below B w w') (hB : b < B) : w'.rangeAt b o cs := fun j v hv => by
  rw [← h j v hv]
  exact hb.cell (p := ⟨b, o + j, none⟩) hB
theorem run_eql {P : Program} {oi : Oper} {ρ : Operand → Value} {w : World} (ty ty2 : TypeId) (x y : Operand) (ho : oi.op = .binOp .eql ty x y ty2) (cs ds : Array Value) (hx : ρ x = .agg cs) (hy : ρ y = .agg ds) (hg : P.eqGuardType P.depth ty = false)
    (r : Bool) (hE : (Op.equal ty (.agg cs) (.agg ds)).run P w = .ok r w) : (execOp ρ oi).run P w = .ok (.value (.bool r)) w := by
  obtain ⟨d, op, t, p, af, g⟩ := oi
  have ho' : op = .binOp .eql ty x y ty2 := ho
  subst ho'
  have h1 : (eqGuard BinOp.eql ty x y (.agg cs) (.agg ds)).run P w = .ok () w := by simp [run_eqGuard_agg, hg]
  have h2 : (binOp BinOp.eql ty (.agg cs) (.agg ds)).run P w = .ok (.bool r) w := by
    unfold binOp
    simp only [Sem.run_bind, hE, Result.andThen_ok, Sem.run_pure]
  show (do let a ← (do eqGuard BinOp.eql ty x y (ρ x) (ρ y); binOp BinOp.eql ty (ρ x) (ρ y)); pure (Next.value a) : Sem Next).run P w = _
  rw [hx, hy]
  simp only [Sem.run_bind, h1, h2, Result.andThen_ok, Sem.run_pure]
theorem run_neq {P : Program} {oi : Oper} {ρ : Operand → Value} {w : World} (ty ty2 : TypeId) (x y : Operand) (ho : oi.op = .binOp .neq ty x y ty2) (cs ds : Array Value) (hx : ρ x = .agg cs) (hy : ρ y = .agg ds) (hg : P.eqGuardType P.depth ty = false)
    (r : Bool) (hE : (Op.equal ty (.agg cs) (.agg ds)).run P w = .ok r w) : (execOp ρ oi).run P w = .ok (.value (.bool (!r))) w := by
  obtain ⟨d, op, t, p, af, g⟩ := oi
  have ho' : op = .binOp .neq ty x y ty2 := ho
  subst ho'
  have h1 : (eqGuard BinOp.neq ty x y (.agg cs) (.agg ds)).run P w = .ok () w := by simp [run_eqGuard_agg, hg]
  have h2 : (binOp BinOp.neq ty (.agg cs) (.agg ds)).run P w = .ok (.bool (!r)) w := by
    unfold binOp
    simp only [Sem.run_bind, hE, Result.andThen_ok, Sem.run_pure]
  show (do let a ← (do eqGuard BinOp.neq ty x y (ρ x) (ρ y); binOp BinOp.neq ty (ρ x) (ρ y)); pure (Next.value a) : Sem Next).run P w = _
  rw [hx, hy]
  simp only [Sem.run_bind, h1, h2, Result.andThen_ok, Sem.run_pure]
theorem wpList_eql {P : Program} {ops : Array Oper} {rest : List Oper} {o : Oper} {a : Act} {w : World} {Q : Exit → Act → World → Prop} (hgd : o.guard = none) (ty ty2 : TypeId) (x y : Operand) (ho : o.op = .binOp .eql ty x y ty2) (cs ds : Array Value) (hx : a.eval x = .agg cs) (hy : a.eval y = .agg ds) (hg : P.eqGuardType P.depth ty = false)
    (r : Bool) (hE : (Op.equal ty (.agg cs) (.agg ds)).run P w = .ok r w) (h : wpList P ops Q rest (a.put o.dst (.bool r)) w) : wpList P ops Q (o :: rest) a w :=
  wpList_plain hgd fun _ hK => by
    simp only [Oper.wp, run_eql ty ty2 x y ho cs ds hx hy hg r hE, Oper.upon]
    first | exact hK _ _ h | exact .inl (hK _ _ h)
theorem equal_of {P : Program} {w : World} {ty : TypeId} {a b : Value} {r : Bool} (h : (Op.equalIn 10000 ty a b).run P w = .ok r w) : (Op.equal ty a b).run P w = .ok r w := by unfold Op.equal Op.maxDepth; exact h
theorem guard_st : Try.prog.eqGuardType Try.prog.depth 32 = false := by kernel_rfl
theorem eq_st (x t : DSt) (hx : x.inI) (ht : t.inI) (w : World) : (Op.equal 32 (.agg (stL x).toArray) (.agg (stL t).toArray)).run Try.prog w = .ok (decide (x = t)) w := equal_of (cmp_stL x t hx ht w)
theorem newRow {w : World} {t : TypeId} {Z cs : Array Value} : Blk ((w.alloc (.cells Z t)).setRow w.heap.size cs) w.heap.size t cs := setRow_heap _ _ _ _ _ _ (Blk.new w t Z)
theorem newRow_below {w : World} {t : TypeId} {Z cs : Array Value} : Below w.heap.size w ((w.alloc (.cells Z t)).setRow w.heap.size cs) := below_setRow ((Below.refl _ _).alloc (Nat.le_refl _) _) (Nat.le_refl _) _
end Go.Proofs.Ytehlgomjgmabeaa
