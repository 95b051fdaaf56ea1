/- The deque of package window: push and old. For every such deque of the call's own. Conditions: lengths within the form's reach. -/
import Derived.Test.YtmlkebemkibipaaDeq
import Derived.Test.YtmlkebemkibipaaTwo
import Derived.Test.YtmlkebemkibipaaWinLaw
import Derived.Deep.LoopGhost
set_option linter.unusedVariables false
set_option linter.unusedSimpArgs false
namespace Go.Tide
def intsOf (I : List Nat) : List Value := I.map fun (i : Nat) => Value.int .i64 (i : Int)
def valsOf (x : Nat → Int) (I : List Nat) : List Value := I.map fun i => Value.int .i64 (x i)
end Go.Tide
namespace Go.Proofs.Ytmlkebemkibipaa
open Go.RowKit Go.Tide
set_option linter.unusedVariables false
set_option linter.unusedSimpArgs false

/-- The deque: its two rows, told by places; the function value K. A holds of the rows' blocks. -/
structure Deq (w : World) (D base : Nat) (F : Nat) (x : Nat → Int) (I : List Nat) (A : Nat → Prop) (v1 v2 : Value) : Prop where
  blk : Blk w D 61 #[v1, v2, .func (.func F) #[] #[]]
  own1 : w.ownsAt base 3 v1 I.length (intsOf I)
  own2 : w.ownsAt base 3 v2 I.length (valsOf x I)
  apart : Apart v1 v2
  in1 : ∀ g, v1.ownBlock = some g → A g
  in2 : ∀ g, v2.ownBlock = some g → A g
/-- A test of two ints: it only reckons. -/
def Better (F : Nat) (h : Int → Int → Bool) : Prop := (∀ (a b : Int) (W : World), Calls Try.prog F #[.int .i64 a, .int .i64 b] W fun e w' => e = .returned (.bool (h a b)) ∧ W = w') ∧
  ∀ (a b : Int) (W : World), Sem.run Try.prog (callFunc F #[.int .i64 a, .int .i64 b]) W = .ok (.enter F #[.int .i64 a, .int .i64 b]) W

/-- What holds between the two halves' loads. -/
structure Mid (w W : World) (D base : Nat) (cs : Array Value) (v2 : Value) (n : Nat) (xs : List Value) (A : Nat → Prop) : Prop where
  blk : Blk W D 61 cs
  own2 : W.ownsAt base 3 v2 n xs
  touch : Turned w W A
  base : base ≤ W.heap.size
section
variable {w W W' wa wb : World} {D base : Nat} {cs : Array Value} {v1 v2 : Value} {n : Nat} {xs : List Value} {A : Nat → Prop}
theorem Mid.alloc (h : Mid w W D base cs v2 n xs A) (o : Obj) : Mid w (W.alloc o) D base cs v2 n xs A := ⟨h.blk.alloc _, h.own2.alloc _, h.touch.alloc _, by have := h.base; simp; omega⟩
theorem Mid.drew (h : Mid w W D base cs v2 n xs A) : Mid w W.drew D base cs v2 n xs A := ⟨h.blk, h.own2, h.touch.drew, h.base⟩
theorem Mid.drewN (h : Mid w W D base cs v2 n xs A) (k : Nat) : Mid w (W.drewN k) D base cs v2 n xs A := ⟨h.blk, h.own2, h.touch.drewN k, h.base⟩
theorem Mid.grown (h : Mid w W D base cs v2 n xs A) (hg : W.grownBy wa v1.ownBlock) (hD : v1.ownBlock ≠ some D) (hA : ∀ g, v1.ownBlock = some g → A g) (hap : Apart v1 v2) : Mid w wa D base cs v2 n xs A :=
  ⟨h.blk.grown hg (fun e => hD e.symm), h.own2.kept hg (by
    cases hv : v2.ownBlock with
    | none => exact .inl rfl
    | some g => exact .inr fun e => hap g e.symm hv), h.touch.grown hg (fun k hk => .inl (hA k hk)), Nat.le_trans h.base hg.size⟩
end

/-- Behind push. -/
def Pushed (w : World) (D base : Nat) (h : Int → Int → Bool) (F : Nat) (x : Nat → Int) (k : Nat) (I : List Nat) (A : Nat → Prop) (e : Ending) (w' : World) : Prop :=
  e = .returned (.tuple #[]) ∧ ∃ m, m ≤ I.length ∧ (∀ i, I[m - 1]? = some i → 0 < m → h (x i) (x k) = true) ∧ (∀ j i, m ≤ j → I[j]? = some i → h (x i) (x k) = false) ∧
    (∃ v1 v2, Deq w' D base F x (I.take m ++ [k]) (fun g => A g ∨ w.heap.size ≤ g) v1 v2) ∧ Turned w w' (fun g => g = D ∨ A g)
/-- The loop that pops. -/
def Popped (w : World) (D base : Nat) (h : Int → Int → Bool) (F : Nat) (x : Nat → Int) (k : Nat) (I : List Nat) (A : Nat → Prop) (m : Nat) (w' : World) : Prop :=
  m ≤ I.length ∧ (∀ j i, m ≤ j → I[j]? = some i → h (x i) (x k) = false) ∧ (∃ v1 v2, Deq w' D base F x (I.take m) A v1 v2) ∧ Turned w w' (fun g => g = D ∨ A g)

theorem pushed_end {w wr W1 wa W2 wb : World} {D base : Nat} {h : Int → Int → Bool} {F : Nat} {x : Nat → Int} {k : Nat} {I : List Nat} {A : Nat → Prop} {m : Nat} {v1 v2 : Value} {q : Nat} (hq : (I.take m).length = q)
    (hD : D < base) (hm : m ≤ I.length) (hb : ∀ i, I[m - 1]? = some i → 0 < m → h (x i) (x k) = true) (hw : ∀ j i, m ≤ j → I[j]? = some i → h (x i) (x k) = false)
    (d : Deq wr D base F x (I.take m) A v1 v2)
    (hM1 : Mid w W1 D base #[v1, v2, .func (.func F) #[] #[]] v2 q (valsOf x (I.take m)) (fun g => g = D ∨ A g))
    {g1 o1 c1 g2 o2 c2 : Nat} {y : Int} (hy : y = x k)
    (h1 : wa.ownsAt base 3 (.slice (some ⟨g1, o1, none⟩) (q + 1) c1) (q + 1) (intsOf (I.take m) ++ [.int .i64 k])) (hg1 : W1.grownBy wa v1.ownBlock) (hl1 : v1.ownBlock = some g1 ∨ g1 = W1.heap.size) (ht1 : g1 < wa.heap.size)
    (hW2 : W2 = wa ∨ ∃ o, W2 = wa.alloc o) (hM2 : Mid w W2 D base #[v1, v2, .func (.func F) #[] #[]] v2 q (valsOf x (I.take m)) (fun g => g = D ∨ A g))
    (h2 : wb.ownsAt base 3 (.slice (some ⟨g2, o2, none⟩) (q + 1) c2) (q + 1) (valsOf x (I.take m) ++ [.int .i64 y])) (hg2 : W2.grownBy wb v2.ownBlock) (hl2 : v2.ownBlock = some g2 ∨ g2 = W2.heap.size) (ht2 : g2 < wb.heap.size) :
    Pushed w D base h F x k I A (.returned (.tuple #[])) ((wb.setCell ⟨D, 0, none⟩ (.slice (some ⟨g1, o1, none⟩) (q + 1) c1)).setCell ⟨D, 1, none⟩ (.slice (some ⟨g2, o2, none⟩) (q + 1) c2)) := by
  subst hy
  subst hq
  have ha1 : ∀ g, v1.ownBlock = some g → base ≤ g ∧ g < wr.heap.size := d.own1.lt
  have ha2 : ∀ g, v2.ownBlock = some g → base ≤ g ∧ g < W1.heap.size := hM1.own2.lt
  have hs2 : wa.heap.size ≤ W2.heap.size := by
    rcases hW2 with rfl | ⟨o, rfl⟩
    · exact Nat.le_refl _
    · simp
  have s1 := hM1.touch.size
  have hneq : g1 ≠ g2 := by
    rcases hl1 with e1 | e1
    · rcases hl2 with e2 | e2
      · intro e; subst e; exact d.apart _ e1 e2
      · omega
    · rcases hl2 with e2 | e2
      · have := (ha2 _ e2).2; omega
      · omega
  have hne12 : v2.ownBlock ≠ some g1 := by
    intro e2
    rcases hl1 with e1 | e1
    · exact d.apart _ e1 e2
    · have := (ha2 _ e2).2; omega
  have q1 : wb.ownsAt base 3 (.slice (some ⟨g1, o1, none⟩) ((I.take m).length + 1) c1) ((I.take m).length + 1) (intsOf (I.take m) ++ [.int .i64 k]) := by
    have : W2.ownsAt base 3 (.slice (some ⟨g1, o1, none⟩) ((I.take m).length + 1) c1) ((I.take m).length + 1) (intsOf (I.take m) ++ [.int .i64 k]) := by
      rcases hW2 with rfl | ⟨o, rfl⟩
      · exact h1
      · exact h1.alloc _
    exact this.kept hg2 (.inr fun e => hne12 e.symm)
  have hb1 : base ≤ g1 := (h1.lt g1 rfl).1
  have hb2 : base ≤ g2 := (h2.lt g2 rfl).1
  have hD2 : v2.ownBlock ≠ some D := fun e => by have := (ha2 _ e).1; omega
  have hblk : Blk wb D 61 #[v1, v2, .func (.func F) #[] #[]] := hM2.blk.grown hg2 (fun e => hD2 e.symm)
  have htw : Turned w wb (fun g => g = D ∨ A g) := hM2.touch.grown hg2 (fun g hg => .inl (.inr (d.in2 g hg)))
  have elen : (I.take m ++ [k]).length = (I.take m).length + 1 := by simp
  refine ⟨rfl, m, hm, hb, hw, ⟨_, _, ⟨(hblk.put 0 _).put 1 _, ?_, ?_, ?_, ?_, ?_⟩⟩, (htw.set (Or.inl rfl) _).set (Or.inl rfl) _⟩
  · rw [elen]
    have := (q1.set (b := D) (i := 0) (.slice (some ⟨g1, o1, none⟩) ((I.take m).length + 1) c1) hD).set (b := D) (i := 1) (.slice (some ⟨g2, o2, none⟩) ((I.take m).length + 1) c2) hD
    simpa [intsOf] using this
  · rw [elen]
    have := (h2.set (b := D) (i := 0) (.slice (some ⟨g1, o1, none⟩) ((I.take m).length + 1) c1) hD).set (b := D) (i := 1) (.slice (some ⟨g2, o2, none⟩) ((I.take m).length + 1) c2) hD
    simpa [valsOf] using this
  · intro g hg
    have e1 : g = g1 := by simpa [Value.ownBlock] using hg.symm
    simp [Value.ownBlock]
    omega
  · intro g hg
    have e1 : g = g1 := by simpa [Value.ownBlock] using hg.symm
    subst e1
    rcases hl1 with e | e
    · exact .inl (d.in1 _ e)
    · exact .inr (by omega)
  · intro g hg
    have e1 : g = g2 := by simpa [Value.ownBlock] using hg.symm
    subst e1
    rcases hl2 with e | e
    · exact .inl (d.in2 _ e)
    · have := hg1.size
      exact .inr (by omega)

theorem popped_end {w wr W : World} {D base : Nat} {h : Int → Int → Bool} {F : Nat} {x : Nat → Int} {k : Nat} {I : List Nat} {A : Nat → Prop} {m i g1 o1 c1 g2 o2 c2 : Nat}
    (hD : D < base) (d : Deq wr D base F x (I.take (m + 1)) A (.slice (some ⟨g1, o1, none⟩) (m + 1) c1) (.slice (some ⟨g2, o2, none⟩) (m + 1) c2)) (hl : (I.take (m + 1)).length = m + 1)
    (ht : Turned w W (fun g => g = D ∨ A g)) (hW : W.heap = wr.heap) (hbad : ∀ j i, m + 1 ≤ j → I[j]? = some i → h (x i) (x k) = false) (hi : I[m]? = some i) (hx : h (x i) (x k) = false) (hm : m ≤ I.length) :
    Popped w D base h F x k I A m ((W.setCell ⟨D, 0, none⟩ (.slice (some ⟨g1, o1, none⟩) m c1)).setCell ⟨D, 1, none⟩ (.slice (some ⟨g2, o2, none⟩) m c2)) := by
  have hlm : (I.take m).length = m := by rw [List.length_take]; omega
  have e1 := d.own1
  have e2 := d.own2
  rw [hl] at e1 e2
  have same : ∀ {v : Value} {n : Nat} {xs : List Value}, wr.ownsAt base 3 v n xs → W.ownsAt base 3 v n xs := fun h => h.same fun g _ => by rw [hW]
  have f1 : W.ownsAt base 3 (.slice (some ⟨g1, o1, none⟩) m c1) m (intsOf (I.take m)) := by
    have := (same e1).init
    rwa [intsOf, ← List.map_take, List.take_take, Nat.min_eq_left (by omega)] at this
  have f2 : W.ownsAt base 3 (.slice (some ⟨g2, o2, none⟩) m c2) m (valsOf x (I.take m)) := by
    have := (same e2).init
    rwa [valsOf, ← List.map_take, List.take_take, Nat.min_eq_left (by omega)] at this
  have hblk : Blk W D 61 #[.slice (some ⟨g1, o1, none⟩) (m + 1) c1, .slice (some ⟨g2, o2, none⟩) (m + 1) c2, .func (.func F) #[] #[]] := by
    have := d.blk
    unfold Blk at this ⊢
    rwa [hW]
  refine ⟨hm, fun j q hj hq => ?_, ⟨_, _, ⟨(hblk.put 0 _).put 1 _, ?_, ?_, d.apart, d.in1, d.in2⟩⟩, (ht.set (Or.inl rfl) _).set (Or.inl rfl) _⟩
  · by_cases hjm : j = m
    · subst hjm
      rw [hi] at hq
      cases hq
      exact hx
    · exact hbad j q (by omega) hq
  · rw [hlm]
    exact (f1.set _ hD).set _ hD
  · rw [hlm]
    exact (f2.set _ hD).set _ hD

theorem step_append_at {P : Program} {ops : Array Oper} {o : Oper} {a : Act} {w : World} {K : Act → World → Prop} {Q : Exit → Act → World → Prop} {E : Prop}
    (hg : o.guard = none) (s x : Operand) (t : TypeId) (ho : o.op = .call { callee := .builtin .append, args := #[s, x], argTypes := #[t, t] })
    (base : Nat) (e : TypeId) (i : TypeInfo) (z : Value) (bytes : Nat) (ht : P.underlying t = some (.slice e)) (hi : P.info? e = some i) (hz : i.zero = some z)
    (hsize : i.size = 1) (hby : i.bytes = bytes) (hzs : z.cells.size = 1)
    (v : Value) (n : Nat) (xs : List Value) (hs : a.eval s = v) (hown : w.ownsAt base e v n xs)
    (ad : Addr) (c : Nat) (y : Value) (hx : a.eval x = .slice (some ad) 1 c) (hy : w.cell? ad = some y) (h1 : y.oneCell' = true)
    (h63 : n + 1 ≤ maxLen) (hbytes : (n + 1) * bytes ≤ 140737488355328) (hbase : base ≤ w.heap.size)
    (h : ∀ g off cap w', w'.ownsAt base e (.slice (some ⟨g, off, none⟩) (n + 1) cap) (n + 1) (xs ++ [y]) → w.grownBy w' v.ownBlock → (v.ownBlock = some g ∨ g = w.heap.size) → g < w'.heap.size → K (a.put o.dst (.slice (some ⟨g, off, none⟩) (n + 1) cap)) w') :
    if Region.wanted o (yielded ops a.tmps) = true then Oper.wp P o a w K Q else E := by
  rw [if_pos (by simp [Region.wanted, hg])]
  exact wp_append_at w s x t ho base e i z bytes ht hi hz hsize hby hzs v n xs hs hown ad c y hx hy h1 h63 hbytes hbase h

set_option maxHeartbeats 4000000 in
theorem push_any (F : Nat) (h : Int → Int → Bool) (hK : Better F h) (D base : Nat) (x : Nat → Int) (k : Nat) (y : Int) (hyk : Hid (y = x k)) (I : List Nat) (A : Nat → Prop) (w : World) (v1 v2 : Value)
    (hd : Deq w D base F x I A v1 v2) (hDb : D < base) (hbs : base ≤ w.heap.size) (hlen : I.length ≤ 17592186044400) :
    Calls Try.prog 43 #[.pointer (some ⟨D, 0, none⟩), .int .i64 k, .int .i64 y] w (Pushed w D base h F x k I A) := by
  obtain ⟨hK1, hC⟩ := hK
  have HK := Lib.hid hK1
  clear hK1
  obtain ⟨i0, hi, hz0, hz1, hz2⟩ := info_parts intInfo
  have hP0 : Popped w D base h F x k I A I.length w := ⟨Nat.le_refl _, fun j i hj hi => (by rw [List.getElem?_eq_none hj] at hi; cases hi), ⟨v1, v2, by rw [List.take_length]; exact hd⟩, Turned.refl _ _⟩
  clear hd
  go_enter Try.func43, Try.ntmps43
  go_wp2
  go_loopg [] I.length (fun gk wr => Popped w D base h F x k I A gk wr)
  case atStart => exact hP0
  case round =>
    clear hP0
    obtain ⟨hmI, hbad0, ⟨v1, v2, hdq⟩, htw⟩ := hrel
    have hbad := Lib.hid hbad0
    clear hbad0
    have hbs2 := htw.size
    have hn1D : v1.ownBlock ≠ some D := fun e => by have := (hdq.own1.lt _ e).1; omega
    have hn2D : v2.ownBlock ≠ some D := fun e => by have := (hdq.own2.lt _ e).1; omega
    have hlt : (I.take gk).length = gk := by rw [List.length_take]; omega
    rcases Nat.eq_zero_or_pos gk with h0 | h0
    · subst h0
      have hgood : ∀ i, I[0 - 1]? = some i → 0 < 0 → h (x i) (x k) = true := fun _ _ h => absurd h (by omega)
      have HG := Lib.hid hgood
      clear hgood
      have hown1 := hdq.own1
      have hown2 := hdq.own2
      rw [hlt] at hown1 hown2
      obtain ⟨a1, c1, rfl, hc1, hc1'⟩ := hown1.shape
      obtain ⟨a2, c2, rfl, hc2, hc2'⟩ := hown2.shape
      have HHD := Lib.hid hdq
      have HL := Lib.hid hlt
      have hd0 := hdq.blk.cell 0
      have hd1 := hdq.blk.cell 1
      simp at hd0 hd1
      have hmid : Mid w wr D base #[.slice a1 0 c1, .slice a2 0 c2, .func (.func F) #[] #[]] (.slice a2 0 c2) 0 (valsOf x (I.take 0)) (fun g => g = D ∨ A g) := ⟨hdq.blk, hown2, htw, by omega⟩
      have HM := Lib.hid hmid
      clear hmid hdq hlt
      go_wp2_with fail
      go_quiet (fail)
      go_wp2_with fail
      refine wp_region_two (S := (fun w' => Mid w w' D base #[.slice a1 0 c1, .slice a2 0 c2, .func (.func F) #[] #[]] (.slice a2 0 c2) (0) (valsOf x (I.take (0))) (fun g => g = D ∨ A g))) 15 (by kernel_rfl) ?_ (fun hHeld => ?_)
      · exact (HM.out.drewN _).drew
      refine two_pure (i := 0) (v := ?_) rfl (by kernel_rfl) (by kernel_rfl) (fun _ _ _ h => h) (Or.inl ⟨by rfl, ?_⟩) (by assumption) ?_
      rotate_left 1
      · intro w'
        go_simp
        try (with_reducible rfl)
      try simp only [List.getElem_toArray, List.getElem_cons_zero, List.getElem_cons_succ, Act.put, List.setIfInBounds_toArray, List.set_cons_zero, List.set_cons_succ]
      refine two_pure (i := 1) (v := ?_) rfl (by kernel_rfl) (by kernel_rfl) (fun _ _ _ h => h) (Or.inl ⟨by rfl, ?_⟩) (by assumption) ?_
      rotate_left 1
      · intro w'
        go_simp
        try (with_reducible rfl)
      try simp only [List.getElem_toArray, List.getElem_cons_zero, List.getElem_cons_succ, Act.put, List.setIfInBounds_toArray, List.set_cons_zero, List.set_cons_succ]
      refine two_take (i := 2) (v := ?_) rfl (by kernel_rfl) (by kernel_rfl) (fun _ _ _ h => h) (Or.inl ⟨by rfl, ?_⟩) (by assumption) ?_
      rotate_left 1
      · intro w' hSw
        have hl0 := hSw.blk.cell 0
        have hl1 := hSw.blk.cell 1
        simp at hl0 hl1
        go_simp
        try (with_reducible rfl)
      try simp only [List.getElem_toArray, List.getElem_cons_zero, List.getElem_cons_succ, Act.put, List.setIfInBounds_toArray, List.set_cons_zero, List.set_cons_succ]
      refine two_take (i := 3) (v := ?_) rfl (by kernel_rfl) (by kernel_rfl) (fun _ _ _ h => h) (Or.inl ⟨by rfl, ?_⟩) (by assumption) ?_
      rotate_left 1
      · intro w' hSw
        have hl0 := hSw.blk.cell 0
        have hl1 := hSw.blk.cell 1
        simp at hl0 hl1
        go_simp
        try (with_reducible rfl)
      try simp only [List.getElem_toArray, List.getElem_cons_zero, List.getElem_cons_succ, Act.put, List.setIfInBounds_toArray, List.set_cons_zero, List.set_cons_succ]
      refine two_take (i := 4) (v := ?_) rfl (by kernel_rfl) (by kernel_rfl) (fun _ _ _ h => h) (Or.inl ⟨by rfl, ?_⟩) (by assumption) ?_
      rotate_left 1
      · intro w' hSw
        have hl0 := hSw.blk.cell 0
        have hl1 := hSw.blk.cell 1
        simp at hl0 hl1
        go_simp
        try (with_reducible rfl)
      try simp only [List.getElem_toArray, List.getElem_cons_zero, List.getElem_cons_succ, Act.put, List.setIfInBounds_toArray, List.set_cons_zero, List.set_cons_succ]
      refine two_take (i := 5) (v := ?_) rfl (by kernel_rfl) (by kernel_rfl) (fun _ _ _ h => h) (Or.inl ⟨by rfl, ?_⟩) (by assumption) ?_
      rotate_left 1
      · intro w' hSw
        have hl0 := hSw.blk.cell 0
        have hl1 := hSw.blk.cell 1
        simp at hl0 hl1
        go_simp
        try (with_reducible rfl)
      try simp only [List.getElem_toArray, List.getElem_cons_zero, List.getElem_cons_succ, Act.put, List.setIfInBounds_toArray, List.set_cons_zero, List.set_cons_succ]
      refine two_take (i := 6) (v := ?_) rfl (by kernel_rfl) (by kernel_rfl) (fun _ _ _ h => h) (Or.inl ⟨by rfl, ?_⟩) (by assumption) ?_
      rotate_left 1
      · intro w' hSw
        have hl0 := hSw.blk.cell 0
        have hl1 := hSw.blk.cell 1
        simp at hl0 hl1
        go_simp
        try (with_reducible rfl)
      try simp only [List.getElem_toArray, List.getElem_cons_zero, List.getElem_cons_succ, Act.put, List.setIfInBounds_toArray, List.set_cons_zero, List.set_cons_succ]
      refine two_take (i := 9) (v := ?_) rfl (by kernel_rfl) (by kernel_rfl) (fun _ _ _ h => h) (Or.inl ⟨by rfl, ?_⟩) (by assumption) ?_
      rotate_left 1
      · intro w' hSw
        have hl0 := hSw.blk.cell 0
        have hl1 := hSw.blk.cell 1
        simp at hl0 hl1
        go_simp
        try (with_reducible rfl)
      try simp only [List.getElem_toArray, List.getElem_cons_zero, List.getElem_cons_succ, Act.put, List.setIfInBounds_toArray, List.set_cons_zero, List.set_cons_succ]
      refine two_take (i := 10) (v := ?_) rfl (by kernel_rfl) (by kernel_rfl) (fun _ _ _ h => h) (Or.inl ⟨by rfl, ?_⟩) (by assumption) ?_
      rotate_left 1
      · intro w' hSw
        have hl0 := hSw.blk.cell 0
        have hl1 := hSw.blk.cell 1
        simp at hl0 hl1
        go_simp
        try (with_reducible rfl)
      try simp only [List.getElem_toArray, List.getElem_cons_zero, List.getElem_cons_succ, Act.put, List.setIfInBounds_toArray, List.set_cons_zero, List.set_cons_succ]
      refine two_take (i := 11) (v := ?_) rfl (by kernel_rfl) (by kernel_rfl) (fun _ _ _ h => h) (Or.inl ⟨by rfl, ?_⟩) (by assumption) ?_
      rotate_left 1
      · intro w' hSw
        have hl0 := hSw.blk.cell 0
        have hl1 := hSw.blk.cell 1
        simp at hl0 hl1
        go_simp
        try (with_reducible rfl)
      try simp only [List.getElem_toArray, List.getElem_cons_zero, List.getElem_cons_succ, Act.put, List.setIfInBounds_toArray, List.set_cons_zero, List.set_cons_succ]
      refine two_take (i := 12) (v := ?_) rfl (by kernel_rfl) (by kernel_rfl) (fun _ _ _ h => h) (Or.inl ⟨by rfl, ?_⟩) (by assumption) ?_
      rotate_left 1
      · intro w' hSw
        have hl0 := hSw.blk.cell 0
        have hl1 := hSw.blk.cell 1
        simp at hl0 hl1
        go_simp
        try (with_reducible rfl)
      try simp only [List.getElem_toArray, List.getElem_cons_zero, List.getElem_cons_succ, Act.put, List.setIfInBounds_toArray, List.set_cons_zero, List.set_cons_succ]
      refine two_take (i := 13) (v := ?_) rfl (by kernel_rfl) (by kernel_rfl) (fun _ _ _ h => h) (Or.inl ⟨by rfl, ?_⟩) (by assumption) ?_
      rotate_left 1
      · intro w' hSw
        have hl0 := hSw.blk.cell 0
        have hl1 := hSw.blk.cell 1
        simp at hl0 hl1
        go_simp
        try (with_reducible rfl)
      try simp only [List.getElem_toArray, List.getElem_cons_zero, List.getElem_cons_succ, Act.put, List.setIfInBounds_toArray, List.set_cons_zero, List.set_cons_succ]
      refine two_ready (rs := [7, 14]) (by kernel_rfl) (by kernel_rfl) (by simp) ?_
      refine AllReadyB.cons rfl (fun K hK => ?_) (AllReadyB.cons rfl (fun K hK => ?_) AllReadyB.nil)
      ·
        go_simp
        refine hK.out _ _ ?_ (fun hHeld => ?_)
        · exact hHeld.alloc _
        clear hK K
        try simp only [List.getElem_toArray, List.getElem_cons_zero, List.getElem_cons_succ, Act.put, List.setIfInBounds_toArray, List.set_cons_zero, List.set_cons_succ]
        refine two_ready (rs := [8, 14]) (by kernel_rfl) (by kernel_rfl) (by simp) ?_
        refine AllReadyB.cons rfl (fun K hK => ?_) (AllReadyB.cons rfl (fun K hK => ?_) AllReadyB.nil)
        ·
          refine step_append_at rfl (.tmp 66) (.tmp 68) 22 (by rfl) base 3 i0 (.int .i64 0) 8 Try.underlying22 hi hz0 hz1 hz2 rfl (.slice a1 0 c1) (0) (intsOf (I.take (0))) (by rfl) (by repeat (first | (with_reducible assumption) | (with_reducible refine World.ownsAt.alloc ?_ _) | (with_reducible refine World.ownsAt.drew ?_) | (with_reducible refine World.ownsAt.drewN ?_ _))) _ _ (.int .i64 k) (by rfl) (Blk.cell (cs := #[.int .i64 k]) (t := 3) (by repeat (first | (with_reducible assumption) | ((with_reducible refine Blk.new' ?_); (simp [Nat.add_assoc]; done)) | (with_reducible refine Blk.alloc ?_ _) | (with_reducible refine Blk.more ?_ _ _) | (with_reducible refine Blk.drew ?_) | (with_reducible refine Blk.drewN ?_ _))) 0) rfl (by simp only [maxLen]; omega) (by omega) hHeld.base ?_
          intro g1 o1 c1 wa hown1 hgrow1 hlie1 hlt1
          have hM1 := hHeld
          refine hK.out _ _ ?_ (fun hHeld => ?_)
          · exact hHeld.grown hgrow1 hn1D (fun g hg => .inr (HHD.out.in1 g hg)) HHD.out.apart
          clear hK K
          try simp only [List.getElem_toArray, List.getElem_cons_zero, List.getElem_cons_succ, Act.put, List.setIfInBounds_toArray, List.set_cons_zero, List.set_cons_succ]
          refine two_ready (rs := [14]) (by kernel_rfl) (by kernel_rfl) (by simp) ?_
          refine AllReadyB.cons rfl (fun K hK => ?_) AllReadyB.nil
          go_simp
          refine hK.out _ _ ?_ (fun hHeld => ?_)
          · exact hHeld.alloc _
          clear hK K
          try simp only [List.getElem_toArray, List.getElem_cons_zero, List.getElem_cons_succ, Act.put, List.setIfInBounds_toArray, List.set_cons_zero, List.set_cons_succ]
          refine two_ready (rs := [15]) (by kernel_rfl) (by kernel_rfl) (by simp) ?_
          refine AllReadyB.last rfl (fun K hK => ?_)
          refine step_append_at rfl (.tmp 73) (.tmp 75) 22 (by rfl) base 3 i0 (.int .i64 0) 8 Try.underlying22 hi hz0 hz1 hz2 rfl ((.slice a2 0 c2)) (0) (valsOf x (I.take (0))) (by rfl) hHeld.own2 _ _ (.int .i64 y) (by rfl) (Blk.cell (cs := #[.int .i64 y]) (t := 3) (by repeat (first | (with_reducible assumption) | ((with_reducible refine Blk.new' ?_); (simp [Nat.add_assoc]; done)) | (with_reducible refine Blk.alloc ?_ _) | (with_reducible refine Blk.more ?_ _ _) | (with_reducible refine Blk.drew ?_) | (with_reducible refine Blk.drewN ?_ _))) 0) rfl (by simp only [maxLen]; omega) (by omega) hHeld.base ?_
          intro g2 o2 c2 wb hown2 hgrow2 hlie2 hlt2
          have hM2 := hHeld
          have hbD := hHeld.blk.grown hgrow2 (fun e => hn2D e.symm)
          have hz3 := hbD.cell 0
          have hz4 := hbD.cell 1
          have hz5 := hbD.frozen 0
          have hz6 := hbD.frozen 1
          simp at hz3 hz4
          refine hK.out _ _ ?_
          clear hK K
          try simp only [List.getElem_toArray, List.getElem_cons_zero, List.getElem_cons_succ, Act.put, List.setIfInBounds_toArray, List.set_cons_zero, List.set_cons_succ]
          refine two_late (by kernel_rfl) ?_
          refine wpAny_take (i := 16) (v := ?_) rfl (by kernel_rfl) (by kernel_rfl) (by kernel_rfl) (fun _ _ _ h => h) (Or.inl ⟨by rfl, ?_⟩) ?_
          rotate_left 1
          · intro w'
            go_simp
            try (with_reducible rfl)
          try simp only [List.getElem_toArray, List.getElem_cons_zero, List.getElem_cons_succ, Act.put, List.setIfInBounds_toArray, List.set_cons_zero, List.set_cons_succ]
          refine wpAny_take (i := 17) (v := ?_) rfl (by kernel_rfl) (by kernel_rfl) (by kernel_rfl) (fun _ _ _ h => h) (Or.inl ⟨by rfl, ?_⟩) ?_
          rotate_left 1
          · intro w'
            go_simp
            try (with_reducible rfl)
          try simp only [List.getElem_toArray, List.getElem_cons_zero, List.getElem_cons_succ, Act.put, List.setIfInBounds_toArray, List.set_cons_zero, List.set_cons_succ]
          refine wpAny_ready (rs := [18]) (by kernel_rfl) (by simp) ?_
          refine AllReady.cons' rfl (fun K hK => ?_) AllReady.nil
          go_simp
          refine hK.out _ _ ?_
          clear hK K
          try simp only [List.getElem_toArray, List.getElem_cons_zero, List.getElem_cons_succ, Act.put, List.setIfInBounds_toArray, List.set_cons_zero, List.set_cons_succ]
          refine wpAny_take (i := 19) (v := ?_) rfl (by kernel_rfl) (by kernel_rfl) (by kernel_rfl) (fun _ _ _ h => h) (Or.inl ⟨by rfl, ?_⟩) ?_
          rotate_left 1
          · intro w'
            go_simp
            try (with_reducible rfl)
          try simp only [List.getElem_toArray, List.getElem_cons_zero, List.getElem_cons_succ, Act.put, List.setIfInBounds_toArray, List.set_cons_zero, List.set_cons_succ]
          refine wpAny_take (i := 20) (v := ?_) rfl (by kernel_rfl) (by kernel_rfl) (by kernel_rfl) (fun _ _ _ h => h) (Or.inl ⟨by rfl, ?_⟩) ?_
          rotate_left 1
          · intro w'
            go_simp
            try (with_reducible rfl)
          try simp only [List.getElem_toArray, List.getElem_cons_zero, List.getElem_cons_succ, Act.put, List.setIfInBounds_toArray, List.set_cons_zero, List.set_cons_succ]
          refine wpAny_ready (rs := [21]) (by kernel_rfl) (by simp) ?_
          refine AllReady.cons' rfl (fun K hK => ?_) AllReady.nil
          go_simp
          refine hK.out _ _ ?_
          clear hK K
          try simp only [List.getElem_toArray, List.getElem_cons_zero, List.getElem_cons_succ, Act.put, List.setIfInBounds_toArray, List.set_cons_zero, List.set_cons_succ]
          refine wpAny_done (by kernel_rfl) ?_ _
          go_wp2
          go_end0
          exact pushed_end HL.out hDb hmI HG.out hbad.out HHD.out hM1 hyk.out hown1 hgrow1 hlie1 hlt1 (.inr ⟨_, rfl⟩) hM2 hown2 hgrow2 hlie2 hlt2
        ·
          go_simp
          refine hK.out _ _ ?_ (fun hHeld => ?_)
          · exact hHeld.alloc _
          clear hK K
          try simp only [List.getElem_toArray, List.getElem_cons_zero, List.getElem_cons_succ, Act.put, List.setIfInBounds_toArray, List.set_cons_zero, List.set_cons_succ]
          refine two_ready (rs := [8]) (by kernel_rfl) (by kernel_rfl) (by simp) ?_
          refine AllReadyB.cons rfl (fun K hK => ?_) AllReadyB.nil
          refine step_append_at rfl (.tmp 66) (.tmp 68) 22 (by rfl) base 3 i0 (.int .i64 0) 8 Try.underlying22 hi hz0 hz1 hz2 rfl (.slice a1 0 c1) (0) (intsOf (I.take (0))) (by rfl) (by repeat (first | (with_reducible assumption) | (with_reducible refine World.ownsAt.alloc ?_ _) | (with_reducible refine World.ownsAt.drew ?_) | (with_reducible refine World.ownsAt.drewN ?_ _))) _ _ (.int .i64 k) (by rfl) (Blk.cell (cs := #[.int .i64 k]) (t := 3) (by repeat (first | (with_reducible assumption) | ((with_reducible refine Blk.new' ?_); (simp [Nat.add_assoc]; done)) | (with_reducible refine Blk.alloc ?_ _) | (with_reducible refine Blk.more ?_ _ _) | (with_reducible refine Blk.drew ?_) | (with_reducible refine Blk.drewN ?_ _))) 0) rfl (by simp only [maxLen]; omega) (by omega) hHeld.base ?_
          intro g1 o1 c1 wa hown1 hgrow1 hlie1 hlt1
          have hM1 := hHeld
          have hbY := Blk.grown (t := 3) (cs := #[.int .i64 y]) (g := wr.heap.size + 1) (by repeat (first | (with_reducible assumption) | ((with_reducible refine Blk.new' ?_); (simp [Nat.add_assoc]; done)) | (with_reducible refine Blk.alloc ?_ _) | (with_reducible refine Blk.more ?_ _ _) | (with_reducible refine Blk.drew ?_) | (with_reducible refine Blk.drewN ?_ _))) hgrow1 (fun e => by have := (HHD.out.own1.lt _ e.symm).2; omega)
          refine hK.out _ _ ?_ (fun hHeld => ?_)
          · exact hHeld.grown hgrow1 hn1D (fun g hg => .inr (HHD.out.in1 g hg)) HHD.out.apart
          clear hK K
          try simp only [List.getElem_toArray, List.getElem_cons_zero, List.getElem_cons_succ, Act.put, List.setIfInBounds_toArray, List.set_cons_zero, List.set_cons_succ]
          refine two_ready (rs := [15]) (by kernel_rfl) (by kernel_rfl) (by simp) ?_
          refine AllReadyB.last rfl (fun K hK => ?_)
          refine step_append_at rfl (.tmp 73) (.tmp 75) 22 (by rfl) base 3 i0 (.int .i64 0) 8 Try.underlying22 hi hz0 hz1 hz2 rfl ((.slice a2 0 c2)) (0) (valsOf x (I.take (0))) (by rfl) hHeld.own2 _ _ (.int .i64 y) (by rfl) (Blk.cell (cs := #[.int .i64 y]) (t := 3) (by repeat (first | (with_reducible assumption) | ((with_reducible refine Blk.new' ?_); (simp [Nat.add_assoc]; done)) | (with_reducible refine Blk.alloc ?_ _) | (with_reducible refine Blk.more ?_ _ _) | (with_reducible refine Blk.drew ?_) | (with_reducible refine Blk.drewN ?_ _))) 0) rfl (by simp only [maxLen]; omega) (by omega) hHeld.base ?_
          intro g2 o2 c2 wb hown2 hgrow2 hlie2 hlt2
          have hM2 := hHeld
          have hbD := hHeld.blk.grown hgrow2 (fun e => hn2D e.symm)
          have hz3 := hbD.cell 0
          have hz4 := hbD.cell 1
          have hz5 := hbD.frozen 0
          have hz6 := hbD.frozen 1
          simp at hz3 hz4
          refine hK.out _ _ ?_
          clear hK K
          try simp only [List.getElem_toArray, List.getElem_cons_zero, List.getElem_cons_succ, Act.put, List.setIfInBounds_toArray, List.set_cons_zero, List.set_cons_succ]
          refine two_late (by kernel_rfl) ?_
          refine wpAny_take (i := 16) (v := ?_) rfl (by kernel_rfl) (by kernel_rfl) (by kernel_rfl) (fun _ _ _ h => h) (Or.inl ⟨by rfl, ?_⟩) ?_
          rotate_left 1
          · intro w'
            go_simp
            try (with_reducible rfl)
          try simp only [List.getElem_toArray, List.getElem_cons_zero, List.getElem_cons_succ, Act.put, List.setIfInBounds_toArray, List.set_cons_zero, List.set_cons_succ]
          refine wpAny_take (i := 17) (v := ?_) rfl (by kernel_rfl) (by kernel_rfl) (by kernel_rfl) (fun _ _ _ h => h) (Or.inl ⟨by rfl, ?_⟩) ?_
          rotate_left 1
          · intro w'
            go_simp
            try (with_reducible rfl)
          try simp only [List.getElem_toArray, List.getElem_cons_zero, List.getElem_cons_succ, Act.put, List.setIfInBounds_toArray, List.set_cons_zero, List.set_cons_succ]
          refine wpAny_ready (rs := [18]) (by kernel_rfl) (by simp) ?_
          refine AllReady.cons' rfl (fun K hK => ?_) AllReady.nil
          go_simp
          refine hK.out _ _ ?_
          clear hK K
          try simp only [List.getElem_toArray, List.getElem_cons_zero, List.getElem_cons_succ, Act.put, List.setIfInBounds_toArray, List.set_cons_zero, List.set_cons_succ]
          refine wpAny_take (i := 19) (v := ?_) rfl (by kernel_rfl) (by kernel_rfl) (by kernel_rfl) (fun _ _ _ h => h) (Or.inl ⟨by rfl, ?_⟩) ?_
          rotate_left 1
          · intro w'
            go_simp
            try (with_reducible rfl)
          try simp only [List.getElem_toArray, List.getElem_cons_zero, List.getElem_cons_succ, Act.put, List.setIfInBounds_toArray, List.set_cons_zero, List.set_cons_succ]
          refine wpAny_take (i := 20) (v := ?_) rfl (by kernel_rfl) (by kernel_rfl) (by kernel_rfl) (fun _ _ _ h => h) (Or.inl ⟨by rfl, ?_⟩) ?_
          rotate_left 1
          · intro w'
            go_simp
            try (with_reducible rfl)
          try simp only [List.getElem_toArray, List.getElem_cons_zero, List.getElem_cons_succ, Act.put, List.setIfInBounds_toArray, List.set_cons_zero, List.set_cons_succ]
          refine wpAny_ready (rs := [21]) (by kernel_rfl) (by simp) ?_
          refine AllReady.cons' rfl (fun K hK => ?_) AllReady.nil
          go_simp
          refine hK.out _ _ ?_
          clear hK K
          try simp only [List.getElem_toArray, List.getElem_cons_zero, List.getElem_cons_succ, Act.put, List.setIfInBounds_toArray, List.set_cons_zero, List.set_cons_succ]
          refine wpAny_done (by kernel_rfl) ?_ _
          go_wp2
          go_end0
          exact pushed_end HL.out hDb hmI HG.out hbad.out HHD.out hM1 hyk.out hown1 hgrow1 hlie1 hlt1 (.inl rfl) hM2 hown2 hgrow2 hlie2 hlt2
      ·
        go_simp
        refine hK.out _ _ ?_ (fun hHeld => ?_)
        · exact hHeld.alloc _
        clear hK K
        try simp only [List.getElem_toArray, List.getElem_cons_zero, List.getElem_cons_succ, Act.put, List.setIfInBounds_toArray, List.set_cons_zero, List.set_cons_succ]
        refine two_ready (rs := [7]) (by kernel_rfl) (by kernel_rfl) (by simp) ?_
        refine AllReadyB.cons rfl (fun K hK => ?_) AllReadyB.nil
        go_simp
        refine hK.out _ _ ?_ (fun hHeld => ?_)
        · exact hHeld.alloc _
        clear hK K
        try simp only [List.getElem_toArray, List.getElem_cons_zero, List.getElem_cons_succ, Act.put, List.setIfInBounds_toArray, List.set_cons_zero, List.set_cons_succ]
        refine two_ready (rs := [8]) (by kernel_rfl) (by kernel_rfl) (by simp) ?_
        refine AllReadyB.cons rfl (fun K hK => ?_) AllReadyB.nil
        refine step_append_at rfl (.tmp 66) (.tmp 68) 22 (by rfl) base 3 i0 (.int .i64 0) 8 Try.underlying22 hi hz0 hz1 hz2 rfl (.slice a1 0 c1) (0) (intsOf (I.take (0))) (by rfl) (by repeat (first | (with_reducible assumption) | (with_reducible refine World.ownsAt.alloc ?_ _) | (with_reducible refine World.ownsAt.drew ?_) | (with_reducible refine World.ownsAt.drewN ?_ _))) _ _ (.int .i64 k) (by rfl) (Blk.cell (cs := #[.int .i64 k]) (t := 3) (by repeat (first | (with_reducible assumption) | ((with_reducible refine Blk.new' ?_); (simp [Nat.add_assoc]; done)) | (with_reducible refine Blk.alloc ?_ _) | (with_reducible refine Blk.more ?_ _ _) | (with_reducible refine Blk.drew ?_) | (with_reducible refine Blk.drewN ?_ _))) 0) rfl (by simp only [maxLen]; omega) (by omega) hHeld.base ?_
        intro g1 o1 c1 wa hown1 hgrow1 hlie1 hlt1
        have hM1 := hHeld
        have hbY := Blk.grown (t := 3) (cs := #[.int .i64 y]) (g := wr.heap.size) (by repeat (first | (with_reducible assumption) | ((with_reducible refine Blk.new' ?_); (simp [Nat.add_assoc]; done)) | (with_reducible refine Blk.alloc ?_ _) | (with_reducible refine Blk.more ?_ _ _) | (with_reducible refine Blk.drew ?_) | (with_reducible refine Blk.drewN ?_ _))) hgrow1 (fun e => by have := (HHD.out.own1.lt _ e.symm).2; omega)
        refine hK.out _ _ ?_ (fun hHeld => ?_)
        · exact hHeld.grown hgrow1 hn1D (fun g hg => .inr (HHD.out.in1 g hg)) HHD.out.apart
        clear hK K
        try simp only [List.getElem_toArray, List.getElem_cons_zero, List.getElem_cons_succ, Act.put, List.setIfInBounds_toArray, List.set_cons_zero, List.set_cons_succ]
        refine two_ready (rs := [15]) (by kernel_rfl) (by kernel_rfl) (by simp) ?_
        refine AllReadyB.last rfl (fun K hK => ?_)
        refine step_append_at rfl (.tmp 73) (.tmp 75) 22 (by rfl) base 3 i0 (.int .i64 0) 8 Try.underlying22 hi hz0 hz1 hz2 rfl ((.slice a2 0 c2)) (0) (valsOf x (I.take (0))) (by rfl) hHeld.own2 _ _ (.int .i64 y) (by rfl) (Blk.cell (cs := #[.int .i64 y]) (t := 3) (by repeat (first | (with_reducible assumption) | ((with_reducible refine Blk.new' ?_); (simp [Nat.add_assoc]; done)) | (with_reducible refine Blk.alloc ?_ _) | (with_reducible refine Blk.more ?_ _ _) | (with_reducible refine Blk.drew ?_) | (with_reducible refine Blk.drewN ?_ _))) 0) rfl (by simp only [maxLen]; omega) (by omega) hHeld.base ?_
        intro g2 o2 c2 wb hown2 hgrow2 hlie2 hlt2
        have hM2 := hHeld
        have hbD := hHeld.blk.grown hgrow2 (fun e => hn2D e.symm)
        have hz3 := hbD.cell 0
        have hz4 := hbD.cell 1
        have hz5 := hbD.frozen 0
        have hz6 := hbD.frozen 1
        simp at hz3 hz4
        refine hK.out _ _ ?_
        clear hK K
        try simp only [List.getElem_toArray, List.getElem_cons_zero, List.getElem_cons_succ, Act.put, List.setIfInBounds_toArray, List.set_cons_zero, List.set_cons_succ]
        refine two_late (by kernel_rfl) ?_
        refine wpAny_take (i := 16) (v := ?_) rfl (by kernel_rfl) (by kernel_rfl) (by kernel_rfl) (fun _ _ _ h => h) (Or.inl ⟨by rfl, ?_⟩) ?_
        rotate_left 1
        · intro w'
          go_simp
          try (with_reducible rfl)
        try simp only [List.getElem_toArray, List.getElem_cons_zero, List.getElem_cons_succ, Act.put, List.setIfInBounds_toArray, List.set_cons_zero, List.set_cons_succ]
        refine wpAny_take (i := 17) (v := ?_) rfl (by kernel_rfl) (by kernel_rfl) (by kernel_rfl) (fun _ _ _ h => h) (Or.inl ⟨by rfl, ?_⟩) ?_
        rotate_left 1
        · intro w'
          go_simp
          try (with_reducible rfl)
        try simp only [List.getElem_toArray, List.getElem_cons_zero, List.getElem_cons_succ, Act.put, List.setIfInBounds_toArray, List.set_cons_zero, List.set_cons_succ]
        refine wpAny_ready (rs := [18]) (by kernel_rfl) (by simp) ?_
        refine AllReady.cons' rfl (fun K hK => ?_) AllReady.nil
        go_simp
        refine hK.out _ _ ?_
        clear hK K
        try simp only [List.getElem_toArray, List.getElem_cons_zero, List.getElem_cons_succ, Act.put, List.setIfInBounds_toArray, List.set_cons_zero, List.set_cons_succ]
        refine wpAny_take (i := 19) (v := ?_) rfl (by kernel_rfl) (by kernel_rfl) (by kernel_rfl) (fun _ _ _ h => h) (Or.inl ⟨by rfl, ?_⟩) ?_
        rotate_left 1
        · intro w'
          go_simp
          try (with_reducible rfl)
        try simp only [List.getElem_toArray, List.getElem_cons_zero, List.getElem_cons_succ, Act.put, List.setIfInBounds_toArray, List.set_cons_zero, List.set_cons_succ]
        refine wpAny_take (i := 20) (v := ?_) rfl (by kernel_rfl) (by kernel_rfl) (by kernel_rfl) (fun _ _ _ h => h) (Or.inl ⟨by rfl, ?_⟩) ?_
        rotate_left 1
        · intro w'
          go_simp
          try (with_reducible rfl)
        try simp only [List.getElem_toArray, List.getElem_cons_zero, List.getElem_cons_succ, Act.put, List.setIfInBounds_toArray, List.set_cons_zero, List.set_cons_succ]
        refine wpAny_ready (rs := [21]) (by kernel_rfl) (by simp) ?_
        refine AllReady.cons' rfl (fun K hK => ?_) AllReady.nil
        go_simp
        refine hK.out _ _ ?_
        clear hK K
        try simp only [List.getElem_toArray, List.getElem_cons_zero, List.getElem_cons_succ, Act.put, List.setIfInBounds_toArray, List.set_cons_zero, List.set_cons_succ]
        refine wpAny_done (by kernel_rfl) ?_ _
        go_wp2
        go_end0
        exact pushed_end HL.out hDb hmI HG.out hbad.out HHD.out hM1 hyk.out hown1 hgrow1 hlie1 hlt1 (.inl rfl) hM2 hown2 hgrow2 hlie2 hlt2

    · obtain ⟨m, rfl⟩ : ∃ m, gk = m + 1 := ⟨gk - 1, by omega⟩
      obtain ⟨i, hi0⟩ : ∃ i, I[m]? = some i := ⟨I[m], List.getElem?_eq_getElem (by omega)⟩
      obtain ⟨xi, hxi⟩ : ∃ xi, Hid (xi = x i) := ⟨_, rfl⟩
      have hown1 := hdq.own1
      have hown2 := hdq.own2
      rw [hlt] at hown1 hown2
      obtain ⟨g1, o1, c1, rfl, hc1, hc1', hg1b, hg1l, hcell1⟩ := hown1.form (by omega)
      obtain ⟨g2, o2, c2, rfl, hc2, hc2', hg2b, hg2l, hcell2⟩ := hown2.form (by omega)
      have hx2 : wr.cell? ⟨g2, o2 + m, none⟩ = some (.int .i64 xi) := hcell2 m _ (by
        rw [hxi.out]
        simp only [valsOf, List.getElem?_map, List.getElem?_take]
        rw [if_pos (by omega), hi0]
        rfl)
      clear hcell1 hcell2
      have HI := Lib.hid hi0
      have HHD := Lib.hid hdq
      have HL := Lib.hid hlt
      have hd0 := hdq.blk.cell 0
      have hd1 := hdq.blk.cell 1
      have hd2 := hdq.blk.cell 2
      have hf0 := hdq.blk.frozen 0
      have hf1 := hdq.blk.frozen 1
      simp at hd0 hd1 hd2
      have kw : IntKind.i64.wrap ((m : Int) + 1 - 1) = (m : Int) := by rw [IntWalk.i64_in _ (by omega)]; omega
      have kw2 : IntKind.i64.wrap (m : Int) = (m : Int) := IntWalk.i64_in _ (by omega)
      have k0 : (0 : Int) ≤ (m : Int) := by omega
      have k1 : (m : Int) < (m : Int) + 1 := by omega
      have k2 : (m : Int) ≤ (c1 : Int) := by omega
      have k3 : (m : Int) ≤ (c2 : Int) := by omega
      have k4 : decide ((0 : Int) < (m : Int) + 1) = true := by first | (simp; done) | (simp; omega)
      have hmid : Mid w wr D base #[.slice (some ⟨g1, o1, none⟩) (m + 1) c1, .slice (some ⟨g2, o2, none⟩) (m + 1) c2, .func (.func F) #[] #[]] (.slice (some ⟨g2, o2, none⟩) (m + 1) c2) (m + 1) (valsOf x (I.take (m + 1))) (fun g => g = D ∨ A g) := ⟨hdq.blk, hown2, htw, by omega⟩
      have HM := Lib.hid hmid
      clear hmid hdq hlt hi0 h0
      by_cases hb : h xi y = true
      · have HG : Hid (∀ j, I[m + 1 - 1]? = some j → 0 < m + 1 → h (x j) (x k) = true) := fun j hj _ => by
          rw [Nat.add_sub_cancel, HI.out] at hj
          cases hj
          rw [← hxi.out, ← hyk.out]
          exact hb
        go_wp2_with fail
        go_quiet ((with_reducible exact quiet_left (HK.out _ _ _)))
        go_wp2_with fail
        refine wp_region_two (S := (fun w' => Mid w w' D base #[.slice (some ⟨g1, o1, none⟩) (m + 1) c1, .slice (some ⟨g2, o2, none⟩) (m + 1) c2, .func (.func F) #[] #[]] (.slice (some ⟨g2, o2, none⟩) (m + 1) c2) (m + 1) (valsOf x (I.take (m + 1))) (fun g => g = D ∨ A g))) 15 (by kernel_rfl) ?_ (fun hHeld => ?_)
        · exact (HM.out.drewN _).drew
        refine two_pure (i := 0) (v := ?_) rfl (by kernel_rfl) (by kernel_rfl) (fun _ _ _ h => h) (Or.inl ⟨by rfl, ?_⟩) (by assumption) ?_
        rotate_left 1
        · intro w'
          go_simp
          try (with_reducible rfl)
        try simp only [List.getElem_toArray, List.getElem_cons_zero, List.getElem_cons_succ, Act.put, List.setIfInBounds_toArray, List.set_cons_zero, List.set_cons_succ]
        refine two_pure (i := 1) (v := ?_) rfl (by kernel_rfl) (by kernel_rfl) (fun _ _ _ h => h) (Or.inl ⟨by rfl, ?_⟩) (by assumption) ?_
        rotate_left 1
        · intro w'
          go_simp
          try (with_reducible rfl)
        try simp only [List.getElem_toArray, List.getElem_cons_zero, List.getElem_cons_succ, Act.put, List.setIfInBounds_toArray, List.set_cons_zero, List.set_cons_succ]
        refine two_take (i := 2) (v := ?_) rfl (by kernel_rfl) (by kernel_rfl) (fun _ _ _ h => h) (Or.inl ⟨by rfl, ?_⟩) (by assumption) ?_
        rotate_left 1
        · intro w' hSw
          have hl0 := hSw.blk.cell 0
          have hl1 := hSw.blk.cell 1
          simp at hl0 hl1
          go_simp
          try (with_reducible rfl)
        try simp only [List.getElem_toArray, List.getElem_cons_zero, List.getElem_cons_succ, Act.put, List.setIfInBounds_toArray, List.set_cons_zero, List.set_cons_succ]
        refine two_take (i := 3) (v := ?_) rfl (by kernel_rfl) (by kernel_rfl) (fun _ _ _ h => h) (Or.inl ⟨by rfl, ?_⟩) (by assumption) ?_
        rotate_left 1
        · intro w' hSw
          have hl0 := hSw.blk.cell 0
          have hl1 := hSw.blk.cell 1
          simp at hl0 hl1
          go_simp
          try (with_reducible rfl)
        try simp only [List.getElem_toArray, List.getElem_cons_zero, List.getElem_cons_succ, Act.put, List.setIfInBounds_toArray, List.set_cons_zero, List.set_cons_succ]
        refine two_take (i := 4) (v := ?_) rfl (by kernel_rfl) (by kernel_rfl) (fun _ _ _ h => h) (Or.inl ⟨by rfl, ?_⟩) (by assumption) ?_
        rotate_left 1
        · intro w' hSw
          have hl0 := hSw.blk.cell 0
          have hl1 := hSw.blk.cell 1
          simp at hl0 hl1
          go_simp
          try (with_reducible rfl)
        try simp only [List.getElem_toArray, List.getElem_cons_zero, List.getElem_cons_succ, Act.put, List.setIfInBounds_toArray, List.set_cons_zero, List.set_cons_succ]
        refine two_take (i := 5) (v := ?_) rfl (by kernel_rfl) (by kernel_rfl) (fun _ _ _ h => h) (Or.inl ⟨by rfl, ?_⟩) (by assumption) ?_
        rotate_left 1
        · intro w' hSw
          have hl0 := hSw.blk.cell 0
          have hl1 := hSw.blk.cell 1
          simp at hl0 hl1
          go_simp
          try (with_reducible rfl)
        try simp only [List.getElem_toArray, List.getElem_cons_zero, List.getElem_cons_succ, Act.put, List.setIfInBounds_toArray, List.set_cons_zero, List.set_cons_succ]
        refine two_take (i := 6) (v := ?_) rfl (by kernel_rfl) (by kernel_rfl) (fun _ _ _ h => h) (Or.inl ⟨by rfl, ?_⟩) (by assumption) ?_
        rotate_left 1
        · intro w' hSw
          have hl0 := hSw.blk.cell 0
          have hl1 := hSw.blk.cell 1
          simp at hl0 hl1
          go_simp
          try (with_reducible rfl)
        try simp only [List.getElem_toArray, List.getElem_cons_zero, List.getElem_cons_succ, Act.put, List.setIfInBounds_toArray, List.set_cons_zero, List.set_cons_succ]
        refine two_take (i := 9) (v := ?_) rfl (by kernel_rfl) (by kernel_rfl) (fun _ _ _ h => h) (Or.inl ⟨by rfl, ?_⟩) (by assumption) ?_
        rotate_left 1
        · intro w' hSw
          have hl0 := hSw.blk.cell 0
          have hl1 := hSw.blk.cell 1
          simp at hl0 hl1
          go_simp
          try (with_reducible rfl)
        try simp only [List.getElem_toArray, List.getElem_cons_zero, List.getElem_cons_succ, Act.put, List.setIfInBounds_toArray, List.set_cons_zero, List.set_cons_succ]
        refine two_take (i := 10) (v := ?_) rfl (by kernel_rfl) (by kernel_rfl) (fun _ _ _ h => h) (Or.inl ⟨by rfl, ?_⟩) (by assumption) ?_
        rotate_left 1
        · intro w' hSw
          have hl0 := hSw.blk.cell 0
          have hl1 := hSw.blk.cell 1
          simp at hl0 hl1
          go_simp
          try (with_reducible rfl)
        try simp only [List.getElem_toArray, List.getElem_cons_zero, List.getElem_cons_succ, Act.put, List.setIfInBounds_toArray, List.set_cons_zero, List.set_cons_succ]
        refine two_take (i := 11) (v := ?_) rfl (by kernel_rfl) (by kernel_rfl) (fun _ _ _ h => h) (Or.inl ⟨by rfl, ?_⟩) (by assumption) ?_
        rotate_left 1
        · intro w' hSw
          have hl0 := hSw.blk.cell 0
          have hl1 := hSw.blk.cell 1
          simp at hl0 hl1
          go_simp
          try (with_reducible rfl)
        try simp only [List.getElem_toArray, List.getElem_cons_zero, List.getElem_cons_succ, Act.put, List.setIfInBounds_toArray, List.set_cons_zero, List.set_cons_succ]
        refine two_take (i := 12) (v := ?_) rfl (by kernel_rfl) (by kernel_rfl) (fun _ _ _ h => h) (Or.inl ⟨by rfl, ?_⟩) (by assumption) ?_
        rotate_left 1
        · intro w' hSw
          have hl0 := hSw.blk.cell 0
          have hl1 := hSw.blk.cell 1
          simp at hl0 hl1
          go_simp
          try (with_reducible rfl)
        try simp only [List.getElem_toArray, List.getElem_cons_zero, List.getElem_cons_succ, Act.put, List.setIfInBounds_toArray, List.set_cons_zero, List.set_cons_succ]
        refine two_take (i := 13) (v := ?_) rfl (by kernel_rfl) (by kernel_rfl) (fun _ _ _ h => h) (Or.inl ⟨by rfl, ?_⟩) (by assumption) ?_
        rotate_left 1
        · intro w' hSw
          have hl0 := hSw.blk.cell 0
          have hl1 := hSw.blk.cell 1
          simp at hl0 hl1
          go_simp
          try (with_reducible rfl)
        try simp only [List.getElem_toArray, List.getElem_cons_zero, List.getElem_cons_succ, Act.put, List.setIfInBounds_toArray, List.set_cons_zero, List.set_cons_succ]
        refine two_ready (rs := [7, 14]) (by kernel_rfl) (by kernel_rfl) (by simp) ?_
        refine AllReadyB.cons rfl (fun K hK => ?_) (AllReadyB.cons rfl (fun K hK => ?_) AllReadyB.nil)
        ·
          go_simp
          refine hK.out _ _ ?_ (fun hHeld => ?_)
          · exact hHeld.alloc _
          clear hK K
          try simp only [List.getElem_toArray, List.getElem_cons_zero, List.getElem_cons_succ, Act.put, List.setIfInBounds_toArray, List.set_cons_zero, List.set_cons_succ]
          refine two_ready (rs := [8, 14]) (by kernel_rfl) (by kernel_rfl) (by simp) ?_
          refine AllReadyB.cons rfl (fun K hK => ?_) (AllReadyB.cons rfl (fun K hK => ?_) AllReadyB.nil)
          ·
            refine step_append_at rfl (.tmp 66) (.tmp 68) 22 (by rfl) base 3 i0 (.int .i64 0) 8 Try.underlying22 hi hz0 hz1 hz2 rfl (.slice (some ⟨g1, o1, none⟩) (m + 1) c1) (m + 1) (intsOf (I.take (m + 1))) (by rfl) (by repeat (first | (with_reducible assumption) | (with_reducible refine World.ownsAt.alloc ?_ _) | (with_reducible refine World.ownsAt.drew ?_) | (with_reducible refine World.ownsAt.drewN ?_ _))) _ _ (.int .i64 k) (by rfl) (Blk.cell (cs := #[.int .i64 k]) (t := 3) (by repeat (first | (with_reducible assumption) | ((with_reducible refine Blk.new' ?_); (simp [Nat.add_assoc]; done)) | (with_reducible refine Blk.alloc ?_ _) | (with_reducible refine Blk.more ?_ _ _) | (with_reducible refine Blk.drew ?_) | (with_reducible refine Blk.drewN ?_ _))) 0) rfl (by simp only [maxLen]; omega) (by omega) hHeld.base ?_
            intro g1 o1 c1 wa hown1 hgrow1 hlie1 hlt1
            have hM1 := hHeld
            refine hK.out _ _ ?_ (fun hHeld => ?_)
            · exact hHeld.grown hgrow1 hn1D (fun g hg => .inr (HHD.out.in1 g hg)) HHD.out.apart
            clear hK K
            try simp only [List.getElem_toArray, List.getElem_cons_zero, List.getElem_cons_succ, Act.put, List.setIfInBounds_toArray, List.set_cons_zero, List.set_cons_succ]
            refine two_ready (rs := [14]) (by kernel_rfl) (by kernel_rfl) (by simp) ?_
            refine AllReadyB.cons rfl (fun K hK => ?_) AllReadyB.nil
            go_simp
            refine hK.out _ _ ?_ (fun hHeld => ?_)
            · exact hHeld.alloc _
            clear hK K
            try simp only [List.getElem_toArray, List.getElem_cons_zero, List.getElem_cons_succ, Act.put, List.setIfInBounds_toArray, List.set_cons_zero, List.set_cons_succ]
            refine two_ready (rs := [15]) (by kernel_rfl) (by kernel_rfl) (by simp) ?_
            refine AllReadyB.last rfl (fun K hK => ?_)
            refine step_append_at rfl (.tmp 73) (.tmp 75) 22 (by rfl) base 3 i0 (.int .i64 0) 8 Try.underlying22 hi hz0 hz1 hz2 rfl ((.slice (some ⟨g2, o2, none⟩) (m + 1) c2)) (m + 1) (valsOf x (I.take (m + 1))) (by rfl) hHeld.own2 _ _ (.int .i64 y) (by rfl) (Blk.cell (cs := #[.int .i64 y]) (t := 3) (by repeat (first | (with_reducible assumption) | ((with_reducible refine Blk.new' ?_); (simp [Nat.add_assoc]; done)) | (with_reducible refine Blk.alloc ?_ _) | (with_reducible refine Blk.more ?_ _ _) | (with_reducible refine Blk.drew ?_) | (with_reducible refine Blk.drewN ?_ _))) 0) rfl (by simp only [maxLen]; omega) (by omega) hHeld.base ?_
            intro g2 o2 c2 wb hown2 hgrow2 hlie2 hlt2
            have hM2 := hHeld
            have hbD := hHeld.blk.grown hgrow2 (fun e => hn2D e.symm)
            have hz3 := hbD.cell 0
            have hz4 := hbD.cell 1
            have hz5 := hbD.frozen 0
            have hz6 := hbD.frozen 1
            simp at hz3 hz4
            refine hK.out _ _ ?_
            clear hK K
            try simp only [List.getElem_toArray, List.getElem_cons_zero, List.getElem_cons_succ, Act.put, List.setIfInBounds_toArray, List.set_cons_zero, List.set_cons_succ]
            refine two_late (by kernel_rfl) ?_
            refine wpAny_take (i := 16) (v := ?_) rfl (by kernel_rfl) (by kernel_rfl) (by kernel_rfl) (fun _ _ _ h => h) (Or.inl ⟨by rfl, ?_⟩) ?_
            rotate_left 1
            · intro w'
              go_simp
              try (with_reducible rfl)
            try simp only [List.getElem_toArray, List.getElem_cons_zero, List.getElem_cons_succ, Act.put, List.setIfInBounds_toArray, List.set_cons_zero, List.set_cons_succ]
            refine wpAny_take (i := 17) (v := ?_) rfl (by kernel_rfl) (by kernel_rfl) (by kernel_rfl) (fun _ _ _ h => h) (Or.inl ⟨by rfl, ?_⟩) ?_
            rotate_left 1
            · intro w'
              go_simp
              try (with_reducible rfl)
            try simp only [List.getElem_toArray, List.getElem_cons_zero, List.getElem_cons_succ, Act.put, List.setIfInBounds_toArray, List.set_cons_zero, List.set_cons_succ]
            refine wpAny_ready (rs := [18]) (by kernel_rfl) (by simp) ?_
            refine AllReady.cons' rfl (fun K hK => ?_) AllReady.nil
            go_simp
            refine hK.out _ _ ?_
            clear hK K
            try simp only [List.getElem_toArray, List.getElem_cons_zero, List.getElem_cons_succ, Act.put, List.setIfInBounds_toArray, List.set_cons_zero, List.set_cons_succ]
            refine wpAny_take (i := 19) (v := ?_) rfl (by kernel_rfl) (by kernel_rfl) (by kernel_rfl) (fun _ _ _ h => h) (Or.inl ⟨by rfl, ?_⟩) ?_
            rotate_left 1
            · intro w'
              go_simp
              try (with_reducible rfl)
            try simp only [List.getElem_toArray, List.getElem_cons_zero, List.getElem_cons_succ, Act.put, List.setIfInBounds_toArray, List.set_cons_zero, List.set_cons_succ]
            refine wpAny_take (i := 20) (v := ?_) rfl (by kernel_rfl) (by kernel_rfl) (by kernel_rfl) (fun _ _ _ h => h) (Or.inl ⟨by rfl, ?_⟩) ?_
            rotate_left 1
            · intro w'
              go_simp
              try (with_reducible rfl)
            try simp only [List.getElem_toArray, List.getElem_cons_zero, List.getElem_cons_succ, Act.put, List.setIfInBounds_toArray, List.set_cons_zero, List.set_cons_succ]
            refine wpAny_ready (rs := [21]) (by kernel_rfl) (by simp) ?_
            refine AllReady.cons' rfl (fun K hK => ?_) AllReady.nil
            go_simp
            refine hK.out _ _ ?_
            clear hK K
            try simp only [List.getElem_toArray, List.getElem_cons_zero, List.getElem_cons_succ, Act.put, List.setIfInBounds_toArray, List.set_cons_zero, List.set_cons_succ]
            refine wpAny_done (by kernel_rfl) ?_ _
            go_wp2
            go_end0
            exact pushed_end HL.out hDb hmI HG.out hbad.out HHD.out hM1 hyk.out hown1 hgrow1 hlie1 hlt1 (.inr ⟨_, rfl⟩) hM2 hown2 hgrow2 hlie2 hlt2
          ·
            go_simp
            refine hK.out _ _ ?_ (fun hHeld => ?_)
            · exact hHeld.alloc _
            clear hK K
            try simp only [List.getElem_toArray, List.getElem_cons_zero, List.getElem_cons_succ, Act.put, List.setIfInBounds_toArray, List.set_cons_zero, List.set_cons_succ]
            refine two_ready (rs := [8]) (by kernel_rfl) (by kernel_rfl) (by simp) ?_
            refine AllReadyB.cons rfl (fun K hK => ?_) AllReadyB.nil
            refine step_append_at rfl (.tmp 66) (.tmp 68) 22 (by rfl) base 3 i0 (.int .i64 0) 8 Try.underlying22 hi hz0 hz1 hz2 rfl (.slice (some ⟨g1, o1, none⟩) (m + 1) c1) (m + 1) (intsOf (I.take (m + 1))) (by rfl) (by repeat (first | (with_reducible assumption) | (with_reducible refine World.ownsAt.alloc ?_ _) | (with_reducible refine World.ownsAt.drew ?_) | (with_reducible refine World.ownsAt.drewN ?_ _))) _ _ (.int .i64 k) (by rfl) (Blk.cell (cs := #[.int .i64 k]) (t := 3) (by repeat (first | (with_reducible assumption) | ((with_reducible refine Blk.new' ?_); (simp [Nat.add_assoc]; done)) | (with_reducible refine Blk.alloc ?_ _) | (with_reducible refine Blk.more ?_ _ _) | (with_reducible refine Blk.drew ?_) | (with_reducible refine Blk.drewN ?_ _))) 0) rfl (by simp only [maxLen]; omega) (by omega) hHeld.base ?_
            intro g1 o1 c1 wa hown1 hgrow1 hlie1 hlt1
            have hM1 := hHeld
            have hbY := Blk.grown (t := 3) (cs := #[.int .i64 y]) (g := wr.heap.size + 1) (by repeat (first | (with_reducible assumption) | ((with_reducible refine Blk.new' ?_); (simp [Nat.add_assoc]; done)) | (with_reducible refine Blk.alloc ?_ _) | (with_reducible refine Blk.more ?_ _ _) | (with_reducible refine Blk.drew ?_) | (with_reducible refine Blk.drewN ?_ _))) hgrow1 (fun e => by have := (HHD.out.own1.lt _ e.symm).2; omega)
            refine hK.out _ _ ?_ (fun hHeld => ?_)
            · exact hHeld.grown hgrow1 hn1D (fun g hg => .inr (HHD.out.in1 g hg)) HHD.out.apart
            clear hK K
            try simp only [List.getElem_toArray, List.getElem_cons_zero, List.getElem_cons_succ, Act.put, List.setIfInBounds_toArray, List.set_cons_zero, List.set_cons_succ]
            refine two_ready (rs := [15]) (by kernel_rfl) (by kernel_rfl) (by simp) ?_
            refine AllReadyB.last rfl (fun K hK => ?_)
            refine step_append_at rfl (.tmp 73) (.tmp 75) 22 (by rfl) base 3 i0 (.int .i64 0) 8 Try.underlying22 hi hz0 hz1 hz2 rfl ((.slice (some ⟨g2, o2, none⟩) (m + 1) c2)) (m + 1) (valsOf x (I.take (m + 1))) (by rfl) hHeld.own2 _ _ (.int .i64 y) (by rfl) (Blk.cell (cs := #[.int .i64 y]) (t := 3) (by repeat (first | (with_reducible assumption) | ((with_reducible refine Blk.new' ?_); (simp [Nat.add_assoc]; done)) | (with_reducible refine Blk.alloc ?_ _) | (with_reducible refine Blk.more ?_ _ _) | (with_reducible refine Blk.drew ?_) | (with_reducible refine Blk.drewN ?_ _))) 0) rfl (by simp only [maxLen]; omega) (by omega) hHeld.base ?_
            intro g2 o2 c2 wb hown2 hgrow2 hlie2 hlt2
            have hM2 := hHeld
            have hbD := hHeld.blk.grown hgrow2 (fun e => hn2D e.symm)
            have hz3 := hbD.cell 0
            have hz4 := hbD.cell 1
            have hz5 := hbD.frozen 0
            have hz6 := hbD.frozen 1
            simp at hz3 hz4
            refine hK.out _ _ ?_
            clear hK K
            try simp only [List.getElem_toArray, List.getElem_cons_zero, List.getElem_cons_succ, Act.put, List.setIfInBounds_toArray, List.set_cons_zero, List.set_cons_succ]
            refine two_late (by kernel_rfl) ?_
            refine wpAny_take (i := 16) (v := ?_) rfl (by kernel_rfl) (by kernel_rfl) (by kernel_rfl) (fun _ _ _ h => h) (Or.inl ⟨by rfl, ?_⟩) ?_
            rotate_left 1
            · intro w'
              go_simp
              try (with_reducible rfl)
            try simp only [List.getElem_toArray, List.getElem_cons_zero, List.getElem_cons_succ, Act.put, List.setIfInBounds_toArray, List.set_cons_zero, List.set_cons_succ]
            refine wpAny_take (i := 17) (v := ?_) rfl (by kernel_rfl) (by kernel_rfl) (by kernel_rfl) (fun _ _ _ h => h) (Or.inl ⟨by rfl, ?_⟩) ?_
            rotate_left 1
            · intro w'
              go_simp
              try (with_reducible rfl)
            try simp only [List.getElem_toArray, List.getElem_cons_zero, List.getElem_cons_succ, Act.put, List.setIfInBounds_toArray, List.set_cons_zero, List.set_cons_succ]
            refine wpAny_ready (rs := [18]) (by kernel_rfl) (by simp) ?_
            refine AllReady.cons' rfl (fun K hK => ?_) AllReady.nil
            go_simp
            refine hK.out _ _ ?_
            clear hK K
            try simp only [List.getElem_toArray, List.getElem_cons_zero, List.getElem_cons_succ, Act.put, List.setIfInBounds_toArray, List.set_cons_zero, List.set_cons_succ]
            refine wpAny_take (i := 19) (v := ?_) rfl (by kernel_rfl) (by kernel_rfl) (by kernel_rfl) (fun _ _ _ h => h) (Or.inl ⟨by rfl, ?_⟩) ?_
            rotate_left 1
            · intro w'
              go_simp
              try (with_reducible rfl)
            try simp only [List.getElem_toArray, List.getElem_cons_zero, List.getElem_cons_succ, Act.put, List.setIfInBounds_toArray, List.set_cons_zero, List.set_cons_succ]
            refine wpAny_take (i := 20) (v := ?_) rfl (by kernel_rfl) (by kernel_rfl) (by kernel_rfl) (fun _ _ _ h => h) (Or.inl ⟨by rfl, ?_⟩) ?_
            rotate_left 1
            · intro w'
              go_simp
              try (with_reducible rfl)
            try simp only [List.getElem_toArray, List.getElem_cons_zero, List.getElem_cons_succ, Act.put, List.setIfInBounds_toArray, List.set_cons_zero, List.set_cons_succ]
            refine wpAny_ready (rs := [21]) (by kernel_rfl) (by simp) ?_
            refine AllReady.cons' rfl (fun K hK => ?_) AllReady.nil
            go_simp
            refine hK.out _ _ ?_
            clear hK K
            try simp only [List.getElem_toArray, List.getElem_cons_zero, List.getElem_cons_succ, Act.put, List.setIfInBounds_toArray, List.set_cons_zero, List.set_cons_succ]
            refine wpAny_done (by kernel_rfl) ?_ _
            go_wp2
            go_end0
            exact pushed_end HL.out hDb hmI HG.out hbad.out HHD.out hM1 hyk.out hown1 hgrow1 hlie1 hlt1 (.inl rfl) hM2 hown2 hgrow2 hlie2 hlt2
        ·
          go_simp
          refine hK.out _ _ ?_ (fun hHeld => ?_)
          · exact hHeld.alloc _
          clear hK K
          try simp only [List.getElem_toArray, List.getElem_cons_zero, List.getElem_cons_succ, Act.put, List.setIfInBounds_toArray, List.set_cons_zero, List.set_cons_succ]
          refine two_ready (rs := [7]) (by kernel_rfl) (by kernel_rfl) (by simp) ?_
          refine AllReadyB.cons rfl (fun K hK => ?_) AllReadyB.nil
          go_simp
          refine hK.out _ _ ?_ (fun hHeld => ?_)
          · exact hHeld.alloc _
          clear hK K
          try simp only [List.getElem_toArray, List.getElem_cons_zero, List.getElem_cons_succ, Act.put, List.setIfInBounds_toArray, List.set_cons_zero, List.set_cons_succ]
          refine two_ready (rs := [8]) (by kernel_rfl) (by kernel_rfl) (by simp) ?_
          refine AllReadyB.cons rfl (fun K hK => ?_) AllReadyB.nil
          refine step_append_at rfl (.tmp 66) (.tmp 68) 22 (by rfl) base 3 i0 (.int .i64 0) 8 Try.underlying22 hi hz0 hz1 hz2 rfl (.slice (some ⟨g1, o1, none⟩) (m + 1) c1) (m + 1) (intsOf (I.take (m + 1))) (by rfl) (by repeat (first | (with_reducible assumption) | (with_reducible refine World.ownsAt.alloc ?_ _) | (with_reducible refine World.ownsAt.drew ?_) | (with_reducible refine World.ownsAt.drewN ?_ _))) _ _ (.int .i64 k) (by rfl) (Blk.cell (cs := #[.int .i64 k]) (t := 3) (by repeat (first | (with_reducible assumption) | ((with_reducible refine Blk.new' ?_); (simp [Nat.add_assoc]; done)) | (with_reducible refine Blk.alloc ?_ _) | (with_reducible refine Blk.more ?_ _ _) | (with_reducible refine Blk.drew ?_) | (with_reducible refine Blk.drewN ?_ _))) 0) rfl (by simp only [maxLen]; omega) (by omega) hHeld.base ?_
          intro g1 o1 c1 wa hown1 hgrow1 hlie1 hlt1
          have hM1 := hHeld
          have hbY := Blk.grown (t := 3) (cs := #[.int .i64 y]) (g := wr.heap.size) (by repeat (first | (with_reducible assumption) | ((with_reducible refine Blk.new' ?_); (simp [Nat.add_assoc]; done)) | (with_reducible refine Blk.alloc ?_ _) | (with_reducible refine Blk.more ?_ _ _) | (with_reducible refine Blk.drew ?_) | (with_reducible refine Blk.drewN ?_ _))) hgrow1 (fun e => by have := (HHD.out.own1.lt _ e.symm).2; omega)
          refine hK.out _ _ ?_ (fun hHeld => ?_)
          · exact hHeld.grown hgrow1 hn1D (fun g hg => .inr (HHD.out.in1 g hg)) HHD.out.apart
          clear hK K
          try simp only [List.getElem_toArray, List.getElem_cons_zero, List.getElem_cons_succ, Act.put, List.setIfInBounds_toArray, List.set_cons_zero, List.set_cons_succ]
          refine two_ready (rs := [15]) (by kernel_rfl) (by kernel_rfl) (by simp) ?_
          refine AllReadyB.last rfl (fun K hK => ?_)
          refine step_append_at rfl (.tmp 73) (.tmp 75) 22 (by rfl) base 3 i0 (.int .i64 0) 8 Try.underlying22 hi hz0 hz1 hz2 rfl ((.slice (some ⟨g2, o2, none⟩) (m + 1) c2)) (m + 1) (valsOf x (I.take (m + 1))) (by rfl) hHeld.own2 _ _ (.int .i64 y) (by rfl) (Blk.cell (cs := #[.int .i64 y]) (t := 3) (by repeat (first | (with_reducible assumption) | ((with_reducible refine Blk.new' ?_); (simp [Nat.add_assoc]; done)) | (with_reducible refine Blk.alloc ?_ _) | (with_reducible refine Blk.more ?_ _ _) | (with_reducible refine Blk.drew ?_) | (with_reducible refine Blk.drewN ?_ _))) 0) rfl (by simp only [maxLen]; omega) (by omega) hHeld.base ?_
          intro g2 o2 c2 wb hown2 hgrow2 hlie2 hlt2
          have hM2 := hHeld
          have hbD := hHeld.blk.grown hgrow2 (fun e => hn2D e.symm)
          have hz3 := hbD.cell 0
          have hz4 := hbD.cell 1
          have hz5 := hbD.frozen 0
          have hz6 := hbD.frozen 1
          simp at hz3 hz4
          refine hK.out _ _ ?_
          clear hK K
          try simp only [List.getElem_toArray, List.getElem_cons_zero, List.getElem_cons_succ, Act.put, List.setIfInBounds_toArray, List.set_cons_zero, List.set_cons_succ]
          refine two_late (by kernel_rfl) ?_
          refine wpAny_take (i := 16) (v := ?_) rfl (by kernel_rfl) (by kernel_rfl) (by kernel_rfl) (fun _ _ _ h => h) (Or.inl ⟨by rfl, ?_⟩) ?_
          rotate_left 1
          · intro w'
            go_simp
            try (with_reducible rfl)
          try simp only [List.getElem_toArray, List.getElem_cons_zero, List.getElem_cons_succ, Act.put, List.setIfInBounds_toArray, List.set_cons_zero, List.set_cons_succ]
          refine wpAny_take (i := 17) (v := ?_) rfl (by kernel_rfl) (by kernel_rfl) (by kernel_rfl) (fun _ _ _ h => h) (Or.inl ⟨by rfl, ?_⟩) ?_
          rotate_left 1
          · intro w'
            go_simp
            try (with_reducible rfl)
          try simp only [List.getElem_toArray, List.getElem_cons_zero, List.getElem_cons_succ, Act.put, List.setIfInBounds_toArray, List.set_cons_zero, List.set_cons_succ]
          refine wpAny_ready (rs := [18]) (by kernel_rfl) (by simp) ?_
          refine AllReady.cons' rfl (fun K hK => ?_) AllReady.nil
          go_simp
          refine hK.out _ _ ?_
          clear hK K
          try simp only [List.getElem_toArray, List.getElem_cons_zero, List.getElem_cons_succ, Act.put, List.setIfInBounds_toArray, List.set_cons_zero, List.set_cons_succ]
          refine wpAny_take (i := 19) (v := ?_) rfl (by kernel_rfl) (by kernel_rfl) (by kernel_rfl) (fun _ _ _ h => h) (Or.inl ⟨by rfl, ?_⟩) ?_
          rotate_left 1
          · intro w'
            go_simp
            try (with_reducible rfl)
          try simp only [List.getElem_toArray, List.getElem_cons_zero, List.getElem_cons_succ, Act.put, List.setIfInBounds_toArray, List.set_cons_zero, List.set_cons_succ]
          refine wpAny_take (i := 20) (v := ?_) rfl (by kernel_rfl) (by kernel_rfl) (by kernel_rfl) (fun _ _ _ h => h) (Or.inl ⟨by rfl, ?_⟩) ?_
          rotate_left 1
          · intro w'
            go_simp
            try (with_reducible rfl)
          try simp only [List.getElem_toArray, List.getElem_cons_zero, List.getElem_cons_succ, Act.put, List.setIfInBounds_toArray, List.set_cons_zero, List.set_cons_succ]
          refine wpAny_ready (rs := [21]) (by kernel_rfl) (by simp) ?_
          refine AllReady.cons' rfl (fun K hK => ?_) AllReady.nil
          go_simp
          refine hK.out _ _ ?_
          clear hK K
          try simp only [List.getElem_toArray, List.getElem_cons_zero, List.getElem_cons_succ, Act.put, List.setIfInBounds_toArray, List.set_cons_zero, List.set_cons_succ]
          refine wpAny_done (by kernel_rfl) ?_ _
          go_wp2
          go_end0
          exact pushed_end HL.out hDb hmI HG.out hbad.out HHD.out hM1 hyk.out hown1 hgrow1 hlie1 hlt1 (.inl rfl) hM2 hown2 hgrow2 hlie2 hlt2

      · have hb' : h xi y = false := by simpa using hb
        clear hb
        go_wp2_with fail
        go_quiet ((with_reducible exact quiet_left (HK.out _ _ _)))
        go_wp2_with fail
        refine wp_region_two (S := (fun w' => w'.cell? ⟨D, 0, none⟩ = some (.slice (some ⟨g1, o1, none⟩) (m + 1) c1) ∧ w'.cell? ⟨D, 1, none⟩ = some (.slice (some ⟨g2, o2, none⟩) (m + 1) c2))) 26 (by kernel_rfl) ?_ (fun hHeld => ?_)
        · exact ⟨hd0, hd1⟩
        refine two_pure (i := 1) (v := ?_) rfl (by kernel_rfl) (by kernel_rfl) (fun _ _ _ h => h) (Or.inl ⟨by rfl, ?_⟩) (by assumption) ?_
        rotate_left 1
        · intro w'
          go_simp
          try (with_reducible rfl)
        try simp only [List.getElem_toArray, List.getElem_cons_zero, List.getElem_cons_succ, Act.put, List.setIfInBounds_toArray, List.set_cons_zero, List.set_cons_succ]
        refine two_take (i := 0) (v := ?_) rfl (by kernel_rfl) (by kernel_rfl) (fun _ _ _ h => h) (Or.inl ⟨by rfl, ?_⟩) (by assumption) ?_
        rotate_left 1
        · intro w' hSw
          have hl0 := hSw.1
          have hl1 := hSw.2
          go_simp
          try (with_reducible rfl)
        try simp only [List.getElem_toArray, List.getElem_cons_zero, List.getElem_cons_succ, Act.put, List.setIfInBounds_toArray, List.set_cons_zero, List.set_cons_succ]
        refine two_take (i := 2) (v := ?_) rfl (by kernel_rfl) (by kernel_rfl) (fun _ _ _ h => h) (Or.inl ⟨by rfl, ?_⟩) (by assumption) ?_
        rotate_left 1
        · intro w' hSw
          have hl0 := hSw.1
          have hl1 := hSw.2
          go_simp
          try (with_reducible rfl)
        try simp only [List.getElem_toArray, List.getElem_cons_zero, List.getElem_cons_succ, Act.put, List.setIfInBounds_toArray, List.set_cons_zero, List.set_cons_succ]
        refine two_take (i := 3) (v := ?_) rfl (by kernel_rfl) (by kernel_rfl) (fun _ _ _ h => h) (Or.inl ⟨by rfl, ?_⟩) (by assumption) ?_
        rotate_left 1
        · intro w' hSw
          have hl0 := hSw.1
          have hl1 := hSw.2
          go_simp
          try (with_reducible rfl)
        try simp only [List.getElem_toArray, List.getElem_cons_zero, List.getElem_cons_succ, Act.put, List.setIfInBounds_toArray, List.set_cons_zero, List.set_cons_succ]
        refine two_take (i := 4) (v := ?_) rfl (by kernel_rfl) (by kernel_rfl) (fun _ _ _ h => h) (Or.inl ⟨by rfl, ?_⟩) (by assumption) ?_
        rotate_left 1
        · intro w' hSw
          have hl0 := hSw.1
          have hl1 := hSw.2
          go_simp
          try (with_reducible rfl)
        try simp only [List.getElem_toArray, List.getElem_cons_zero, List.getElem_cons_succ, Act.put, List.setIfInBounds_toArray, List.set_cons_zero, List.set_cons_succ]
        refine two_take (i := 5) (v := ?_) rfl (by kernel_rfl) (by kernel_rfl) (fun _ _ _ h => h) (Or.inl ⟨by rfl, ?_⟩) (by assumption) ?_
        rotate_left 1
        · intro w' hSw
          have hl0 := hSw.1
          have hl1 := hSw.2
          go_simp
          try (with_reducible rfl)
        try simp only [List.getElem_toArray, List.getElem_cons_zero, List.getElem_cons_succ, Act.put, List.setIfInBounds_toArray, List.set_cons_zero, List.set_cons_succ]
        refine two_take (i := 6) (v := ?_) rfl (by kernel_rfl) (by kernel_rfl) (fun _ _ _ h => h) (Or.inl ⟨by rfl, ?_⟩) (by assumption) ?_
        rotate_left 1
        · intro w' hSw
          have hl0 := hSw.1
          have hl1 := hSw.2
          go_simp
          try (with_reducible rfl)
        try simp only [List.getElem_toArray, List.getElem_cons_zero, List.getElem_cons_succ, Act.put, List.setIfInBounds_toArray, List.set_cons_zero, List.set_cons_succ]
        refine two_take (i := 7) (v := ?_) rfl (by kernel_rfl) (by kernel_rfl) (fun _ _ _ h => h) (Or.inl ⟨by rfl, ?_⟩) (by assumption) ?_
        rotate_left 1
        · intro w' hSw
          have hl0 := hSw.1
          have hl1 := hSw.2
          go_simp
          try (with_reducible rfl)
        try simp only [List.getElem_toArray, List.getElem_cons_zero, List.getElem_cons_succ, Act.put, List.setIfInBounds_toArray, List.set_cons_zero, List.set_cons_succ]
        refine two_take (i := 8) (v := ?_) rfl (by kernel_rfl) (by kernel_rfl) (fun _ _ _ h => h) (Or.inl ⟨by rfl, ?_⟩) (by assumption) ?_
        rotate_left 1
        · intro w' hSw
          have hl0 := hSw.1
          have hl1 := hSw.2
          go_simp
          try (with_reducible rfl)
        try simp only [List.getElem_toArray, List.getElem_cons_zero, List.getElem_cons_succ, Act.put, List.setIfInBounds_toArray, List.set_cons_zero, List.set_cons_succ]
        refine two_take (i := 9) (v := ?_) rfl (by kernel_rfl) (by kernel_rfl) (fun _ _ _ h => h) (Or.inl ⟨by rfl, ?_⟩) (by assumption) ?_
        rotate_left 1
        · intro w' hSw
          have hl0 := hSw.1
          have hl1 := hSw.2
          go_simp
          try (with_reducible rfl)
        try simp only [List.getElem_toArray, List.getElem_cons_zero, List.getElem_cons_succ, Act.put, List.setIfInBounds_toArray, List.set_cons_zero, List.set_cons_succ]
        refine two_take (i := 10) (v := ?_) rfl (by kernel_rfl) (by kernel_rfl) (fun _ _ _ h => h) (Or.inl ⟨by rfl, ?_⟩) (by assumption) ?_
        rotate_left 1
        · intro w' hSw
          have hl0 := hSw.1
          have hl1 := hSw.2
          go_simp
          try (with_reducible rfl)
        try simp only [List.getElem_toArray, List.getElem_cons_zero, List.getElem_cons_succ, Act.put, List.setIfInBounds_toArray, List.set_cons_zero, List.set_cons_succ]
        refine two_take (i := 11) (v := ?_) rfl (by kernel_rfl) (by kernel_rfl) (fun _ _ _ h => h) (Or.inl ⟨by rfl, ?_⟩) (by assumption) ?_
        rotate_left 1
        · intro w' hSw
          have hl0 := hSw.1
          have hl1 := hSw.2
          go_simp
          try (with_reducible rfl)
        try simp only [List.getElem_toArray, List.getElem_cons_zero, List.getElem_cons_succ, Act.put, List.setIfInBounds_toArray, List.set_cons_zero, List.set_cons_succ]
        refine two_take (i := 12) (v := ?_) rfl (by kernel_rfl) (by kernel_rfl) (fun _ _ _ h => h) (Or.inl ⟨by rfl, ?_⟩) (by assumption) ?_
        rotate_left 1
        · intro w' hSw
          have hl0 := hSw.1
          have hl1 := hSw.2
          go_simp
          try (with_reducible rfl)
        try simp only [List.getElem_toArray, List.getElem_cons_zero, List.getElem_cons_succ, Act.put, List.setIfInBounds_toArray, List.set_cons_zero, List.set_cons_succ]
        refine two_pure (i := 13) (v := ?_) rfl (by kernel_rfl) (by kernel_rfl) (fun _ _ _ h => h) (Or.inl ⟨by rfl, ?_⟩) (by assumption) ?_
        rotate_left 1
        · intro w'
          go_simp
          try (with_reducible rfl)
        try simp only [List.getElem_toArray, List.getElem_cons_zero, List.getElem_cons_succ, Act.put, List.setIfInBounds_toArray, List.set_cons_zero, List.set_cons_succ]
        refine two_pure (i := 14) (v := ?_) rfl (by kernel_rfl) (by kernel_rfl) (fun _ _ _ h => h) (Or.inl ⟨by rfl, ?_⟩) (by assumption) ?_
        rotate_left 1
        · intro w'
          go_simp
          try (with_reducible rfl)
        try simp only [List.getElem_toArray, List.getElem_cons_zero, List.getElem_cons_succ, Act.put, List.setIfInBounds_toArray, List.set_cons_zero, List.set_cons_succ]
        refine two_pure (i := 15) (v := ?_) rfl (by kernel_rfl) (by kernel_rfl) (fun _ _ _ h => h) (Or.inl ⟨by rfl, ?_⟩) (by assumption) ?_
        rotate_left 1
        · intro w'
          go_simp
          try (with_reducible rfl)
        try simp only [List.getElem_toArray, List.getElem_cons_zero, List.getElem_cons_succ, Act.put, List.setIfInBounds_toArray, List.set_cons_zero, List.set_cons_succ]
        refine two_take (i := 16) (v := ?_) rfl (by kernel_rfl) (by kernel_rfl) (fun _ _ _ h => h) (Or.inl ⟨by rfl, ?_⟩) (by assumption) ?_
        rotate_left 1
        · intro w' hSw
          have hl0 := hSw.1
          have hl1 := hSw.2
          go_simp
          try (with_reducible rfl)
        try simp only [List.getElem_toArray, List.getElem_cons_zero, List.getElem_cons_succ, Act.put, List.setIfInBounds_toArray, List.set_cons_zero, List.set_cons_succ]
        refine two_pure (i := 17) (v := ?_) rfl (by kernel_rfl) (by kernel_rfl) (fun _ _ _ h => h) (Or.inl ⟨by rfl, ?_⟩) (by assumption) ?_
        rotate_left 1
        · intro w'
          go_simp
          try (with_reducible rfl)
        try simp only [List.getElem_toArray, List.getElem_cons_zero, List.getElem_cons_succ, Act.put, List.setIfInBounds_toArray, List.set_cons_zero, List.set_cons_succ]
        refine two_pure (i := 18) (v := ?_) rfl (by kernel_rfl) (by kernel_rfl) (fun _ _ _ h => h) (Or.inl ⟨by rfl, ?_⟩) (by assumption) ?_
        rotate_left 1
        · intro w'
          go_simp
          try (with_reducible rfl)
        try simp only [List.getElem_toArray, List.getElem_cons_zero, List.getElem_cons_succ, Act.put, List.setIfInBounds_toArray, List.set_cons_zero, List.set_cons_succ]
        refine two_pure (i := 19) (v := ?_) rfl (by kernel_rfl) (by kernel_rfl) (fun _ _ _ h => h) (Or.inl ⟨by rfl, ?_⟩) (by assumption) ?_
        rotate_left 1
        · intro w'
          go_simp
          try (with_reducible rfl)
        try simp only [List.getElem_toArray, List.getElem_cons_zero, List.getElem_cons_succ, Act.put, List.setIfInBounds_toArray, List.set_cons_zero, List.set_cons_succ]
        refine two_take (i := 20) (v := ?_) rfl (by kernel_rfl) (by kernel_rfl) (fun _ _ _ h => h) (Or.inl ⟨by rfl, ?_⟩) (by assumption) ?_
        rotate_left 1
        · intro w' hSw
          have hl0 := hSw.1
          have hl1 := hSw.2
          go_simp
          try (with_reducible rfl)
        try simp only [List.getElem_toArray, List.getElem_cons_zero, List.getElem_cons_succ, Act.put, List.setIfInBounds_toArray, List.set_cons_zero, List.set_cons_succ]
        refine two_pure (i := 21) (v := ?_) rfl (by kernel_rfl) (by kernel_rfl) (fun _ _ _ h => h) (Or.inl ⟨by rfl, ?_⟩) (by assumption) ?_
        rotate_left 1
        · intro w'
          go_simp
          try (with_reducible rfl)
        try simp only [List.getElem_toArray, List.getElem_cons_zero, List.getElem_cons_succ, Act.put, List.setIfInBounds_toArray, List.set_cons_zero, List.set_cons_succ]
        refine two_pure (i := 22) (v := ?_) rfl (by kernel_rfl) (by kernel_rfl) (fun _ _ _ h => h) (Or.inl ⟨by rfl, ?_⟩) (by assumption) ?_
        rotate_left 1
        · intro w'
          go_simp
          try (with_reducible rfl)
        try simp only [List.getElem_toArray, List.getElem_cons_zero, List.getElem_cons_succ, Act.put, List.setIfInBounds_toArray, List.set_cons_zero, List.set_cons_succ]
        refine two_pure (i := 23) (v := ?_) rfl (by kernel_rfl) (by kernel_rfl) (fun _ _ _ h => h) (Or.inl ⟨by rfl, ?_⟩) (by assumption) ?_
        rotate_left 1
        · intro w'
          go_simp
          try (with_reducible rfl)
        try simp only [List.getElem_toArray, List.getElem_cons_zero, List.getElem_cons_succ, Act.put, List.setIfInBounds_toArray, List.set_cons_zero, List.set_cons_succ]
        refine two_take (i := 24) (v := ?_) rfl (by kernel_rfl) (by kernel_rfl) (fun _ _ _ h => h) (Or.inl ⟨by rfl, ?_⟩) (by assumption) ?_
        rotate_left 1
        · intro w' hSw
          have hl0 := hSw.1
          have hl1 := hSw.2
          go_simp
          try (with_reducible rfl)
        try simp only [List.getElem_toArray, List.getElem_cons_zero, List.getElem_cons_succ, Act.put, List.setIfInBounds_toArray, List.set_cons_zero, List.set_cons_succ]
        refine two_take (i := 25) (v := ?_) rfl (by kernel_rfl) (by kernel_rfl) (fun _ _ _ h => h) (Or.inl ⟨by rfl, ?_⟩) (by assumption) ?_
        rotate_left 1
        · intro w' hSw
          have hl0 := hSw.1
          have hl1 := hSw.2
          go_simp
          try (with_reducible rfl)
        try simp only [List.getElem_toArray, List.getElem_cons_zero, List.getElem_cons_succ, Act.put, List.setIfInBounds_toArray, List.set_cons_zero, List.set_cons_succ]
        refine two_ready (rs := [26]) (by kernel_rfl) (by kernel_rfl) (by simp) ?_
        refine AllReadyB.last rfl (fun K hK => ?_)
        go_simp
        refine hK.out _ _ ?_
        clear hK K
        try simp only [List.getElem_toArray, List.getElem_cons_zero, List.getElem_cons_succ, Act.put, List.setIfInBounds_toArray, List.set_cons_zero, List.set_cons_succ]
        refine two_late (by kernel_rfl) ?_
        refine wpAny_take (i := 27) (v := ?_) rfl (by kernel_rfl) (by kernel_rfl) (by kernel_rfl) (fun _ _ _ h => h) (Or.inl ⟨by rfl, ?_⟩) ?_
        rotate_left 1
        · intro w'
          go_simp
          try (with_reducible rfl)
        try simp only [List.getElem_toArray, List.getElem_cons_zero, List.getElem_cons_succ, Act.put, List.setIfInBounds_toArray, List.set_cons_zero, List.set_cons_succ]
        refine wpAny_take (i := 28) (v := ?_) rfl (by kernel_rfl) (by kernel_rfl) (by kernel_rfl) (fun _ _ _ h => h) (Or.inl ⟨by rfl, ?_⟩) ?_
        rotate_left 1
        · intro w'
          go_simp
          try (with_reducible rfl)
        try simp only [List.getElem_toArray, List.getElem_cons_zero, List.getElem_cons_succ, Act.put, List.setIfInBounds_toArray, List.set_cons_zero, List.set_cons_succ]
        refine wpAny_ready (rs := [29]) (by kernel_rfl) (by simp) ?_
        refine AllReady.cons' rfl (fun K hK => ?_) AllReady.nil
        go_simp
        refine hK.out _ _ ?_
        clear hK K
        try simp only [List.getElem_toArray, List.getElem_cons_zero, List.getElem_cons_succ, Act.put, List.setIfInBounds_toArray, List.set_cons_zero, List.set_cons_succ]
        refine wpAny_done (by kernel_rfl) ?_ _
        go_wp2_with fail
        go_roundg m
        case measure => omega
        case rel => exact popped_end hDb HHD.out HL.out ((HM.out.touch.drewN _).drew) rfl hbad.out HI.out (by rw [← hxi.out, ← hyk.out]; exact hb') (by omega)
end Go.Proofs.Ytmlkebemkibipaa
