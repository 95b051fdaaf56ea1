/- What stands while states are found and the steps between them are told. Conditions: none. -/
import Derived.Test.YtgmljgcmfooniaaGreatDoorStFindN
import Derived.Test.YtgmljgcmfooniaaGreatDoorStRnd
import Derived.Test.YtgmljgcmfooniaaGreatDoorStDraws
import Derived.Test.YtgmljgcmfooniaaGreatDoorStLawE
import Derived.Test.YtgmljgcmfooniaaGreatDoorDuelP
set_option linter.unusedVariables false
set_option linter.unusedSimpArgs false
namespace Go.Proofs.YtgmljgcmfooniaaGreatDoor
open Go.RowKit Go.Shelf Go.Tide
set_option linter.unusedVariables false
set_option linter.unusedSimpArgs false
abbrev Edge := Nat × Nat × (Nat → Int)
/-- Who is told of the steps: what stands behind so many of them, X the blocks that are its own. -/
structure Tell (tf : Nat) (tb : Array Value) (T : List Edge → (Nat → Prop) → World → Prop) : Prop where
  enters : ∀ args w, (callFunc tf args).run Tryz.prog w = .ok (.enter tf args) w
  keep : ∀ E X W W', T E X W → Off (fun g => ¬ X g) W W' → T E X W'
  cells : ∀ E X W g, T E X W → X g → ∃ o : Obj, W.heap[g]? = some o ∧ o.isCells = true
  call : ∀ E X W k n q, T E X W → k < 300 → n < 300 → (∀ j, 0 ≤ q j ∧ q j ≤ 100) → E.length < 4800 → Calls Tryz.prog tf (#[.int .i64 (k : Nat), .int .i64 (n : Nat), .agg #[.int .i64 (q 0), .int .i64 (q 1), .int .i64 (q 2), .int .i64 (q 3), .int .i64 (q 4), .int .i64 (q 5)]] ++ tb) W fun e w' =>
    e = .returned (.tuple #[]) ∧ ∃ X', T (E ++ [(k, n, q)]) X' w' ∧ Off X W w' ∧ ∀ g, X' g → X g ∨ W.heap.size ≤ g
/-- The state behind a draw. -/
def dNx (r : DRules) (J : Nat) (s : DSt) (i : Nat) : DSt := dGo r s ((i / (J + 1) : Nat) : Int) ((i % (J + 1) : Nat) : Int)
theorem late_at {r : DRules} {J i : Nat} (hJ : r.jit = J) (hi : i < (J + 1) * (J + 1)) : dLate r ((i / (J + 1) : Nat) : Int) ((i % (J + 1) : Nat) : Int) := by
  have h1 := Nat.mod_lt i (show 0 < J + 1 by omega)
  have h2 : i / (J + 1) < J + 1 := (Nat.div_lt_iff_lt_mul (by omega)).2 hi
  exact ⟨⟨Int.natCast_nonneg _, by rw [hJ]; exact Int.ofNat_le.2 (Nat.le_of_lt_succ h2)⟩, Int.natCast_nonneg _, by rw [hJ]; exact Int.ofNat_le.2 (Nat.le_of_lt_succ h1)⟩
/-- What is found is right. -/
structure GI (r : DRules) (s : Fnd DSt) : Prop where
  len : s.pr.length = s.l.length
  le : s.l.length ≤ 300
  ok : ∀ x ∈ s.l, x.ok r
theorem gi_begin {r : DRules} (hr : r.ok) : GI r ⟨[dBegin r], [(-1, 0)]⟩ := ⟨rfl, by simp, fun x hx => by rw [List.mem_singleton] at hx; subst hx; exact begin_ok hr⟩
theorem gi_step {r : DRules} {J k i : Nat} (hr : r.ok) (hJ : r.jit = J) (hi : i < (J + 1) * (J + 1)) {Q Q' : Fnd DSt × List Edge} (h : GI r Q.1) (hs : pStep (dNx r J) 300 (dRow r) k i Q = some Q') (hk : k < Q.1.l.length) :
    GI r Q'.1 ∧ Q'.2.length = Q.2.length + 1 ∧ k < Q'.1.l.length := by
  unfold pStep at hs
  rw [List.getElem?_eq_getElem hk] at hs
  dsimp only at hs
  split at hs
  · injection hs with hs
    subst hs
    exact ⟨h, by simp, hk⟩
  · split at hs
    · cases hs
    · injection hs with hs
      subst hs
      refine ⟨⟨by simp [h.len], by have := h.le; simp; omega, fun x hx => ?_⟩, by simp, by simp; omega⟩
      rcases List.mem_append.1 hx with hx | hx
      · exact h.ok x hx
      · rw [List.mem_singleton] at hx
        subst hx
        exact DSt.go_ok hr (h.ok _ (List.getElem_mem hk)) (late_at hJ hi)
theorem gi_many {r : DRules} {J k : Nat} (hr : r.ok) (hJ : r.jit = J) : ∀ (is : List Nat) {Q Q' : Fnd DSt × List Edge}, (∀ i ∈ is, i < (J + 1) * (J + 1)) → GI r Q.1 → pMany (dNx r J) 300 (dRow r) k is Q = some Q' → k < Q.1.l.length →
    GI r Q'.1 ∧ Q'.2.length = Q.2.length + is.length ∧ k < Q'.1.l.length := by
  intro is
  induction is with
  | nil => intro Q Q' _ h hs hk; injection hs with hs; subst hs; exact ⟨h, rfl, hk⟩
  | cons i is ih =>
    intro Q Q' hi h hs hk
    unfold pMany at hs
    cases h1 : pStep (dNx r J) 300 (dRow r) k i Q with
    | none => rw [h1] at hs; cases hs
    | some Q1 =>
      rw [h1] at hs
      obtain ⟨a, b, c⟩ := gi_step hr hJ (hi i (List.mem_cons_self ..)) h h1 hk
      obtain ⟨a', b', c'⟩ := ih (fun j hj => hi j (List.mem_cons_of_mem _ hj)) a hs c
      exact ⟨a', by rw [b', b, List.length_cons]; omega, c'⟩
section
variable {X Y : Nat → Prop} {w0 w w1 : World} {B S M J : Nat} {v1 v2 v3 : Value} {s : Fnd DSt}
theorem SMap.off {l : List DSt} (h : SMap w M l) (k : Off Y w w1) (hy : ¬ Y M) : SMap w1 M l := by
  obtain ⟨D, ⟨es, clock, hb, rest⟩, h2⟩ := h
  refine ⟨D, ⟨es, clock, (k.block M ?_ hy).trans hb, rest⟩, h2⟩
  exact (Array.getElem?_eq_some_iff.1 hb).1
theorem own_off {base size n : Nat} {e : TypeId} {v : Value} {xs : List Value} (h : w.ownsRow base e size v n xs) (k : Off Y w w1) (hy : ∀ g, v.ownBlock = some g → ¬ Y g) : w1.ownsRow base e size v n xs := by
  refine ⟨h.1, ?_⟩
  rcases h.2 with h1 | ⟨g, cap, cur, rfl, hb, hc, rest⟩
  · exact .inl h1
  · exact .inr ⟨g, cap, cur, rfl, hb, (k.block g (Array.getElem?_eq_some_iff.1 hc).1 (hy g rfl)).trans hc, rest⟩
theorem Spc.keep (h : Spc B w S M v1 v2 v3 s J) (k : Off Y w w1) (hy : ∀ g, SOwn S M v1 v2 v3 g → ¬ Y g) : Spc B w1 S M v1 v2 v3 s J :=
  ⟨h.blk.off k (hy S (.inl rfl)), h.map.off k (hy M (.inr (.inl rfl))), own_off h.r1 k (fun g e => hy g (.inr (.inr (.inl e)))), own_off h.r2 k (fun g e => hy g (.inr (.inr (.inr (.inl e))))), own_off h.r3 k (fun g e => hy g (.inr (.inr (.inr (.inr e))))),
    h.a12, h.a13, h.a23, h.s1, h.m1, h.sm, ⟨h.sB.1, h.sB.2.1, Nat.le_trans h.sB.2.2 k.size⟩, Off.refl _ _, ⟨.inl rfl, .inr (.inl rfl)⟩, fun g e => .inl (.inr (.inr (.inl e))), fun g e => .inl (.inr (.inr (.inr (.inl e)))), fun g e => .inl (.inr (.inr (.inr (.inr e))))⟩
theorem own_cells {base size n : Nat} {e : TypeId} {v : Value} {xs : List Value} (h : w.ownsRow base e size v n xs) {g : Nat} (hg : v.ownBlock = some g) : ∃ o : Obj, w.heap[g]? = some o ∧ o.isCells = true := by
  rcases h.2 with ⟨rfl, _⟩ | ⟨g', cap, cur, rfl, hb, hc, _⟩
  · cases hg
  · simp [Value.ownBlock] at hg
    subst hg
    exact ⟨_, hc, rfl⟩
theorem Spc.cells (h : Spc B w S M v1 v2 v3 s J) {g : Nat} (hg : SOwn S M v1 v2 v3 g) : g = M ∨ ∃ o : Obj, w.heap[g]? = some o ∧ o.isCells = true := by
  rcases hg with rfl | rfl | e | e | e
  · exact .inr ⟨_, h.blk, rfl⟩
  · exact .inl rfl
  · exact .inr (own_cells h.r1 e)
  · exact .inr (own_cells h.r2 e)
  · exact .inr (own_cells h.r3 e)
theorem Spc.ge (h : Spc B w S M v1 v2 v3 s J) {g : Nat} (hg : SOwn S M v1 v2 v3 g) : B ≤ g ∧ g < w.heap.size := by
  rcases hg with rfl | rfl | e | e | e
  · exact ⟨h.sB.1, h.blk.lt⟩
  · exact ⟨h.sB.2.1, h.map.lt⟩
  · exact own_lt h.r1 e
  · exact own_lt h.r2 e
  · exact own_lt h.r3 e
end
/-- The space, and who is told; apart from all boxes bx. -/
structure ES (T : List Edge → (Nat → Prop) → World → Prop) (X0 : Nat → Prop) (w0 : World) (r : DRules) (J B S M : Nat) (bx : List Nat) (W : World) (Q : Fnd DSt × List Edge) (v1 v2 v3 : Value) (X : Nat → Prop) : Prop where
  spc : Spc B W S M v1 v2 v3 Q.1 J
  told : T Q.2 X W
  gi : GI r Q.1
  sx : ∀ g, SOwn S M v1 v2 v3 g → ¬ X g ∧ g ∉ bx
  xb : ∀ g, X g → g ∉ bx
  xf : ∀ g, X g → X0 g ∨ w0.heap.size ≤ g
  bb : ∀ g ∈ bx, g < W.heap.size
  wB : w0.heap.size ≤ B
  off : Off X0 w0 W
section
variable {tf : Nat} {tb : Array Value} {T : List Edge → (Nat → Prop) → World → Prop} {X0 X Y : Nat → Prop} {w0 W W' : World} {r : DRules} {J B S M : Nat} {bx : List Nat} {Q : Fnd DSt × List Edge} {v1 v2 v3 : Value}
/-- Whatever turns that is none of theirs. -/
theorem ES.keep (hT : Tell tf tb T) (h : ES T X0 w0 r J B S M bx W Q v1 v2 v3 X) (k : Off Y W W') (hy : ∀ g, g < W.heap.size → Y g → w0.heap.size ≤ g ∧ g ≠ M ∧ ∃ o : Obj, W.heap[g]? = some o ∧ o.isCells = false) : ES T X0 w0 r J B S M bx W' Q v1 v2 v3 X := by
  have h1 : ∀ g, SOwn S M v1 v2 v3 g → ¬ Y g := fun g hg hyg => by
    obtain ⟨_, a, o, ho, hc⟩ := hy g (h.spc.ge hg).2 hyg
    rcases h.spc.cells hg with e | ⟨o', ho', hc'⟩
    · exact a e
    · rw [ho] at ho'; cases ho'; rw [hc] at hc'; cases hc'
  have h2 : ∀ g, X g → ¬ Y g := fun g hg hyg => by
    obtain ⟨o', ho', hc'⟩ := hT.cells _ _ _ g h.told hg
    obtain ⟨_, a, o, ho, hc⟩ := hy g (Array.getElem?_eq_some_iff.1 ho').1 hyg
    rw [ho] at ho'; cases ho'; rw [hc] at hc'; cases hc'
  exact ⟨h.spc.keep k h1, hT.keep _ _ _ _ h.told (k.mono fun g _ hg hx => h2 g hx hg), h.gi, h.sx, h.xb, h.xf, fun g hg => Nat.lt_of_lt_of_le (h.bb g hg) k.size, h.wB,
    ⟨k.os.trans h.off.os, k.tape.trans h.off.tape, k.output.trans h.off.output, Nat.le_trans h.off.size k.size, fun g hg hx => (k.block g (Nat.lt_of_lt_of_le hg h.off.size) (fun hyg => by have := (hy g (Nat.lt_of_lt_of_le hg h.off.size) hyg).1; omega)).trans (h.off.block g hg hx)⟩⟩
theorem ES.below (hT : Tell tf tb T) (h : ES T X0 w0 r J B S M bx W Q v1 v2 v3 X) (k : Below W.heap.size W W') : ES T X0 w0 r J B S M bx W' Q v1 v2 v3 X :=
  h.keep hT (Y := fun _ => False) (Off.of_below k) (fun g _ hg => hg.elim)
/-- One box more, or others. -/
theorem ES.boxes (h : ES T X0 w0 r J B S M bx W Q v1 v2 v3 X) (hT : Tell tf tb T) (bx' : List Nat) (hb : ∀ g ∈ bx', g < W.heap.size) (hn : ∀ g ∈ bx', g ∈ bx ∨ (¬ SOwn S M v1 v2 v3 g ∧ ¬ X g)) : ES T X0 w0 r J B S M bx' W Q v1 v2 v3 X :=
  ⟨h.spc, h.told, h.gi, fun g hg => ⟨(h.sx g hg).1, fun hm => (hn g hm).elim (h.sx g hg).2 (fun k => k.1 hg)⟩, fun g hg hm => (hn g hm).elim (h.xb g hg) (fun k => k.2 hg), h.xf, hb, h.wB, h.off⟩
/-- A box that is new. -/
theorem ES.box (h : ES T X0 w0 r J B S M bx W Q v1 v2 v3 X) (hT : Tell tf tb T) (o : Obj) : ES T X0 w0 r J B S M (W.heap.size :: bx) (W.alloc o) Q v1 v2 v3 X := by
  have h1 := h.below hT ((Below.refl _ W).alloc (Nat.le_refl _) o)
  refine h1.boxes hT _ (fun g hg => ?_) (fun g hg => ?_)
  · rcases List.mem_cons.1 hg with rfl | hg
    · simp
    · exact h1.bb g hg
  · rcases List.mem_cons.1 hg with rfl | hg
    · exact .inr ⟨fun e => absurd (h.spc.ge e).2 (Nat.lt_irrefl _), fun e => by obtain ⟨o', ho', _⟩ := hT.cells _ _ _ _ h.told e; exact absurd (Array.getElem?_eq_some_iff.1 ho').1 (Nat.lt_irrefl _)⟩
    · exact .inl hg
/-- Behind find: a state more. -/
theorem ES.found (hT : Tell tf tb T) (h : ES T X0 w0 r J B S M bx W Q v1 v2 v3 X) {s' : Fnd DSt} {u1 u2 u3 : Value} (hs : Spc B W' S M u1 u2 u3 s' J) (k : Off (SOwn S M v1 v2 v3) W W') (hf : ∀ g, SOwn S M u1 u2 u3 g → SOwn S M v1 v2 v3 g ∨ W.heap.size ≤ g) (hg : GI r s') : ES T X0 w0 r J B S M bx W' (s', Q.2) u1 u2 u3 X :=
  ⟨hs, hT.keep _ _ _ _ h.told (k.mono fun g _ hg hx => (h.sx g hg).1 hx), hg,
    fun g hg => (hf g hg).elim (h.sx g) (fun hge => ⟨fun hx => by obtain ⟨o', ho', _⟩ := hT.cells _ _ _ _ h.told hx; have := (Array.getElem?_eq_some_iff.1 ho').1; omega, fun hm => by have := h.bb g hm; omega⟩),
    h.xb, h.xf, fun g hg => Nat.lt_of_lt_of_le (h.bb g hg) k.size, h.wB,
    ⟨k.os.trans h.off.os, k.tape.trans h.off.tape, k.output.trans h.off.output, Nat.le_trans h.off.size k.size, fun g hg hx => (k.block g (Nat.lt_of_lt_of_le hg h.off.size) (fun hyg => by have := (h.spc.ge hyg).1; have := h.wB; omega)).trans (h.off.block g hg hx)⟩⟩
/-- Behind the telling: a step more. -/
theorem ES.tell (hT : Tell tf tb T) (h : ES T X0 w0 r J B S M bx W Q v1 v2 v3 X) {E' : List Edge} {X' : Nat → Prop} (ht : T E' X' W') (k : Off X W W') (hf : ∀ g, X' g → X g ∨ W.heap.size ≤ g) : ES T X0 w0 r J B S M bx W' (Q.1, E') v1 v2 v3 X' :=
  ⟨h.spc.keep k (fun g hg => (h.sx g hg).1), ht, h.gi, fun g hg => ⟨fun hx => (hf g hx).elim (h.sx g hg).1 (fun hge => by have := (h.spc.ge hg).2; omega), (h.sx g hg).2⟩,
    fun g hg hm => (hf g hg).elim (fun hx => h.xb g hx hm) (fun hge => by have := h.bb g hm; omega), fun g hg => (hf g hg).elim (h.xf g) (fun hge => .inr (Nat.le_trans h.off.size hge)), fun g hg => Nat.lt_of_lt_of_le (h.bb g hg) k.size, h.wB,
    ⟨k.os.trans h.off.os, k.tape.trans h.off.tape, k.output.trans h.off.output, Nat.le_trans h.off.size k.size, fun g hg hx => (k.block g (Nat.lt_of_lt_of_le hg h.off.size) (fun hxg => (h.xf g hxg).elim hx (fun hge => by omega))).trans (h.off.block g hg hx)⟩⟩
end
end Go.Proofs.YtgmljgcmfooniaaGreatDoor
