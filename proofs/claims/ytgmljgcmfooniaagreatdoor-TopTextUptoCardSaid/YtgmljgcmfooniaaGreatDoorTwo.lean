/- A region that draws its order, in two halves: until operation n has come up its loads are taken first, under a condition S on the world; behind n there is no condition (stores into the very cells that were loaded). Conditions: none. -/
import Derived.Deep.RegionHeld
import Derived.WalkKit
set_option linter.unusedVariables false
set_option linter.unusedSimpArgs false
namespace Go
section
variable {P : Program} {ops : Array Oper} {Q : Exit → Act → World → Prop} {md : Region.Mode} {S : World → Prop} {n : Nat}

def wpAnyB (P : Program) (md : Region.Mode) (ops : Array Oper) (Q : Exit → Act → World → Prop) (S : World → Prop) (n : Nat) : Nat → Array Bool → Act → World → Prop
  | 0, listed, a, w => Region.ready md ops listed = [] ∧ Q .normal a w
  | fuel + 1, listed, a, w =>
    (listed.getD n false = true ∧ wpAny P md ops Q (fuel + 1) listed a w) ∨
    (listed.getD n false = false ∧ (Region.ready md ops listed = [] → Q .normal a w) ∧
      ∀ i ∈ Region.ready md ops listed, wpOp P ops Q i (fun a' w' => (i ≠ n → S w') ∧ wpAnyB P md ops Q S n fuel (listed.setIfInBounds i true) a' w') a w)

theorem wpAny_of_two : ∀ (fuel : Nat) (listed : Array Bool) (a : Act) (w : World), wpAnyB P md ops Q S n fuel listed a w → wpAny P md ops Q fuel listed a w
  | 0, _, _, _, h => h
  | fuel + 1, _, _, _, .inl h => h.2
  | fuel + 1, _, _, _, .inr h => ⟨h.2.1, fun i hi => wpOp_mono (fun a' w' h' => wpAny_of_two fuel _ a' w' h'.2) (h.2.2 i hi)⟩
theorem wpAnyB_of_any {fuel : Nat} {listed : Array Bool} {a : Act} {w : World} (hd : listed.getD n false = true) (h : wpAny P md ops Q fuel listed a w) : wpAnyB P md ops Q S n fuel listed a w := by
  cases fuel with
  | zero => exact h
  | succ fuel => exact .inl ⟨hd, h⟩

/-- j waits for i, straight. -/
def waits (md : Region.Mode) (ops : Array Oper) (j i : Nat) : Bool := match ops[j]? with
  | some oj => oj.after.any fun e => Region.binds md e && e.on == i
  | none => false
/-- i comes ahead of n, by edges. -/
def aheadB (md : Region.Mode) (ops : Array Oper) (i : Nat) : Nat → Nat → Bool
  | 0, _ => false
  | f + 1, n => waits md ops n i || (List.range ops.size).any fun k => waits md ops n k && aheadB md ops i f k
/-- Whatever has come up has come up behind all that it waits for. -/
def closedB (md : Region.Mode) (ops : Array Oper) (listed : Array Bool) : Bool :=
  (List.range ops.size).all fun j => !listed.getD j false || match ops[j]? with
    | some oj => oj.after.all fun e => !Region.binds md e || listed.getD e.on false
    | none => true

theorem waits_iff {j i : Nat} : waits md ops j i = true ↔ ∃ oj, ops[j]? = some oj ∧ ∃ e ∈ oj.after, Region.binds md e = true ∧ e.on = i := by
  unfold waits
  cases h : ops[j]? with
  | none => simp
  | some oj =>
    simp only [Option.some.injEq, exists_eq_left']
    rw [Array.any_eq_true']
    simp only [Bool.and_eq_true, beq_iff_eq]
theorem closed_iff {listed : Array Bool} : closedB md ops listed = true ↔ ∀ j oj, ops[j]? = some oj → listed.getD j false = true → ∀ e ∈ oj.after, Region.binds md e = true → listed.getD e.on false = true := by
  simp only [closedB, List.all_eq_true, List.mem_range]
  constructor
  · intro h j oj hj hl e he hb
    have h1 := h j (Array.getElem?_eq_some_iff.1 hj).1
    simp only [hj, hl, Bool.not_true, Bool.false_or, Array.all_eq_true_iff_forall_mem, Bool.or_eq_true, Bool.not_eq_true'] at h1
    exact (h1 e he).resolve_left (by simp [hb])
  · intro h j hj
    cases ho : ops[j]? with
    | none => simp
    | some oj =>
      cases hl : listed.getD j false with
      | false => rfl
      | true =>
        simp only [Bool.not_true, Bool.false_or, Array.all_eq_true_iff_forall_mem, Bool.or_eq_true, Bool.not_eq_true']
        intro e he
        cases hb : Region.binds md e
        · exact .inl rfl
        · exact .inr (h j oj ho hl e he hb)
theorem closed_set {j : Nat} {listed : Array Bool} (hc : closedB md ops listed = true) (hj : j ∈ Region.ready md ops listed) : closedB md ops (listed.setIfInBounds j true) = true := by
  rw [closed_iff] at *
  obtain ⟨h0, oj, hoj, hall⟩ := mem_ready.1 hj
  intro k ok hk hl e he hb
  by_cases hjk : j = k
  · subst hjk
    rw [hoj] at hk
    cases hk
    exact getD_set_true (hall e he hb)
  · rw [getD_set_ne false hjk] at hl
    exact getD_set_true (hc k ok hk hl e he hb)
theorem ahead_listed {i : Nat} {listed : Array Bool} (hc : closedB md ops listed = true) : ∀ (f k : Nat), aheadB md ops i f k = true → listed.getD k false = true → listed.getD i false = true := by
  intro f
  induction f with
  | zero => intro k h; simp [aheadB] at h
  | succ f ih =>
    intro k h hl
    simp only [aheadB, Bool.or_eq_true, List.any_eq_true, Bool.and_eq_true] at h
    rcases h with h | ⟨m, _, h1, h2⟩
    · obtain ⟨ok, hk, e, he, hb, rfl⟩ := waits_iff.1 h
      exact closed_iff.1 hc k ok hk hl e he hb
    · obtain ⟨ok, hk, e, he, hb, rfl⟩ := waits_iff.1 h1
      exact ih _ h2 (closed_iff.1 hc k ok hk hl e he hb)
theorem ahead_ready {i f : Nat} {listed : Array Bool} (hc : closedB md ops listed = true) (h : aheadB md ops i f n = true) (hn : n ∈ Region.ready md ops listed) : listed.getD i false = true := by
  obtain ⟨_, on, hon, hall⟩ := mem_ready.1 hn
  cases f with
  | zero => simp [aheadB] at h
  | succ f =>
    simp only [aheadB, Bool.or_eq_true, List.any_eq_true, Bool.and_eq_true] at h
    rcases h with h | ⟨m, _, h1, h2⟩
    · obtain ⟨ok, hk, e, he, hb, rfl⟩ := waits_iff.1 h
      rw [hon] at hk
      cases hk
      exact hall e he hb
    · obtain ⟨ok, hk, e, he, hb, rfl⟩ := waits_iff.1 h1
      rw [hon] at hk
      cases hk
      exact ahead_listed hc f _ h2 (hall e he hb)

theorem wait_of {i : Nat} {oj : Oper} {listed : Array Bool} (hr : i ∈ Region.ready md ops listed) (hall : ∀ e ∈ oj.after, Region.binds md e = true → listed.getD e.on false = true) :
    ∀ e ∈ oj.after, Region.binds md e = true → e.on ≠ i := fun e he hb heq => by
  have h1 := hall e he hb
  have h0 := (mem_ready.1 hr).1
  rw [heq] at h1
  rcases Nat.lt_or_ge i listed.size with h' | h'
  · simp [h'] at h0 h1; rw [h0] at h1; cases h1
  · simp [Array.getElem?_eq_none h'] at h1
theorem ready_false {i : Nat} {listed : Array Bool} (hr : i ∈ Region.ready md ops listed) : listed.getD i false = false := by
  have h0 := (mem_ready.1 hr).1
  rcases Nat.lt_or_ge i listed.size with h' | h'
  · simp [h'] at h0 ⊢; exact h0
  · simp [Array.getElem?_eq_none h'] at h0

/-- An operation ahead of n that yields in every world that meets S; or one that yields in whatever world. -/
theorem wpAnyB_first {i : Nat} {oi : Oper} {v : Value} (hi : ops[i]? = some oi) (hin : i ≠ n) (hsel : ∀ (j : Nat) (o : Oper) cs b, ops[j]? = some o → o.op ≠ .select cs b)
    (hQ : ∀ c a w, Q (.panic c) (a.put oi.dst v) w → Q (.panic c) a w) (pure : Bool) (f : Nat) (hp : pure = false → aheadB md ops i f n = true) :
    ∀ (fuel : Nat) (listed : Array Bool) (a : Act) (w : World),
      (∀ j oj, ops[j]? = some oj → j ≠ i → listed.getD j true = false → (∀ e ∈ oj.after, Region.binds md e = true → e.on ≠ i) → oi.apart ops oj = true) →
      closedB md ops listed = true → listed.getD n false = false →
      i ∈ Region.ready md ops listed → YieldsIf P ops (fun w => pure = false → S w) oi v a → S w →
      wpAnyB P md ops Q S n fuel (listed.setIfInBounds i true) (a.put oi.dst v) w → wpAnyB P md ops Q S n (fuel + 1) listed a w := by
  intro fuel
  induction fuel with
  | zero =>
    intro listed a w _ _ hn hr hy hS H
    refine .inr ⟨hn, fun h => (by rw [h] at hr; cases hr), fun j hj => ?_⟩
    by_cases hji : j = i
    · subst hji; exact hy.wpOp hi (fun _ => hS) ⟨fun _ => hS, H⟩
    · have := ready_mono hj hji
      rw [H.1] at this
      cases this
  | succ fuel ih =>
    intro listed a w hfree hc hn hr hy hS H
    refine .inr ⟨hn, fun h => (by rw [h] at hr; cases hr), fun j hj => ?_⟩
    by_cases hji : j = i
    · subst hji; exact hy.wpOp hi (fun _ => hS) ⟨fun _ => hS, H⟩
    · obtain ⟨hjun, oj, hoj, hall⟩ := mem_ready.1 hj
      have hnot := wait_of (md := md) (oj := oj) hr hall
      have hap := hfree j oj hoj hji hjun hnot
      have hfree' : ∀ k ok, ops[k]? = some ok → k ≠ i → (listed.setIfInBounds j true).getD k true = false →
          (∀ e ∈ ok.after, Region.binds md e = true → e.on ≠ i) → oi.apart ops ok = true := fun k ok hk hki hun hno => by
        refine hfree k ok hk hki ?_ hno
        by_cases hjk : j = k
        · subst hjk; exact hjun
        · rw [getD_set_ne true hjk] at hun; exact hun
      rcases H with ⟨hd, _⟩ | ⟨hd, H⟩
      · rw [getD_set_ne false hin, hn] at hd
        cases hd
      · have h1 := H.2 j (ready_mono hj hji)
        have h2 := wpOp_putIf hoj hap (fun cs b => hsel i oi cs b hi) (fun cs b => hsel j oj cs b hoj) hQ hy h1
        by_cases hjn : j = n
        · subst hjn
          have hpp : pure = true := by
            cases pure with
            | true => rfl
            | false =>
              have := ahead_ready hc (hp rfl) hj
              rw [ready_false hr] at this
              cases this
          subst hpp
          have hlt : j < listed.size := by
            rcases Nat.lt_or_ge j listed.size with h' | h'
            · exact h'
            · simp [Array.getElem?_eq_none h'] at hjun
          refine wpOp_mono (fun a' w' h3 => ⟨fun h => absurd rfl h, wpAnyB_of_any (by simp [hlt]) ?_⟩) h2
          have h4 := wpAny_of_two _ _ _ _ h3.2.2
          rw [Array.setIfInBounds_comm _ _ (Ne.symm hji)] at h4
          refine wpAny_first hi hsel hQ fuel (listed.setIfInBounds j true) a' w' hfree' (ready_mono hr (Ne.symm hji)) ?_ h4
          exact h3.1.imp (fun ⟨x, y⟩ => ⟨x, fun w => y w (fun h => by cases h)⟩) id
        · refine wpOp_mono (fun a' w' h3 => ⟨fun _ => h3.2.1 hjn, ih (listed.setIfInBounds j true) a' w' hfree' (closed_set hc hj) (by rw [getD_set_ne false hjn]; exact hn) (ready_mono hr (Ne.symm hji)) h3.1 (h3.2.1 hjn) ?_⟩) h2
          rw [Array.setIfInBounds_comm _ _ hji]
          exact h3.2.2

/-- What a take asks besides: n has not come up; i is not n; i comes ahead of n; what has come up is closed; and whoever may come ahead of i is apart from it. -/
def takeB (md : Region.Mode) (ops : Array Oper) (n : Nat) (listed : Array Bool) (i : Nat) : Bool :=
  !listed.getD n false && !(i == n) && aheadB md ops i ops.size n && closedB md ops listed && Region.free md ops listed i && (Region.ready md ops listed).contains i
def pureB (md : Region.Mode) (ops : Array Oper) (n : Nat) (listed : Array Bool) (i : Nat) : Bool :=
  !listed.getD n false && !(i == n) && closedB md ops listed && Region.free md ops listed i && (Region.ready md ops listed).contains i

/-- Take number i first: it comes ahead of n, and yields in every world that meets S. -/
theorem two_take {i : Nat} {oi : Oper} {v : Value} {fuel : Nat} {listed : Array Bool} {a : Act} {w : World} (hi : ops[i]? = some oi)
    (hs : Region.noSelect ops = true) (hb : takeB md ops n listed i = true)
    (hQ : ∀ c a w, Q (.panic c) (a.put oi.dst v) w → Q (.panic c) a w) (hy : YieldsIf P ops S oi v a) (hS : S w)
    (h : wpAnyB P md ops Q S n fuel (listed.setIfInBounds i true) (a.put oi.dst v) w) : wpAnyB P md ops Q S n (fuel + 1) listed a w := by
  simp only [takeB, Bool.and_eq_true, Bool.not_eq_true', beq_eq_false_iff_ne] at hb
  obtain ⟨⟨⟨⟨⟨h1, h2⟩, h3⟩, h4⟩, h5⟩, h6⟩ := hb
  exact wpAnyB_first hi h2 (Region.noSelect_spec hs) hQ false ops.size (fun _ => h3) fuel listed a w (Region.free_spec hi h5) h4 h1 (by simpa using h6)
    (hy.imp (fun ⟨x, y⟩ => ⟨x, fun w hw => y w (hw rfl)⟩) id) hS h
/-- Take number i first: it yields in whatever world. -/
theorem two_pure {i : Nat} {oi : Oper} {v : Value} {fuel : Nat} {listed : Array Bool} {a : Act} {w : World} (hi : ops[i]? = some oi)
    (hs : Region.noSelect ops = true) (hb : pureB md ops n listed i = true)
    (hQ : ∀ c a w, Q (.panic c) (a.put oi.dst v) w → Q (.panic c) a w) (hy : Yields P ops oi v a) (hS : S w)
    (h : wpAnyB P md ops Q S n fuel (listed.setIfInBounds i true) (a.put oi.dst v) w) : wpAnyB P md ops Q S n (fuel + 1) listed a w := by
  simp only [pureB, Bool.and_eq_true, Bool.not_eq_true', beq_eq_false_iff_ne] at hb
  obtain ⟨⟨⟨⟨h1, h2⟩, h4⟩, h5⟩, h6⟩ := hb
  exact wpAnyB_first hi h2 (Region.noSelect_spec hs) hQ true 0 (fun h => by cases h) fuel listed a w (Region.free_spec hi h5) h4 h1 (by simpa using h6)
    (hy.imp (fun ⟨x, y⟩ => ⟨x, fun w _ => y w⟩) id) hS h

def AllReadyB (P : Program) (md : Region.Mode) (ops : Array Oper) (Q : Exit → Act → World → Prop) (S : World → Prop) (n : Nat) (fuel : Nat) (listed : Array Bool) (a : Act) (w : World) (rs : List Nat) : Prop :=
  ∀ i ∈ rs, wpOp P ops Q i (fun a' w' => (i ≠ n → S w') ∧ wpAnyB P md ops Q S n fuel (listed.setIfInBounds i true) a' w') a w
theorem AllReadyB.nil {fuel : Nat} {listed : Array Bool} {a : Act} {w : World} : AllReadyB P md ops Q S n fuel listed a w [] := fun _ h => by cases h
theorem AllReadyB.cons {fuel : Nat} {listed : Array Bool} {a : Act} {w : World} {i : Nat} {o : Oper} {rs : List Nat} (ho : ops[i]? = some o)
    (h : ∀ K' : Act → World → Prop, Shut (∀ a w, S w → (S w → wpAnyB P md ops Q S n fuel (listed.setIfInBounds i true) a w) → K' a w) → if Region.wanted o (yielded ops a.tmps) = true then Oper.wp P o a w K' Q else K' (a.put o.dst undef) w)
    (hs : AllReadyB P md ops Q S n fuel listed a w rs) : AllReadyB P md ops Q S n fuel listed a w (i :: rs) := fun j hj => by
  rcases List.mem_cons.1 hj with rfl | hj
  · exact wpOp_step ho (fun K' hK => h K' (fun a w hS hW => hK a w ⟨fun _ => hS, hW hS⟩))
  · exact hs j hj
/-- .. at n itself: nothing of S is asked behind it. -/
theorem AllReadyB.last {fuel : Nat} {listed : Array Bool} {a : Act} {w : World} {o : Oper} (ho : ops[n]? = some o)
    (h : ∀ K' : Act → World → Prop, Shut (∀ a w, wpAnyB P md ops Q S n fuel (listed.setIfInBounds n true) a w → K' a w) → if Region.wanted o (yielded ops a.tmps) = true then Oper.wp P o a w K' Q else K' (a.put o.dst undef) w) :
    AllReadyB P md ops Q S n fuel listed a w [n] := fun j hj => by
  obtain rfl : j = n := by simpa using hj
  exact wpOp_step ho (fun K' hK => h K' (fun a w hW => hK a w ⟨fun h => absurd rfl h, hW⟩))
/-- Whichever of those that may come up comes up, while n has not. -/
theorem two_ready {rs : List Nat} {fuel : Nat} {listed : Array Bool} {a : Act} {w : World} (hd : listed.getD n false = false) (hr : Region.ready md ops listed = rs) (hne : rs ≠ [])
    (h : AllReadyB P md ops Q S n fuel listed a w rs) : wpAnyB P md ops Q S n (fuel + 1) listed a w :=
  .inr ⟨hd, fun h0 => absurd (hr ▸ h0) hne, hr ▸ h⟩
/-- n has come up: the second half. -/
theorem two_late {fuel : Nat} {listed : Array Bool} {a : Act} {w : World} (hd : listed.getD n false = true) (h : wpAny P md ops Q fuel listed a w) : wpAnyB P md ops Q S n fuel listed a w := wpAnyB_of_any hd h
/-- The beginning. -/
theorem wp_region_two {id : Nat} {a : Act} {w : World} (n : Nat) (hm : P.follows .mixedOrders = true) (hS : S w.drew)
    (h : S w.drew → wpAnyB P .any ops Q S n ops.size (Array.replicate ops.size false) a w.drew) : (Code.region id ops true).wp P Q a w :=
  wp_region_any hm (wpAny_of_two _ _ _ _ (h hS))
/-- The second half's steps behind a variable, as 'AllReadyB.cons'. -/
theorem AllReady.cons' {fuel : Nat} {listed : Array Bool} {a : Act} {w : World} {i : Nat} {o : Oper} {rs : List Nat} (ho : ops[i]? = some o)
    (h : ∀ K' : Act → World → Prop, Shut (∀ a w, wpAny P md ops Q fuel (listed.setIfInBounds i true) a w → K' a w) → if Region.wanted o (yielded ops a.tmps) = true then Oper.wp P o a w K' Q else K' (a.put o.dst undef) w)
    (hs : AllReady P md ops Q fuel listed a w rs) : AllReady P md ops Q fuel listed a w (i :: rs) := AllReady.cons ho (fun K' hK => h K' hK) hs
end
section
variable {P : Program} {ops : Array Oper} {Q : Exit → Act → World → Prop} {md : Region.Mode} {S : World → Prop} {n : Nat} {oi : Oper} {fuel : Nat} {listed : Array Bool} {a : Act} {w : World}
/-- The steps in short. -/
theorem t2 (i : Nat) (v : Value) (hi : ops[i]? = some oi) (hy : Region.wanted oi (yielded ops a.tmps) = true ∧ ∀ w, S w → (execOp a.eval oi).run P w = .ok (.value v) w)
    (h : wpAnyB P md ops Q S n fuel (listed.setIfInBounds i true) (a.put oi.dst v) w)
    (hs : Region.noSelect ops = true := by kernel_rfl) (hb : takeB md ops n listed i = true := by kernel_rfl)
    (hQ : ∀ c a w, Q (.panic c) (a.put oi.dst v) w → Q (.panic c) a w := by exact fun _ _ _ h => h) (hS : S w := by assumption) : wpAnyB P md ops Q S n (fuel + 1) listed a w :=
  two_take hi hs hb hQ (Or.inl hy) hS h
theorem p2 (i : Nat) (v : Value) (hi : ops[i]? = some oi) (hy : Region.wanted oi (yielded ops a.tmps) = true ∧ ∀ w, (execOp a.eval oi).run P w = .ok (.value v) w)
    (h : wpAnyB P md ops Q S n fuel (listed.setIfInBounds i true) (a.put oi.dst v) w)
    (hs : Region.noSelect ops = true := by kernel_rfl) (hb : pureB md ops n listed i = true := by kernel_rfl)
    (hQ : ∀ c a w, Q (.panic c) (a.put oi.dst v) w → Q (.panic c) a w := by exact fun _ _ _ h => h) (hS : S w := by assumption) : wpAnyB P md ops Q S n (fuel + 1) listed a w :=
  two_pure hi hs hb hQ (Or.inl hy) hS h
theorem s2 (i : Nat) (hi : ops[i]? = some oi) (hy : Region.wanted oi (yielded ops a.tmps) = false)
    (h : wpAnyB P md ops Q S n fuel (listed.setIfInBounds i true) (a.put oi.dst undef) w)
    (hs : Region.noSelect ops = true := by kernel_rfl) (hb : pureB md ops n listed i = true := by kernel_rfl)
    (hQ : ∀ c a w, Q (.panic c) (a.put oi.dst undef) w → Q (.panic c) a w := by exact fun _ _ _ h => h) (hS : S w := by assumption) : wpAnyB P md ops Q S n (fuel + 1) listed a w :=
  two_pure hi hs hb hQ (Or.inr ⟨hy, rfl⟩) hS h
theorem t20 (i : Nat) {v : Value} (hi : ops[i]? = some oi) (h : wpAnyB P md ops Q S n fuel (listed.setIfInBounds i true) (a.put oi.dst v) w)
    (hg : Region.wanted oi (yielded ops a.tmps) = true := by rfl) (hy : ∀ w', S w' → (execOp a.eval oi).run P w' = .ok (.value v) w' := by intro w' hSw; go_simp; try (with_reducible rfl))
    (hs : Region.noSelect ops = true := by kernel_rfl) (hb : takeB md ops n listed i = true := by kernel_rfl)
    (hQ : ∀ c a w, Q (.panic c) (a.put oi.dst v) w → Q (.panic c) a w := by exact fun _ _ _ h => h) (hS : S w := by assumption) : wpAnyB P md ops Q S n (fuel + 1) listed a w :=
  two_take hi hs hb hQ (Or.inl ⟨hg, hy⟩) hS h
theorem p20 (i : Nat) {v : Value} (hi : ops[i]? = some oi) (h : wpAnyB P md ops Q S n fuel (listed.setIfInBounds i true) (a.put oi.dst v) w)
    (hg : Region.wanted oi (yielded ops a.tmps) = true := by rfl) (hy : ∀ w', (execOp a.eval oi).run P w' = .ok (.value v) w' := by intro w'; go_simp; try (with_reducible rfl))
    (hs : Region.noSelect ops = true := by kernel_rfl) (hb : pureB md ops n listed i = true := by kernel_rfl)
    (hQ : ∀ c a w, Q (.panic c) (a.put oi.dst v) w → Q (.panic c) a w := by exact fun _ _ _ h => h) (hS : S w := by assumption) : wpAnyB P md ops Q S n (fuel + 1) listed a w :=
  two_pure hi hs hb hQ (Or.inl ⟨hg, hy⟩) hS h
end
end Go
