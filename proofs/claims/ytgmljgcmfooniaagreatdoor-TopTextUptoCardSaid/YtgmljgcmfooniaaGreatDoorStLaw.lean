/- All states that are come to, in the order in which they are found: plain. Conditions: none. -/
import Derived.Test.YtgmljgcmfooniaaGreatDoorKit
set_option linter.unusedVariables false
set_option linter.unusedSimpArgs false
namespace Go.Tide
section
variable {α : Type}
/-- What has been found, and how each was come to: from which one, by which draw. -/
structure Fnd (α : Type) where
  l : List α
  pr : List (Int × Nat)
structure FInv (nx : α → Nat → α) (m cap : Nat) (s0 : α) (t : Nat) (s : Fnd α) : Prop where
  len : s.pr.length = s.l.length
  pos : 1 ≤ s.l.length
  le : s.l.length ≤ cap
  first : s.l[0]? = some s0
  firstP : s.pr[0]? = some (-1, 0)
  apart : ∀ (i j : Nat) (x : α), s.l[i]? = some x → s.l[j]? = some x → i = j
  done : ∀ (k i : Nat) (x : α), i < m → k * m + i < t → s.l[k]? = some x → nx x i ∈ s.l
  par : ∀ (n : Nat) (y : α), 0 < n → s.l[n]? = some y → ∃ (k i : Nat) (x : α), s.pr[n]? = some ((k : Int), i) ∧ i < m ∧ k < n ∧ s.l[k]? = some x ∧ y = nx x i ∧ k * m + i < t
  mono : ∀ (n n' k i k' i' : Nat), 0 < n → n < n' → s.pr[n]? = some ((k : Int), i) → s.pr[n']? = some ((k' : Int), i') → k * m + i < k' * m + i'
  early : ∀ (n k i : Nat) (x : α) (k' i' : Nat), 0 < n → i < m → k * m + i < t → s.l[k]? = some x → s.l[n]? = some (nx x i) → s.pr[n]? = some ((k' : Int), i') → k' * m + i' ≤ k * m + i
variable {nx : α → Nat → α} {m cap : Nat} {s0 : α}
theorem snoc_lt {β : Type} {l : List β} {y : β} {n : Nat} (h : n < l.length) : (l ++ [y])[n]? = l[n]? := List.getElem?_append_left h
theorem snoc_at {β : Type} {l : List β} {y : β} : (l ++ [y])[l.length]? = some y := by simp
theorem snoc_some {β : Type} {l : List β} {y z : β} {n : Nat} (h : (l ++ [y])[n]? = some z) : (n < l.length ∧ l[n]? = some z) ∨ (n = l.length ∧ z = y) := by
  rcases Nat.lt_trichotomy n l.length with h1 | h1 | h1
  · rw [snoc_lt h1] at h; exact .inl ⟨h1, h⟩
  · subst h1; rw [snoc_at] at h; injection h with h; exact .inr ⟨rfl, h.symm⟩
  · rw [List.getElem?_eq_none (by simp; omega)] at h; cases h
theorem get_lt {β : Type} {l : List β} {z : β} {n : Nat} (h : l[n]? = some z) : n < l.length := (List.getElem?_eq_some_iff.1 h).1
theorem stamp_k {k i k' i' : Nat} (hi : i < m) (hi' : i' < m) (h : k * m + i ≤ k' * m + i') : k ≤ k' := by
  rcases Nat.lt_or_ge k' k with h1 | h1
  · have := Nat.mul_le_mul_right m (show k' + 1 ≤ k by omega)
    rw [Nat.add_mul] at this
    omega
  · exact h1
theorem stamp_eq {k i t : Nat} (hm : 0 < m) (hi : i < m) (h : k * m + i = t) : k = t / m ∧ i = t % m := by
  subst h
  rw [Nat.mul_comm, Nat.mul_add_div hm, Nat.div_eq_of_lt hi, Nat.mul_add_mod, Nat.mod_eq_of_lt hi]
  exact ⟨rfl, rfl⟩
theorem stamp_of (t : Nat) : t / m * m + t % m = t := by rw [Nat.mul_comm]; exact Nat.div_add_mod t m
theorem finv_zero (hc : 1 ≤ cap) : FInv nx m cap s0 0 ⟨[s0], [(-1, 0)]⟩ where
  len := rfl
  pos := Nat.le_refl _
  le := hc
  first := rfl
  firstP := rfl
  apart := fun i j x hi hj => by have := get_lt hi; have := get_lt hj; simp at *; omega
  done := fun _ _ _ _ h _ => absurd h (by omega)
  par := fun n y hn h => by have := get_lt h; simp at this; omega
  mono := fun n n' k i k' i' hn hl h h' => by have := get_lt h'; simp at this; omega
  early := fun n k i x k' i' hn hi h => absurd h (by omega)
/-- The draws that lead to number n, the last one first. -/
def leadAt (s : Fnd α) : Nat → Nat → List Nat
  | 0, _ => []
  | f + 1, n => if n = 0 then [] else match s.pr[n]? with
    | some (k, i) => i :: leadAt s f k.toNat
    | none => []
theorem lead_zero (s : Fnd α) (f : Nat) : leadAt s f 0 = [] := by cases f <;> simp [leadAt]
theorem lead_succ {s : Fnd α} {f n k i : Nat} (hn : 0 < n) (h : s.pr[n]? = some ((k : Int), i)) : leadAt s (f + 1) n = i :: leadAt s f k := by
  rw [leadAt, if_neg (by omega), h]
  simp
theorem lead_fuel {t : Nat} {s : Fnd α} (h : FInv nx m cap s0 t s) : ∀ n, n < s.l.length → ∀ f f', n ≤ f → n ≤ f' → leadAt s f n = leadAt s f' n := by
  intro n
  induction n using Nat.strongRecOn with
  | _ n ih =>
    intro hn f f' hf hf'
    rcases Nat.eq_zero_or_pos n with rfl | h0
    · rw [lead_zero, lead_zero]
    · obtain ⟨k, i, x, p1, p2, p3, p4, p5, p6⟩ := h.par n _ h0 (List.getElem?_eq_getElem hn)
      obtain ⟨f, rfl⟩ : ∃ g, f = g + 1 := ⟨f - 1, by omega⟩
      obtain ⟨f', rfl⟩ : ∃ g, f' = g + 1 := ⟨f' - 1, by omega⟩
      rw [lead_succ h0 p1, lead_succ h0 p1, ih k p3 (by omega) f f' (by omega) (by omega)]
/-- They lead there. -/
theorem lead_walk {t : Nat} {s : Fnd α} (h : FInv nx m cap s0 t s) : ∀ n f y, n ≤ f → s.l[n]? = some y → (leadAt s f n).reverse.foldl nx s0 = y ∧ ∀ i ∈ leadAt s f n, i < m := by
  intro n
  induction n using Nat.strongRecOn with
  | _ n ih =>
    intro f y hf hy
    rcases Nat.eq_zero_or_pos n with rfl | h0
    · rw [lead_zero]
      rw [h.first] at hy
      injection hy with hy
      exact ⟨hy, fun _ h => by cases h⟩
    · obtain ⟨k, i, x, p1, p2, p3, p4, p5, p6⟩ := h.par n y h0 hy
      obtain ⟨f, rfl⟩ : ∃ g, f = g + 1 := ⟨f - 1, by omega⟩
      obtain ⟨h1, h2⟩ := ih k p3 f x (by omega) p4
      rw [lead_succ h0 p1]
      refine ⟨?_, ?_⟩
      · rw [List.reverse_cons, List.foldl_append, h1, p5]
        rfl
      · intro j hj
        rcases List.mem_cons.1 hj with rfl | hj
        · exact p2
        · exact h2 j hj
theorem lead_mono {t : Nat} {s : Fnd α} (h : FInv nx m cap s0 t s) : ∀ n' n f, n ≤ n' → n' ≤ f → n' < s.l.length → (leadAt s f n).length ≤ (leadAt s f n').length := by
  intro n'
  induction n' using Nat.strongRecOn with
  | _ n' ih =>
    intro n f hn hf hl
    rcases Nat.eq_zero_or_pos n with rfl | h0
    · rw [lead_zero]; exact Nat.zero_le _
    · rcases Nat.lt_or_ge n n' with hlt | hge
      · obtain ⟨k, i, x, p1, p2, p3, p4, p5, p6⟩ := h.par n _ h0 (List.getElem?_eq_getElem (show n < s.l.length by omega))
        obtain ⟨k', i', x', q1, q2, q3, q4, q5, q6⟩ := h.par n' _ (by omega) (List.getElem?_eq_getElem hl)
        have hk := stamp_k p2 q2 (Nat.le_of_lt (h.mono n n' k i k' i' h0 hlt p1 q1))
        obtain ⟨f, rfl⟩ : ∃ g, f = g + 1 := ⟨f - 1, by omega⟩
        rw [lead_succ h0 p1, lead_succ (by omega) q1, List.length_cons, List.length_cons]
        have := ih k' q3 k f hk (by omega) (by omega)
        omega
      · obtain rfl : n = n' := by omega
        exact Nat.le_refl _
variable [DecidableEq α]
def fStep (nx : α → Nat → α) (m cap t : Nat) (s : Fnd α) : Option (Fnd α) :=
  match s.l[t / m]? with
  | none => some s
  | some x =>
    if nx x (t % m) ∈ s.l then some s
    else if s.l.length = cap then none
    else some ⟨s.l ++ [nx x (t % m)], s.pr ++ [(((t / m : Nat) : Int), t % m)]⟩
def fRun (nx : α → Nat → α) (m cap : Nat) (s0 : α) : Nat → Option (Fnd α)
  | 0 => some ⟨[s0], [(-1, 0)]⟩
  | t + 1 => match fRun nx m cap s0 t with
    | none => none
    | some s => fStep nx m cap t s
theorem finv_step (hm : 0 < m) {t : Nat} {s s' : Fnd α} (h : FInv nx m cap s0 t s) (hs : fStep nx m cap t s = some s') : FInv nx m cap s0 (t + 1) s' := by
  have hlt := Nat.mod_lt t hm
  have hst := stamp_of (m := m) t
  unfold fStep at hs
  split at hs
  · rename_i hn
    injection hs with hs
    subst hs
    have hge : s.l.length ≤ t / m := by
      rcases Nat.lt_or_ge (t / m) s.l.length with h1 | h1
      · rw [List.getElem?_eq_getElem h1] at hn; cases hn
      · exact h1
    have old : ∀ k i (x : α), i < m → k * m + i < t + 1 → s.l[k]? = some x → k * m + i < t := fun k i x hi hk hx => by
      have h1 := get_lt hx
      rcases Nat.lt_or_ge (k * m + i) t with h2 | h2
      · exact h2
      · have := (stamp_eq hm hi (show k * m + i = t by omega)).1
        omega
    exact ⟨h.len, h.pos, h.le, h.first, h.firstP, h.apart, fun k i x hi hk hx => h.done k i x hi (old k i x hi hk hx) hx,
      fun n y hn hy => by obtain ⟨k, i, x, a, b, c, d, e, f⟩ := h.par n y hn hy; exact ⟨k, i, x, a, b, c, d, e, by omega⟩,
      h.mono, fun n k i x k' i' hn hi hk hx => h.early n k i x k' i' hn hi (old k i x hi hk hx) hx⟩
  · rename_i x0 hx0
    have hk0 := get_lt hx0
    split at hs
    · rename_i hmem
      injection hs with hs
      subst hs
      refine ⟨h.len, h.pos, h.le, h.first, h.firstP, h.apart, fun k i x hi hk hx => ?_,
        fun n y hn hy => by obtain ⟨k, i, x, a, b, c, d, e, f⟩ := h.par n y hn hy; exact ⟨k, i, x, a, b, c, d, e, by omega⟩,
        h.mono, fun n k i x k' i' hn hi hk hx hy hp => ?_⟩
      · rcases Nat.lt_or_ge (k * m + i) t with h2 | h2
        · exact h.done k i x hi h2 hx
        · obtain ⟨rfl, rfl⟩ := stamp_eq hm hi (show k * m + i = t by omega)
          rw [hx0] at hx
          injection hx with hx
          subst hx
          exact hmem
      · rcases Nat.lt_or_ge (k * m + i) t with h2 | h2
        · exact h.early n k i x k' i' hn hi h2 hx hy hp
        · obtain ⟨k2, i2, x2, a, b, c, d, e, f⟩ := h.par n _ hn hy
          rw [hp] at a
          injection a with a
          injection a with a1 a2
          have : k' = k2 := by omega
          subst this a2
          omega
    · rename_i hmem
      split at hs
      · cases hs
      · rename_i hlen
        injection hs with hs
        subst hs
        have hle := h.le
        have hl := h.len
        refine ⟨by simp [hl], by simp, by simp; omega, ?_, ?_, ?_, ?_, ?_, ?_, ?_⟩
        · rw [snoc_lt h.pos]; exact h.first
        · rw [snoc_lt (by have := h.pos; omega)]; exact h.firstP
        · intro i j x hi hj
          rcases snoc_some hi with ⟨a, b⟩ | ⟨a, b⟩ <;> rcases snoc_some hj with ⟨c, d⟩ | ⟨c, d⟩
          · exact h.apart i j x b d
          · subst d; exact absurd (List.mem_of_getElem? b) hmem
          · subst b; exact absurd (List.mem_of_getElem? d) hmem
          · omega
        · intro k i x hi hk hx
          rcases Nat.lt_or_ge (k * m + i) t with h2 | h2
          · rcases snoc_some hx with ⟨a, b⟩ | ⟨a, b⟩
            · exact List.mem_append_left _ (h.done k i x hi h2 b)
            · exfalso
              have := stamp_k (k := k) (i := i) (k' := t / m) (i' := t % m) hi hlt (by omega)
              omega
          · obtain ⟨rfl, rfl⟩ := stamp_eq hm hi (show k * m + i = t by omega)
            rw [snoc_lt hk0, hx0] at hx
            injection hx with hx
            subst hx
            simp
        · intro n y hn hy
          rcases snoc_some hy with ⟨a, b⟩ | ⟨a, b⟩
          · obtain ⟨k, i, x, p1, p2, p3, p4, p5, p6⟩ := h.par n y hn b
            exact ⟨k, i, x, by dsimp only; rw [snoc_lt (by omega)]; exact p1, p2, p3, by dsimp only; rw [snoc_lt (by omega)]; exact p4, p5, by omega⟩
          · subst a b
            exact ⟨t / m, t % m, x0, by dsimp only; rw [← hl]; exact snoc_at, hlt, hk0, by dsimp only; rw [snoc_lt hk0]; exact hx0, rfl, by omega⟩
        · intro n n' k i k' i' hn hnn hp hp'
          rcases snoc_some hp' with ⟨a, b⟩ | ⟨a, b⟩
          · exact h.mono n n' k i k' i' hn hnn (by dsimp only at hp; rw [snoc_lt (by omega)] at hp; exact hp) b
          · dsimp only at hp
            rw [snoc_lt (by omega)] at hp
            obtain ⟨y, hy⟩ : ∃ y, s.l[n]? = some y := ⟨s.l[n]'(by omega), List.getElem?_eq_getElem (by omega)⟩
            obtain ⟨k2, i2, x2, p1, p2, p3, p4, p5, p6⟩ := h.par n y hn hy
            rw [hp] at p1
            injection p1 with p1
            injection p1 with q1 q2
            injection b with b1 b2
            have e1 : k = k2 := by omega
            have e2 : k' = t / m := by omega
            subst e1 e2 q2 b2
            omega
        · intro n k i x k' i' hn hi hk hx hy hp
          rcases snoc_some hy with ⟨a, b⟩ | ⟨a, b⟩
          · dsimp only at hp
            rw [snoc_lt (by omega)] at hp
            obtain ⟨k2, i2, x2, p1, p2, p3, p4, p5, p6⟩ := h.par n _ hn b
            rcases Nat.lt_or_ge (k * m + i) t with h2 | h2
            · rcases snoc_some hx with ⟨c, d⟩ | ⟨c, d⟩
              · exact h.early n k i x k' i' hn hi h2 d b hp
              · exfalso
                have := stamp_k (k := k) (i := i) (k' := t / m) (i' := t % m) hi hlt (by omega)
                omega
            · rw [hp] at p1
              injection p1 with p1
              injection p1 with q1 q2
              have e1 : k' = k2 := by omega
              subst e1 q2
              omega
          · subst a
            dsimp only at hp
            rw [← hl, snoc_at] at hp
            injection hp with hp
            injection hp with q1 q2
            have e1 : k' = t / m := by omega
            subst e1 q2
            rcases Nat.lt_or_ge (k * m + i) t with h2 | h2
            · exfalso
              rcases snoc_some hx with ⟨c, d⟩ | ⟨c, d⟩
              · have := h.done k i x hi h2 d
                rw [b] at this
                exact hmem this
              · have := stamp_k (k := k) (i := i) (k' := t / m) (i' := t % m) hi hlt (by omega)
                omega
            · omega
theorem finv_run (hm : 0 < m) (hc : 1 ≤ cap) : ∀ t s, fRun nx m cap s0 t = some s → FInv nx m cap s0 t s := by
  intro t
  induction t with
  | zero => intro s h; injection h with h; subst h; exact finv_zero hc
  | succ t ih =>
    intro s h
    unfold fRun at h
    split at h
    · cases h
    · rename_i s1 h1
      exact finv_step hm (ih s1 h1) h
theorem frun_succ {t : Nat} {s : Fnd α} (h : fRun nx m cap s0 t = some s) : fRun nx m cap s0 (t + 1) = fStep nx m cap t s := by rw [fRun, h]
theorem frun_none {t : Nat} (h : fRun nx m cap s0 t = none) : ∀ d, fRun nx m cap s0 (t + d) = none := by
  intro d
  induction d with
  | zero => exact h
  | succ d ih => rw [← Nat.add_assoc, fRun, ih]
theorem fstep_stop {t : Nat} {s : Fnd α} (hm : 0 < m) (h : s.l.length * m ≤ t) : fStep nx m cap t s = some s := by
  unfold fStep
  rw [List.getElem?_eq_none ((Nat.le_div_iff_mul_le hm).2 h)]
theorem frun_stop {t : Nat} {s : Fnd α} (hm : 0 < m) (h : fRun nx m cap s0 t = some s) (hl : s.l.length * m ≤ t) : ∀ d, fRun nx m cap s0 (t + d) = some s := by
  intro d
  induction d with
  | zero => exact h
  | succ d ih => rw [← Nat.add_assoc, frun_succ ih, fstep_stop hm (by omega)]
theorem fstep_pre {t : Nat} {s s' : Fnd α} (h : fStep nx m cap t s = some s') : ∃ e, s'.l = s.l ++ e := by
  unfold fStep at h
  split at h
  · injection h with h; subst h; exact ⟨[], by simp⟩
  · split at h
    · injection h with h; subst h; exact ⟨[], by simp⟩
    · split at h
      · cases h
      · injection h with h; subst h; exact ⟨[_], rfl⟩
theorem frun_pre {t : Nat} {s : Fnd α} (h : fRun nx m cap s0 t = some s) : ∀ d s', fRun nx m cap s0 (t + d) = some s' → ∃ e, s'.l = s.l ++ e := by
  intro d
  induction d with
  | zero => intro s' h'; rw [Nat.add_zero, h] at h'; injection h' with h'; subst h'; exact ⟨[], by simp⟩
  | succ d ih =>
    intro s' h'
    cases h1 : fRun nx m cap s0 (t + d) with
    | none => rw [← Nat.add_assoc, fRun, h1] at h'; cases h'
    | some s1 =>
      obtain ⟨e1, he1⟩ := ih s1 h1
      rw [← Nat.add_assoc, frun_succ h1] at h'
      obtain ⟨e2, he2⟩ := fstep_pre h'
      exact ⟨e1 ++ e2, by rw [he2, he1, List.append_assoc]⟩
/-- All that is come to is found. -/
theorem frun_closed (hm : 0 < m) (hc : 1 ≤ cap) {s : Fnd α} (h : fRun nx m cap s0 (cap * m) = some s) {x : α} (hx : x ∈ s.l) {i : Nat} (hi : i < m) : nx x i ∈ s.l := by
  have hI := finv_run hm hc _ _ h
  obtain ⟨k, hk, rfl⟩ := List.getElem_of_mem hx
  refine hI.done k i _ hi ?_ (List.getElem?_eq_getElem hk)
  have h1 := hI.le
  have := Nat.mul_le_mul_right m (show k + 1 ≤ cap by omega)
  rw [Nat.add_mul] at this
  omega
/-- Nothing shorter leads there. -/
theorem lead_short (hm : 0 < m) (hc : 1 ≤ cap) {s : Fnd α} (h : fRun nx m cap s0 (cap * m) = some s) : ∀ ds : List Nat, (∀ i ∈ ds, i < m) → ∃ n, s.l[n]? = some (ds.reverse.foldl nx s0) ∧ (leadAt s cap n).length ≤ ds.length := by
  have hI := finv_run hm hc _ _ h
  have hle := hI.le
  intro ds
  induction ds with
  | nil => intro _; exact ⟨0, hI.first, by rw [lead_zero]; exact Nat.le_refl _⟩
  | cons i ds ih =>
    intro hd
    obtain ⟨k, hk, hkl⟩ := ih fun j hj => hd j (List.mem_cons_of_mem _ hj)
    have hi := hd i (List.mem_cons_self ..)
    have hkl2 := get_lt hk
    have hmem := frun_closed hm hc h (List.mem_of_getElem? hk) hi
    obtain ⟨n, hn, hne⟩ := List.getElem_of_mem hmem
    have hn' : s.l[n]? = some (nx (ds.reverse.foldl nx s0) i) := by rw [← hne]; exact List.getElem?_eq_getElem hn
    refine ⟨n, by rw [List.reverse_cons, List.foldl_append]; exact hn', ?_⟩
    rcases Nat.eq_zero_or_pos n with rfl | h0
    · rw [lead_zero]; exact Nat.zero_le _
    · obtain ⟨k', i', x', q1, q2, q3, q4, q5, q6⟩ := hI.par n _ h0 hn'
      have hst : k * m + i < cap * m := by
        have := Nat.mul_le_mul_right m (show k + 1 ≤ cap by omega)
        rw [Nat.add_mul] at this
        omega
      have hk' := stamp_k q2 hi (hI.early n k i _ k' i' h0 hi hst hk hn' q1)
      obtain ⟨c, rfl⟩ : ∃ g, cap = g + 1 := ⟨cap - 1, by omega⟩
      rw [lead_succ h0 q1, List.length_cons, List.length_cons]
      have h1 := lead_mono hI k k' (c + 1) hk' (by omega) hkl2
      rw [lead_fuel hI k' (by omega) (c + 1) c (by omega) (by omega)] at h1
      omega
end
end Go.Tide
