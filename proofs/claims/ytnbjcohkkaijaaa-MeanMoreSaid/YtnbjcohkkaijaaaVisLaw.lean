/- To go along tight edges till one goes round: plain. Conditions: none. -/
import Derived.Test.YtnbjcohkkaijaaaMeLaw
set_option linter.unusedVariables false
set_option linter.unusedSimpArgs false
namespace Go.Tide
/-- The walker's rows: by which edge, and whether new, on the way, done. -/
structure VSt where
  B : Nat → Int
  S : Nat → Int
/-- Back by edges till a node. -/
def backL (f : Nat → Nat → Int) (B : Nat → Int) (stop : Nat) : Nat → Nat → List Nat
  | 0, _ => []
  | F + 1, x => if x = stop then [] else (B x).toNat :: backL f B stop F (f (B x).toNat 0).toNat
def visLoop (rec : Nat → VSt → VSt × List Nat) (f : Nat → Nat → Int) (h : Nat → Int) (N v : Nat) : Nat → Nat → VSt → VSt × List Nat
  | 0, _, s => (⟨s.B, putAt s.S v 2⟩, [])
  | r + 1, k, s =>
    if f k 0 = (v : Int) ∧ h (f k 1).toNat = h v + f k 2 then
      if s.S (f k 1).toNat = 1 then (s, (k :: backL f s.B (f k 1).toNat N v).reverse)
      else if s.S (f k 1).toNat = 0 then
        if (rec (f k 1).toNat ⟨putAt s.B (f k 1).toNat k, s.S⟩).2 = [] then visLoop rec f h N v r (k + 1) (rec (f k 1).toNat ⟨putAt s.B (f k 1).toNat k, s.S⟩).1
        else rec (f k 1).toNat ⟨putAt s.B (f k 1).toNat k, s.S⟩
      else visLoop rec f h N v r (k + 1) s
    else visLoop rec f h N v r (k + 1) s
def vis (f : Nat → Nat → Int) (h : Nat → Int) (n N : Nat) : Nat → Nat → VSt → VSt × List Nat
  | 0, _, s => (s, [])
  | F + 1, v, s => if s.S v = 2 then (s, []) else visLoop (vis f h n N F) f h N v n 0 ⟨s.B, putAt s.S v 1⟩
def visAll (f : Nat → Nat → Int) (h : Nat → Int) (n N : Nat) : Nat → VSt × List Nat
  | 0 => (⟨fun _ => -1, fun _ => 0⟩, [])
  | m + 1 => if (visAll f h n N m).2 = [] then vis f h n N N m (visAll f h n N m).1 else visAll f h n N m
/-- Tight walks from a node. -/
def TW (f : Nat → Nat → Int) (h : Nat → Int) (n : Nat) : Nat → Nat → Prop
  | 0, _ => True
  | t + 1, u => ∃ k, k < n ∧ f k 0 = (u : Int) ∧ h (f k 1).toNat = h u + f k 2 ∧ TW f h n t (f k 1).toNat
/-- A tight walk, told from its end. -/
def RW (f : Nat → Nat → Int) (h : Nat → Int) (n : Nat) : Int → List Nat → Int → Prop
  | u, [], w => u = w
  | u, e :: l, w => e < n ∧ h (f e 1).toNat = h (f e 0).toNat + f e 2 ∧ f e 1 = u ∧ RW f h n (f e 0) l w
def zer (S : Nat → Int) : Nat → Nat
  | 0 => 0
  | m + 1 => zer S m + if S m = 0 then 1 else 0
theorem zer_le {S S' : Nat → Int} : ∀ m, (∀ u, u < m → S' u = 0 → S u = 0) → zer S' m ≤ zer S m := by
  intro m
  induction m with
  | zero => intro _; exact Nat.le_refl _
  | succ m ih =>
    intro h
    have h1 := ih fun u hu => h u (by omega)
    have h2 := h m (by omega)
    unfold zer
    by_cases h3 : S' m = 0
    · rw [if_pos h3, if_pos (h2 h3)]; omega
    · rw [if_neg h3]; omega
theorem zer_lt {S S' : Nat → Int} {v : Nat} : ∀ m, (∀ u, u < m → S' u = 0 → S u = 0) → v < m → S v = 0 → S' v ≠ 0 → zer S' m < zer S m := by
  intro m
  induction m with
  | zero => intro _ h; omega
  | succ m ih =>
    intro h hv h0 h1
    unfold zer
    by_cases e : v = m
    · subst e
      have h2 := zer_le v fun u hu => h u (by omega)
      rw [if_neg h1, if_pos h0]
      omega
    · have h2 := ih (fun u hu => h u (by omega)) (by omega) h0 h1
      have h3 := h m (by omega)
      by_cases h4 : S' m = 0
      · rw [if_pos h4, if_pos (h3 h4)]; omega
      · rw [if_neg h4]; omega
theorem zer_pos {S : Nat → Int} {v : Nat} : ∀ m, v < m → S v = 0 → 0 < zer S m := by
  intro m
  induction m with
  | zero => intro h; omega
  | succ m ih =>
    intro hv h0
    unfold zer
    by_cases e : v = m
    · subst e; rw [if_pos h0]; omega
    · have := ih (by omega) h0; omega
theorem zer_all (S : Nat → Int) : ∀ m, zer S m ≤ m := by
  intro m
  induction m with
  | zero => exact Nat.le_refl _
  | succ m ih => unfold zer; split <;> omega
/-- Nodes are nodes. -/
def GN (N n : Nat) (f : Nat → Nat → Int) : Prop := ∀ k, k < n → (0 ≤ f k 0 ∧ f k 0 < N) ∧ 0 ≤ f k 1 ∧ f k 1 < N
section
variable {f : Nat → Nat → Int} {h : Nat → Int} {n N : Nat}
def Link (f : Nat → Nat → Int) (h : Nat → Int) (n : Nat) (B : Nat → Int) (a b : Nat) : Prop := ∃ k : Nat, k < n ∧ B a = (k : Int) ∧ f k 0 = (b : Int) ∧ f k 1 = (a : Int) ∧ h a = h b + f k 2
def Chn (f : Nat → Nat → Int) (h : Nat → Int) (n : Nat) (B : Nat → Int) : List Nat → Prop
  | [] => True
  | [_] => True
  | a :: b :: l => Link f h n B a b ∧ Chn f h n B (b :: l)
theorem Chn.tail {B : Nat → Int} {a : Nat} {l : List Nat} (hc : Chn f h n B (a :: l)) : Chn f h n B l := by
  cases l with
  | nil => exact trivial
  | cons b l => exact hc.2
theorem Chn.put {B : Nat → Int} {j : Nat} {x : Int} : ∀ {p : List Nat}, Chn f h n B p → j ∉ p → Chn f h n (putAt B j x) p := by
  intro p
  induction p with
  | nil => intro _ _; exact trivial
  | cons a l ih =>
    intro hc hj
    cases l with
    | nil => exact trivial
    | cons b l =>
      obtain ⟨⟨k, h1, h2, h3⟩, hc2⟩ := hc
      refine ⟨⟨k, h1, ?_, h3⟩, ih hc2 fun hm => hj (List.mem_cons_of_mem _ hm)⟩
      rw [putAt_ne _ _ (fun e => hj (by subst e; exact List.mem_cons_self))]
      exact h2
structure VI (f : Nat → Nat → Int) (h : Nat → Int) (n N : Nat) (s : VSt) (p : List Nat) : Prop where
  vals : ∀ u, u < N → s.S u = 0 ∨ s.S u = 1 ∨ s.S u = 2
  on : ∀ u, u < N → (s.S u = 1 ↔ u ∈ p)
  nodes : ∀ u, u ∈ p → u < N
  dup : p.Nodup
  chain : Chn f h n s.B p
  done : ∀ u, u < N → s.S u = 2 → ∃ L, ∀ t, TW f h n t u → t ≤ L
theorem getD_at (p : List Nat) {i : Nat} (hi : i < p.length) : p.getD i 0 = p[i] := by rw [List.getD_eq_getElem?_getD, List.getElem?_eq_getElem hi]; rfl
theorem path_len {p : List Nat} (hn : ∀ u, u ∈ p → u < N) (hd : p.Nodup) : p.length ≤ N := by
  rcases Nat.lt_or_ge N p.length with hl | hl
  · obtain ⟨i, j, hij, hj, he⟩ := pigeon N (fun i => p.getD i 0) fun i hi => by
      show p.getD i 0 < N
      rw [getD_at _ (by omega)]
      exact hn _ (List.getElem_mem _)
    rw [getD_at _ (by omega), getD_at _ (by omega)] at he
    have := (List.getElem_inj hd).1 he
    omega
  · exact hl
theorem back_rw {B : Nat → Int} {stop : Nat} : ∀ (p : List Nat) (v F : Nat), Chn f h n B (v :: p) → stop ∈ v :: p → p.length < F → RW f h n v (backL f B stop F v) stop := by
  intro p
  induction p with
  | nil =>
    intro v F _ hs hF
    obtain rfl : stop = v := by simpa using hs
    obtain ⟨F, rfl⟩ : ∃ F', F = F' + 1 := ⟨F - 1, by simp at hF; omega⟩
    unfold backL
    rw [if_pos rfl]
    exact rfl
  | cons b l ih =>
    intro v F hc hs hF
    obtain ⟨F, rfl⟩ : ∃ F', F = F' + 1 := ⟨F - 1, by simp at hF; omega⟩
    unfold backL
    by_cases e : v = stop
    · subst e
      rw [if_pos rfl]
      exact rfl
    · rw [if_neg e]
      obtain ⟨⟨k, h1, h2, h3, h4, h5⟩, hc2⟩ := hc
      have hs2 : stop ∈ b :: l := by
        rcases List.mem_cons.1 hs with h | h
        · exact absurd h.symm e
        · exact h
      have hr := ih b F hc2 hs2 (by simp at hF ⊢; omega)
      rw [h2, Int.toNat_natCast]
      refine ⟨h1, ?_, h4, ?_⟩
      · rw [h4, h3, Int.toNat_natCast, Int.toNat_natCast]; exact h5
      · rw [h3, Int.toNat_natCast]; exact hr
/-- What a visit keeps, or finds. -/
def VRes (f : Nat → Nat → Int) (h : Nat → Int) (n N u : Nat) (s : VSt) (p : List Nat) (r : VSt × List Nat) : Prop :=
  (r.2 = [] → VI f h n N r.1 p ∧ r.1.S u = 2 ∧ (∀ q, s.S q = 2 → r.1.S q = 2) ∧ (∀ q, q < N → r.1.S q = 0 → s.S q = 0)) ∧ (r.2 ≠ [] → ∃ x, RW f h n x r.2.reverse x)
def RecOk (f : Nat → Nat → Int) (h : Nat → Int) (n N F : Nat) (rec : Nat → VSt → VSt × List Nat) : Prop :=
  ∀ u s p, VI f h n N s p → u < N → s.S u ≠ 1 → zer s.S N ≤ F → (∀ b l, p = b :: l → s.S u = 0 → Link f h n s.B u b) → VRes f h n N u s p (rec u s)
theorem tw_bound {S : Nat → Int} {v : Nat} (hd : ∀ u, u < N → S u = 2 → ∃ L, ∀ t, TW f h n t u → t ≤ L) (hG : GN N n f) (hall : ∀ j, j < n → f j 0 = (v : Int) → h (f j 1).toNat = h v + f j 2 → S (f j 1).toNat = 2) :
    ∀ m, m ≤ n → ∃ L, ∀ j, j < m → f j 0 = (v : Int) → h (f j 1).toNat = h v + f j 2 → ∀ t, TW f h n t (f j 1).toNat → t ≤ L := by
  intro m
  induction m with
  | zero => intro _; exact ⟨0, fun j hj => absurd hj (by omega)⟩
  | succ m ih =>
    intro hm
    obtain ⟨L, hL⟩ := ih (by omega)
    by_cases hc : f m 0 = (v : Int) ∧ h (f m 1).toNat = h v + f m 2
    · obtain ⟨L2, hL2⟩ := hd (f m 1).toNat (by have := (hG m (by omega)).2; omega) (hall m (by omega) hc.1 hc.2)
      refine ⟨max L L2, fun j hj h1 h2 t ht => ?_⟩
      rcases Nat.lt_succ_iff_lt_or_eq.1 hj with h3 | rfl
      · have := hL j h3 h1 h2 t ht; omega
      · have := hL2 t ht; omega
    · refine ⟨L, fun j hj h1 h2 t ht => ?_⟩
      rcases Nat.lt_succ_iff_lt_or_eq.1 hj with h3 | rfl
      · exact hL j h3 h1 h2 t ht
      · exact absurd ⟨h1, h2⟩ hc
theorem VI.stay {s : VSt} {p : List Nat} {v j : Nat} {x : Int} (hi : VI f h n N s p) (hj : s.S j = 0) (hjN : j < N) : VI f h n N ⟨putAt s.B j x, s.S⟩ p :=
  ⟨hi.vals, hi.on, hi.nodes, hi.dup, hi.chain.put fun hm => by have := (hi.on j hjN).2 hm; omega, hi.done⟩
theorem loop_ok {rec : Nat → VSt → VSt × List Nat} {F : Nat} (hG : GN N n f) (hrec : RecOk f h n N F rec) {v : Nat} (hv : v < N) {p : List Nat} :
    ∀ r k s, k + r = n → VI f h n N s (v :: p) → zer s.S N ≤ F → (∀ j, j < k → f j 0 = (v : Int) → h (f j 1).toNat = h v + f j 2 → s.S (f j 1).toNat = 2) → VRes f h n N v s p (visLoop rec f h N v r k s) := by
  intro r
  induction r with
  | zero =>
    intro k s hk hi hz hall
    obtain rfl : k = n := by omega
    unfold visLoop
    refine ⟨fun _ => ⟨⟨fun u hu => ?_, fun u hu => ?_, fun u hu => hi.nodes u (List.mem_cons_of_mem _ hu), (List.nodup_cons.1 hi.dup).2, hi.chain.tail, fun u hu h2 => ?_⟩, putAt_same _ _ _, fun q hq => ?_, fun q hq h0 => ?_⟩, fun hne => absurd rfl hne⟩
    · show putAt s.S v 2 u = 0 ∨ putAt s.S v 2 u = 1 ∨ putAt s.S v 2 u = 2
      by_cases e : u = v
      · subst e; rw [putAt_same]; exact .inr (.inr rfl)
      · rw [putAt_ne _ _ e]; exact hi.vals u hu
    · show putAt s.S v 2 u = 1 ↔ u ∈ p
      by_cases e : u = v
      · subst e
        rw [putAt_same]
        exact ⟨fun h => absurd h (by decide), fun hm => absurd hm (List.nodup_cons.1 hi.dup).1⟩
      · rw [putAt_ne _ _ e, hi.on u hu, List.mem_cons]
        exact ⟨fun h => h.elim (fun h => absurd h e) id, .inr⟩
    · by_cases e : u = v
      · subst e
        obtain ⟨L, hL⟩ := tw_bound hi.done hG hall k (Nat.le_refl _)
        refine ⟨L + 1, fun t ht => ?_⟩
        cases t with
        | zero => omega
        | succ t =>
          obtain ⟨j, h1, h2, h3, h4⟩ := ht
          have := hL j h1 h2 h3 t h4
          omega
      · refine hi.done u hu ?_
        have h3 : putAt s.S v 2 u = 2 := h2
        rwa [putAt_ne _ _ e] at h3
    · show putAt s.S v 2 q = 2
      by_cases e : q = v
      · subst e; exact putAt_same _ _ _
      · rw [putAt_ne _ _ e]; exact hq
    · have h1 : putAt s.S v 2 q = 0 := h0
      by_cases e : q = v
      · subst e; rw [putAt_same] at h1; exact absurd h1 (by decide)
      · rwa [putAt_ne _ _ e] at h1
  | succ r ih =>
    intro k s hk hi hz hall
    have hkn : k < n := by omega
    have hg := hG k hkn
    have hto : (f k 1).toNat < N := by omega
    unfold visLoop
    by_cases hc : f k 0 = (v : Int) ∧ h (f k 1).toNat = h v + f k 2
    · rw [if_pos hc]
      by_cases h1 : s.S (f k 1).toNat = 1
      · rw [if_pos h1]
        refine ⟨fun he => absurd he (by simp), fun _ => ⟨((f k 1).toNat : Nat), ?_⟩⟩
        show RW f h n _ (k :: backL f s.B (f k 1).toNat N v).reverse.reverse _
        rw [List.reverse_reverse]
        have hm := (hi.on _ hto).1 h1
        have hl := path_len (N := N) hi.nodes hi.dup
        refine ⟨hkn, ?_, by omega, ?_⟩
        · rw [hc.1, Int.toNat_natCast]; exact hc.2
        · rw [hc.1]
          exact back_rw p v N hi.chain hm (by simp at hl; omega)
      · rw [if_neg h1]
        by_cases h0 : s.S (f k 1).toNat = 0
        · rw [if_pos h0]
          have hi2 : VI f h n N ⟨putAt s.B (f k 1).toNat k, s.S⟩ (v :: p) := hi.stay (v := v) h0 hto
          have hr := hrec (f k 1).toNat ⟨putAt s.B (f k 1).toNat k, s.S⟩ (v :: p) hi2 hto h1 hz (fun b l he _ => by
            obtain ⟨rfl, rfl⟩ := List.cons.inj he
            exact ⟨k, hkn, putAt_same _ _ _, hc.1, by omega, hc.2⟩)
          generalize rec (f k 1).toNat ⟨putAt s.B (f k 1).toNat k, s.S⟩ = R at hr ⊢
          by_cases he : R.2 = []
          · rw [if_pos he]
            obtain ⟨hi3, h2, hm2, hm0⟩ := hr.1 he
            have h5 := ih (k + 1) R.1 (by omega) hi3 (Nat.le_trans (zer_le N hm0) hz) (fun j hj e1 e2 => by
              rcases Nat.lt_succ_iff_lt_or_eq.1 hj with h3 | rfl
              · exact hm2 _ (hall j h3 e1 e2)
              · exact h2)
            refine ⟨fun hn => ?_, h5.2⟩
            obtain ⟨a1, a2, a3, a4⟩ := h5.1 hn
            exact ⟨a1, a2, fun q hq => a3 q (hm2 q hq), fun q hq h6 => hm0 q hq (a4 q hq h6)⟩
          · rw [if_neg he]
            exact ⟨fun hn => absurd hn he, hr.2⟩
        · rw [if_neg h0]
          exact ih (k + 1) s (by omega) hi hz (fun j hj e1 e2 => by
            rcases Nat.lt_succ_iff_lt_or_eq.1 hj with h3 | rfl
            · exact hall j h3 e1 e2
            · rcases hi.vals _ hto with h | h | h
              · exact absurd h h0
              · exact absurd h h1
              · exact h)
    · rw [if_neg hc]
      exact ih (k + 1) s (by omega) hi hz (fun j hj e1 e2 => by
        rcases Nat.lt_succ_iff_lt_or_eq.1 hj with h3 | rfl
        · exact hall j h3 e1 e2
        · exact absurd ⟨e1, e2⟩ hc)
theorem VI.push {s : VSt} {p : List Nat} {u : Nat} (hi : VI f h n N s p) (hu : u < N) (h0 : s.S u = 0) (hl : ∀ b l, p = b :: l → s.S u = 0 → Link f h n s.B u b) : VI f h n N ⟨s.B, putAt s.S u 1⟩ (u :: p) := by
  have hup : u ∉ p := fun hm => by have := (hi.on u hu).2 hm; omega
  refine ⟨fun q hq => ?_, fun q hq => ?_, fun q hq => ?_, List.nodup_cons.2 ⟨hup, hi.dup⟩, ?_, fun q hq h2 => ?_⟩
  · show putAt s.S u 1 q = 0 ∨ putAt s.S u 1 q = 1 ∨ putAt s.S u 1 q = 2
    by_cases e : q = u
    · subst e; rw [putAt_same]; exact .inr (.inl rfl)
    · rw [putAt_ne _ _ e]; exact hi.vals q hq
  · show putAt s.S u 1 q = 1 ↔ q ∈ u :: p
    rw [List.mem_cons]
    by_cases e : q = u
    · subst e; rw [putAt_same]; exact ⟨fun _ => .inl rfl, fun _ => rfl⟩
    · rw [putAt_ne _ _ e, hi.on q hq]
      exact ⟨.inr, fun h => h.elim (fun h => absurd h e) id⟩
  · rcases List.mem_cons.1 hq with rfl | h
    · exact hu
    · exact hi.nodes q h
  · cases p with
    | nil => exact trivial
    | cons b l => exact ⟨hl b l rfl h0, hi.chain⟩
  · have h3 : putAt s.S u 1 q = 2 := h2
    by_cases e : q = u
    · subst e; rw [putAt_same] at h3; exact absurd h3 (by decide)
    · rw [putAt_ne _ _ e] at h3
      exact hi.done q hq h3
theorem vis_ok (hG : GN N n f) : ∀ F, RecOk f h n N F (vis f h n N F) := by
  intro F
  induction F with
  | zero =>
    intro u s p hi hu h1 hz _
    unfold vis
    have h2 : s.S u = 2 := by
      rcases hi.vals u hu with h | h | h
      · have := zer_pos N hu h; omega
      · exact absurd h h1
      · exact h
    exact ⟨fun _ => ⟨hi, h2, fun _ h => h, fun _ _ h => h⟩, fun hn => absurd rfl hn⟩
  | succ F ih =>
    intro u s p hi hu h1 hz hl
    unfold vis
    by_cases h2 : s.S u = 2
    · rw [if_pos h2]
      exact ⟨fun _ => ⟨hi, h2, fun _ h => h, fun _ _ h => h⟩, fun hn => absurd rfl hn⟩
    · rw [if_neg h2]
      have h0 : s.S u = 0 := by
        rcases hi.vals u hu with h | h | h
        · exact h
        · exact absurd h h1
        · exact absurd h h2
      have hz1 : zer (putAt s.S u 1) N < zer s.S N := zer_lt N (fun q _ hq => by
        by_cases e : q = u
        · subst e; exact h0
        · rwa [putAt_ne _ _ e] at hq) hu h0 (by rw [putAt_same]; decide)
      have h5 := loop_ok hG ih hu n 0 ⟨s.B, putAt s.S u 1⟩ (by omega) (hi.push hu h0 hl) (by show zer (putAt s.S u 1) N ≤ F; omega) (fun j hj => absurd hj (by omega))
      refine ⟨fun hn => ?_, h5.2⟩
      obtain ⟨a1, a2, a3, a4⟩ := h5.1 hn
      refine ⟨a1, a2, fun q hq => a3 q ?_, fun q hq h6 => ?_⟩
      · show putAt s.S u 1 q = 2
        rw [putAt_ne _ _ (fun e => by subst e; omega)]
        exact hq
      · have h7 : putAt s.S u 1 q = 0 := a4 q hq h6
        by_cases e : q = u
        · subst e; rw [putAt_same] at h7; exact absurd h7 (by decide)
        · rwa [putAt_ne _ _ e] at h7
theorem vi_start : VI f h n N ⟨fun _ => -1, fun _ => 0⟩ [] :=
  ⟨fun _ _ => .inl rfl, fun _ _ => ⟨fun h => absurd (show (0 : Int) = 1 from h) (by decide), fun h => absurd h (by simp)⟩, fun _ h => absurd h (by simp), List.nodup_nil, trivial, fun _ _ h => absurd (show (0 : Int) = 2 from h) (by decide)⟩
theorem visAll_ok (hG : GN N n f) : ∀ m, m ≤ N → ((visAll f h n N m).2 = [] → VI f h n N (visAll f h n N m).1 [] ∧ ∀ q, q < m → (visAll f h n N m).1.S q = 2) ∧ ((visAll f h n N m).2 ≠ [] → ∃ x, RW f h n x (visAll f h n N m).2.reverse x) := by
  intro m
  induction m with
  | zero => intro _; exact ⟨fun _ => ⟨vi_start, fun q hq => absurd hq (by omega)⟩, fun hn => absurd rfl hn⟩
  | succ m ih =>
    intro hm
    have h1 := ih (by omega)
    unfold visAll
    by_cases he : (visAll f h n N m).2 = []
    · rw [if_pos he]
      obtain ⟨hi, h2⟩ := h1.1 he
      have h3 := vis_ok hG N m (visAll f h n N m).1 [] hi (by omega) (fun h => by cases (hi.on m (by omega)).1 h) (zer_all _ N) (fun b l h => by cases h)
      refine ⟨fun hn => ?_, h3.2⟩
      obtain ⟨a1, a2, a3, a4⟩ := h3.1 hn
      refine ⟨a1, fun q hq => ?_⟩
      rcases Nat.lt_succ_iff_lt_or_eq.1 hq with h | rfl
      · exact a3 q (h2 q h)
      · exact a2
    · rw [if_neg he]
      exact ⟨fun hn => absurd hn he, h1.2⟩
/-- Where a tight walk goes round, one is found. -/
theorem vis_found (hG : GN N n f) {m : Nat} (hm : m < N) (hw : ∀ t, ∃ t', t ≤ t' ∧ TW f h n t' m) : (visAll f h n N N).2 ≠ [] := by
  intro he
  obtain ⟨hi, h2⟩ := (visAll_ok hG N (Nat.le_refl _)).1 he
  obtain ⟨L, hL⟩ := hi.done m hm (h2 m hm)
  obtain ⟨t', h3, h4⟩ := hw (L + 1)
  have := hL t' h4
  omega
/-- A walk that weighs as much as heights say is tight. -/
theorem wk_tight (hG : GN N n f) (hp : ∀ k, k < n → h (f k 0).toNat + f k 2 ≤ h (f k 1).toNat) {u t v : Nat} {x : Int} (hw : Wk f n u t v x) : x ≤ h v - h u ∧ (x = h v - h u → ∀ r, TW f h n r v → TW f h n (t + r) u) := by
  induction hw with
  | nil => exact ⟨by omega, fun _ r hr => by rw [Nat.zero_add]; exact hr⟩
  | snoc k hk hw ih =>
    have h1 := hp k hk
    have hg := hG k hk
    refine ⟨by omega, fun he r hr => ?_⟩
    have h2 := ih.2 (by omega) (r + 1) ⟨k, hk, by omega, by omega, hr⟩
    rw [Nat.add_assoc, Nat.add_comm 1 r]
    exact h2
theorem wk_round (hG : GN N n f) (hp : ∀ k, k < n → h (f k 0).toNat + f k 2 ≤ h (f k 1).toNat) {m j : Nat} (hj : 1 ≤ j) (hw : Wk f n m j m 0) : ∀ t, ∃ t', t ≤ t' ∧ TW f h n t' m := by
  have h1 := (wk_tight hG hp hw).2 (by omega)
  have h2 : ∀ q, TW f h n (q * j) m := by
    intro q
    induction q with
    | zero => rw [Nat.zero_mul]; exact trivial
    | succ q ih =>
      have := h1 _ ih
      rw [Nat.succ_mul, Nat.add_comm]
      exact this
  exact fun t => ⟨t * j, Nat.le_mul_of_pos_right t (by omega), h2 t⟩
end
end Go.Tide
