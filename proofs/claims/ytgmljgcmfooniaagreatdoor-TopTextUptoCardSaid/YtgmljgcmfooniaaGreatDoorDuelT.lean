/- A duel as a plain function of what is late. Conditions: none. -/
import Derived.Test.YtgmljgcmfooniaaGreatDoorDuelS
import Derived.Test.YtgmljgcmfooniaaGreatDoorDuelZ
set_option linter.unusedVariables false
set_option linter.unusedSimpArgs false
namespace Go.Tide
theorem lcnt_sum {W0 W1 S0 S1 : Nat} : ∀ p, p ≤ W0 + W1 + S0 + S1 → lcnt0 W0 W1 S0 S1 p + lcnt1 W0 W1 S0 S1 p = p := by
  intro p
  induction p with
  | zero => intro _; simp [lcnt0, lcnt1, lalt]
  | succ p ih =>
    intro hp
    have h1 := ih (by omega)
    have h2 := lcnt_succ (show p < W0 + W1 + S0 + S1 by omega)
    omega
theorem lcnt_all (W0 W1 S0 S1 : Nat) : lcnt0 W0 W1 S0 S1 (W0 + W1 + S0 + S1) = W0 + S0 ∧ lcnt1 W0 W1 S0 S1 (W0 + W1 + S0 + S1) = W1 + S1 := by
  unfold lcnt0 lcnt1 lalt
  omega
theorem lpass_eq (rate room W0 W1 S0 S1 : Nat) : lpass rate room W0 W1 S0 S1 = ⟨W0 + W1 + S0 + S1, lcnt0 W0 W1 S0 S1 (min (W0 + W1 + S0 + S1) rate), lcnt1 W0 W1 S0 S1 (min (W0 + W1 + S0 + S1) rate),
    lcnt0 W0 W1 S0 S1 (min (W0 + W1 + S0 + S1) (rate + room)) - lcnt0 W0 W1 S0 S1 (min (W0 + W1 + S0 + S1) rate), lcnt1 W0 W1 S0 S1 (min (W0 + W1 + S0 + S1) (rate + room)) - lcnt1 W0 W1 S0 S1 (min (W0 + W1 + S0 + S1) rate),
      W0 + S0 - lcnt0 W0 W1 S0 S1 (min (W0 + W1 + S0 + S1) (rate + room)), W1 + S1 - lcnt1 W0 W1 S0 S1 (min (W0 + W1 + S0 + S1) (rate + room))⟩ := by
  unfold lpass
  rw [lgo_line rate room _ (Nat.le_refl _), (lcnt_all W0 W1 S0 S1).1, (lcnt_all W0 W1 S0 S1).2]
theorem lpass_sums {rate room W0 W1 S0 S1 k c0 c1 l0 l1 x0 x1 : Nat} (h : lpass rate room W0 W1 S0 S1 = ⟨k, c0, c1, l0, l1, x0, x1⟩) :
    c0 + l0 + x0 = W0 + S0 ∧ c1 + l1 + x1 = W1 + S1 ∧ c0 + c1 = min (W0 + W1 + S0 + S1) rate ∧ l0 + l1 = min (W0 + W1 + S0 + S1) (rate + room) - min (W0 + W1 + S0 + S1) rate ∧ x0 + x1 = W0 + W1 + S0 + S1 - min (W0 + W1 + S0 + S1) (rate + room) := by
  rw [lpass_eq] at h
  injection h with h1 h2 h3 h4 h5 h6 h7
  have m1 := lcnt_mono (W0 := W0) (W1 := W1) (S0 := S0) (S1 := S1) (Nat.min_le_left (W0 + W1 + S0 + S1) (rate + room))
  have m2 := lcnt_mono (W0 := W0) (W1 := W1) (S0 := S0) (S1 := S1) (show min (W0 + W1 + S0 + S1) rate ≤ min (W0 + W1 + S0 + S1) (rate + room) by omega)
  have s1 := lcnt_sum (W0 := W0) (W1 := W1) (S0 := S0) (S1 := S1) _ (Nat.min_le_left (W0 + W1 + S0 + S1) rate)
  have s2 := lcnt_sum (W0 := W0) (W1 := W1) (S0 := S0) (S1 := S1) _ (Nat.min_le_left (W0 + W1 + S0 + S1) (rate + room))
  have al := lcnt_all W0 W1 S0 S1
  omega
end Go.Tide
namespace Go.Proofs.YtgmljgcmfooniaaGreatDoor
open Go.RowKit Go.Tide
set_option linter.unusedVariables false
set_option linter.unusedSimpArgs false
/-- Whether what one of a kind knows is right. -/
def Ctl.right (k : Int) (c : Ctl) : Prop := CR k c.c0 c.c1 c.c2 c.c3 c.c4 c.c5 = true
theorem Ctl.window {k : Int} {c : Ctl} (h : c.right k) : 1 ≤ c.c1 ∧ c.c1 ≤ 12 := by
  unfold Ctl.right CR at h
  split at h
  · have := of_decide_eq_true h; omega
  · split at h
    · have := of_decide_eq_true h; omega
    · have := of_decide_eq_true h; omega
theorem Ctl.next_right {k d : Int} {c : Ctl} (h : c.right k) (h0 : 0 ≤ d) (h1 : d ≤ 1099511627776) (hk : dKind k) : (cNext k c d).right k := by
  rcases hk with rfl | rfl | rfl
  · have h' : vegasRight c.c0 c.c1 c.c2 c.c3 c.c4 c.c5 = true := h
    show vegasRight 1 (vegWin c.c1 c.c2 d) (lowBase c.c2 d) 0 0 0 = true
    have := of_decide_eq_true h'
    unfold vegasRight
    rw [decide_eq_true_eq]
    unfold vegWin lowBase
    refine ⟨rfl, by omega, by omega, ?_, ?_, rfl, rfl, rfl⟩ <;> split <;> omega
  · have h' : copaRight c.c0 c.c1 c.c2 c.c3 c.c4 c.c5 = true := h
    show copaRight 2 (copaWin c.c1 c.c2 c.c3 c.c4 d) (lowBase c.c2 d) (copaWay c.c1 c.c2 d) (copaSpd c.c1 c.c2 c.c3 c.c4 d) 0 = true
    have := of_decide_eq_true h'
    have hw : -1 ≤ copaWay c.c1 c.c2 d ∧ copaWay c.c1 c.c2 d ≤ 1 := by unfold copaWay; split <;> omega
    have hs : 0 ≤ copaSpd c.c1 c.c2 c.c3 c.c4 d ∧ copaSpd c.c1 c.c2 c.c3 c.c4 d ≤ 4 := by unfold copaSpd; split <;> omega
    unfold copaRight
    rw [decide_eq_true_eq]
    unfold copaWin
    generalize copaWay c.c1 c.c2 d * copaSpd c.c1 c.c2 c.c3 c.c4 d = p
    refine ⟨rfl, by omega, by omega, ?_, ?_, hw.1, hw.2, hs.1, hs.2, rfl⟩ <;> (unfold lowBase; split <;> omega)
  · have h' : ledbatRight c.c0 c.c1 c.c2 c.c3 c.c4 c.c5 = true := h
    show ledbatRight 3 (ledAll c.c1 c.c2 c.c5 d / 4) (lowBase c.c2 d) 0 0 (ledAll c.c1 c.c2 c.c5 d % 4) = true
    have := of_decide_eq_true h'
    have ha : 4 ≤ ledAll c.c1 c.c2 c.c5 d ∧ ledAll c.c1 c.c2 c.c5 d ≤ 48 := by unfold ledAll; omega
    unfold ledbatRight
    rw [decide_eq_true_eq]
    refine ⟨rfl, by omega, by omega, ?_, ?_, rfl, rfl, by omega, by omega, by omega⟩ <;> (unfold lowBase; split <;> omega)
/-- A duel's state. -/
structure DSt where
  a : Ctl
  b : Ctl
  w0 : Nat
  w1 : Nat
/-- The rules, the numbers of which are right. -/
structure DRules where
  k0 : Int
  k1 : Int
  rate : Nat
  buf : Nat
  jit : Int
def DRules.ok (r : DRules) : Prop := dKind r.k0 ∧ dKind r.k1 ∧ dNums r.rate r.buf r.jit
def DSt.ok (r : DRules) (s : DSt) : Prop := s.a.right r.k0 ∧ s.b.right r.k1 ∧ s.w0 + s.w1 ≤ r.buf
/-- What the line does in a state. -/
def dPass (r : DRules) (s : DSt) : LSt := lpass r.rate r.buf s.w0 s.w1 s.a.c1.toNat s.b.c1.toNat
def dGo (r : DRules) (s : DSt) (l0 l1 : Int) : DSt :=
  ⟨cNext r.k0 s.a (((s.w0 + s.w1) / r.rate : Nat) + l0), cNext r.k1 s.b (((s.w0 + s.w1) / r.rate : Nat) + l1), (dPass r s).l0, (dPass r s).l1⟩
def dLate (r : DRules) (l0 l1 : Int) : Prop := (0 ≤ l0 ∧ l0 ≤ r.jit) ∧ (0 ≤ l1 ∧ l1 ≤ r.jit)
theorem DSt.go_ok {r : DRules} {s : DSt} {l0 l1 : Int} (hr : r.ok) (h : s.ok r) (hl : dLate r l0 l1) : (dGo r s l0 l1).ok r := by
  obtain ⟨h1, h2, n1, n2, n3, n4, n5, n6⟩ := hr
  have hd : (s.w0 + s.w1) / r.rate ≤ 16 := by have := Nat.div_le_self (s.w0 + s.w1) r.rate; have := h.2.2; omega
  obtain ⟨⟨l1_, l2_⟩, l3_, l4_⟩ := hl
  have hx : ∀ (dl : Nat) (l : Int), dl ≤ 16 → 0 ≤ l → l ≤ r.jit → 0 ≤ (dl : Int) + l ∧ (dl : Int) + l ≤ 1099511627776 := fun dl l a b c => by omega
  refine ⟨Ctl.next_right h.1 (hx _ _ hd l1_ l2_).1 (hx _ _ hd l1_ l2_).2 h1, Ctl.next_right h.2.1 (hx _ _ hd l3_ l4_).1 (hx _ _ hd l3_ l4_).2 h2, ?_⟩
  have hs := lpass_sums (rate := r.rate) (room := r.buf) (W0 := s.w0) (W1 := s.w1) (S0 := s.a.c1.toNat) (S1 := s.b.c1.toNat) (k := (dPass r s).k) (c0 := (dPass r s).c0) (c1 := (dPass r s).c1) (l0 := (dPass r s).l0) (l1 := (dPass r s).l1) (x0 := (dPass r s).x0) (x1 := (dPass r s).x1) rfl
  show (dPass r s).l0 + (dPass r s).l1 ≤ r.buf
  omega
/-- A round's numbers. -/
def dRow (r : DRules) (s : DSt) (j : Nat) : Int := match j with
  | 0 => s.a.c1
  | 1 => s.b.c1
  | 2 => (dPass r s).c0
  | 3 => (dPass r s).c1
  | 4 => (dPass r s).x0
  | _ => (dPass r s).x1
theorem step_go (r : DRules) (s : DSt) (l0 l1 : Int) (w : World) (hr : r.ok) (h : s.ok r) (hl : dLate r l0 l1) (s' : DSt) (hs' : Hid (dGo r s l0 l1 = s')) (q : Nat → Int) (hq : Hid (dRow r s = q)) :
    Calls Tryz.prog 42 #[.agg #[.int .i64 r.k0, .int .i64 r.k1, .int .i64 r.rate, .int .i64 r.buf, .int .i64 r.jit], .agg #[.int .i64 s.a.c0, .int .i64 s.a.c1, .int .i64 s.a.c2, .int .i64 s.a.c3, .int .i64 s.a.c4, .int .i64 s.a.c5, .int .i64 s.b.c0, .int .i64 s.b.c1, .int .i64 s.b.c2, .int .i64 s.b.c3, .int .i64 s.b.c4, .int .i64 s.b.c5, .int .i64 s.w0, .int .i64 s.w1], .agg #[.int .i64 l0, .int .i64 l1]] w fun e w' =>
      e = .returned (.tuple #[.agg #[.int .i64 s'.a.c0, .int .i64 s'.a.c1, .int .i64 s'.a.c2, .int .i64 s'.a.c3, .int .i64 s'.a.c4, .int .i64 s'.a.c5, .int .i64 s'.b.c0, .int .i64 s'.b.c1, .int .i64 s'.b.c2, .int .i64 s'.b.c3, .int .i64 s'.b.c4, .int .i64 s'.b.c5, .int .i64 s'.w0, .int .i64 s'.w1], .agg #[.int .i64 (q 0), .int .i64 (q 1), .int .i64 (q 2), .int .i64 (q 3), .int .i64 (q 4), .int .i64 (q 5)], .int .i64 0]) ∧ More w w' := by
  have hs'' := hs'.out
  subst hs''
  have hq' := hq.out
  subst hq'
  obtain ⟨⟨a0, a1, a2, a3, a4, a5⟩, ⟨b0, b1, b2, b3, b4, b5⟩, W0, W1⟩ := s
  have ha := Ctl.window h.1
  have hb := Ctl.window h.2.1
  dsimp only at ha hb
  obtain ⟨A1, rfl⟩ : ∃ n : Nat, a1 = n := ⟨a1.toNat, by omega⟩
  obtain ⟨B1, rfl⟩ : ∃ n : Nat, b1 = n := ⟨b1.toNat, by omega⟩
  exact step_ok r.k0 r.k1 r.jit r.rate r.buf a0 A1 a2 a3 a4 a5 b0 B1 b2 b3 b4 b5 W0 W1 l0 l1 w hr.1 hr.2.1 hr.2.2 h.1 h.2.1 (by omega) (by omega) h.2.2 hl.1 hl.2 _ _ _ _ _ _ _ rfl _ _ _ _ _ _ _ _ _ _ _ _ rfl rfl
/-- The beginning. -/
def dBegin (r : DRules) : DSt := ⟨⟨r.k0, 1, -1, 0, 0, 0⟩, ⟨r.k1, 1, -1, 0, 0, 0⟩, 0, 0⟩
theorem begin_right {k : Int} (h : dKind k) : (⟨k, 1, -1, 0, 0, 0⟩ : Ctl).right k := by
  rcases h with rfl | rfl | rfl
  · show CR 1 1 1 (-1) 0 0 0 = true
    decide
  · show CR 2 2 1 (-1) 0 0 0 = true
    decide
  · show CR 3 3 1 (-1) 0 0 0 = true
    decide
theorem begin_ok {r : DRules} (hr : r.ok) : (dBegin r).ok r := ⟨begin_right hr.1, begin_right hr.2.1, Nat.zero_le _⟩
/-- The state before round k. -/
def dRun (r : DRules) (f : Nat → Nat → Int) : Nat → DSt
  | 0 => dBegin r
  | k + 1 => dGo r (dRun r f k) (f k 0) (f k 1)
def dAll (r : DRules) (f : Nat → Nat → Int) (n : Nat) : Prop := ∀ k, k < n → dLate r (f k 0) (f k 1)
theorem run_ok {r : DRules} {f : Nat → Nat → Int} (hr : r.ok) : ∀ n, dAll r f n → (dRun r f n).ok r := by
  intro n
  induction n with
  | zero => intro _; exact begin_ok hr
  | succ n ih => intro h; exact DSt.go_ok hr (ih fun k hk => h k (by omega)) (h n (by omega))
/-- The rounds, row by row. -/
def dRows (r : DRules) (f : Nat → Nat → Int) (k j : Nat) : Int := dRow r (dRun r f k) j
theorem pass_law {r : DRules} {s : DSt} (hr : r.ok) (h : s.ok r) : (∀ q, 0 ≤ dRow r s q ∧ dRow r s q ≤ 100) ∧ dRow r s 2 + dRow r s 3 ≤ r.rate ∧
    dRow r s 0 + s.w0 = dRow r s 2 + dRow r s 4 + (dPass r s).l0 ∧ dRow r s 1 + s.w1 = dRow r s 3 + dRow r s 5 + (dPass r s).l1 := by
  have hs := lpass_sums (rate := r.rate) (room := r.buf) (W0 := s.w0) (W1 := s.w1) (S0 := s.a.c1.toNat) (S1 := s.b.c1.toNat) (k := (dPass r s).k) (c0 := (dPass r s).c0) (c1 := (dPass r s).c1) (l0 := (dPass r s).l0) (l1 := (dPass r s).l1) (x0 := (dPass r s).x0) (x1 := (dPass r s).x1) rfl
  have ha := Ctl.window h.1
  have hb := Ctl.window h.2.1
  have hw := h.2.2
  have hn := hr.2.2
  obtain ⟨n1, n2, n3, n4, n5, n6⟩ := hn
  obtain ⟨s1, s2, s3, s4, s5⟩ := hs
  have r0 : dRow r s 0 = s.a.c1 := rfl
  have r1 : dRow r s 1 = s.b.c1 := rfl
  have r2 : dRow r s 2 = (dPass r s).c0 := rfl
  have r3 : dRow r s 3 = (dPass r s).c1 := rfl
  have r4 : dRow r s 4 = (dPass r s).x0 := rfl
  have r5 : dRow r s 5 = (dPass r s).x1 := rfl
  refine ⟨fun q => ?_, by omega, by omega, by omega⟩
  match q with
  | 0 => omega
  | 1 => omega
  | 2 => omega
  | 3 => omega
  | 4 => omega
  | q + 5 => show 0 ≤ ((dPass r s).x1 : Int) ∧ ((dPass r s).x1 : Int) ≤ 100; omega
end Go.Proofs.YtgmljgcmfooniaaGreatDoor
