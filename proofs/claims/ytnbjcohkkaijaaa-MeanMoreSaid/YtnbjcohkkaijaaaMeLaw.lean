/- What walks of so many edges weigh at most, and the greatest mean of what cycles weigh: plain. Conditions: none. -/
import Derived.Test.YtnbjcohkkaijaaaPotBF
set_option linter.unusedVariables false
set_option linter.unusedSimpArgs false
namespace Go.Tide
/-- The next row of the table, behind k edges. -/
def mRow (f : Nat → Nat → Int) (last : Nat → Int) : Nat → Nat → Int
  | 0 => fun _ => -4611686018427387904
  | k + 1 => if -4611686018427387904 < last (f k 0).toNat then putAt (mRow f last k) (f k 1).toNat (max (mRow f last k (f k 1).toNat) (last (f k 0).toNat + f k 2)) else mRow f last k
/-- The table's rows. -/
def mF (f : Nat → Nat → Int) (n : Nat) : Nat → Nat → Int
  | 0 => fun _ => 0
  | t + 1 => mRow f (mF f n t) n
/-- A walk of t edges from u to v that weighs x. -/
inductive Wk (f : Nat → Nat → Int) (n : Nat) : Nat → Nat → Nat → Int → Prop
  | nil (v : Nat) : Wk f n v 0 v 0
  | snoc {u t : Nat} {x : Int} (k : Nat) (hk : k < n) (h : Wk f n u t (f k 0).toNat x) : Wk f n u (t + 1) (f k 1).toNat (x + f k 2)
theorem Wk.app {f : Nat → Nat → Int} {n u s v t w : Nat} {x y : Int} (h : Wk f n u s v x) (h2 : Wk f n v t w y) : Wk f n u (s + t) w (x + y) := by
  induction h2 with
  | nil => simpa using h
  | snoc k hk h2 ih =>
    have := Wk.snoc k hk ih
    rwa [Int.add_assoc] at this
theorem Wk.times {f : Nat → Nat → Int} {n m j : Nat} {c : Int} (h : Wk f n m j m c) : ∀ q : Nat, Wk f n m (q * j) m (q * c) := by
  intro q
  induction q with
  | zero => simpa using Wk.nil m
  | succ q ih =>
    have h1 := ih.app h
    rw [Nat.succ_mul, show ((q + 1 : Nat) : Int) * c = q * c + c by rw [Int.natCast_add, Int.add_mul]; simp]
    exact h1
theorem Wk.bound {N n : Nat} {f : Nat → Nat → Int} (hG : GRight N n f) {u t v : Nat} {x : Int} (h : Wk f n u t v x) : -(1048576 * (t : Int)) ≤ x ∧ x ≤ 1048576 * (t : Int) := by
  induction h with
  | nil => simp
  | snoc k hk h ih =>
    have := hG.2.2.2 k hk
    omega
theorem Wk.node {N n : Nat} {f : Nat → Nat → Int} (hG : GRight N n f) {u t v : Nat} {x : Int} (h : Wk f n u t v x) (hu : u < N) : v < N := by
  induction h with
  | nil => exact hu
  | snoc k hk h ih =>
    have := hG.2.2.2 k hk
    omega
theorem Wk.nodes {f : Nat → Nat → Int} {n u t v : Nat} {x : Int} (h : Wk f n u t v x) :
    ∃ (g : Nat → Nat) (s : Nat → Int), g 0 = u ∧ g t = v ∧ s 0 = 0 ∧ s t = x ∧ ∀ i j, i ≤ j → j ≤ t → Wk f n (g i) (j - i) (g j) (s j - s i) := by
  induction h with
  | nil =>
    refine ⟨fun _ => u, fun _ => 0, rfl, rfl, rfl, rfl, fun i j hi hj => ?_⟩
    obtain rfl : j = 0 := by omega
    simpa using Wk.nil u
  | snoc k hk h ih =>
    rename_i t x
    obtain ⟨g, s, g0, gt, s0, st, hall⟩ := ih
    refine ⟨fun i => if i ≤ t then g i else (f k 1).toNat, fun i => if i ≤ t then s i else x + f k 2, by simp [g0], if_neg (by omega), by simp [s0], if_neg (by omega), fun i j hi hj => ?_⟩
    rcases Nat.lt_or_ge t j with hlt | hge
    · obtain rfl : j = t + 1 := by omega
      rcases Nat.lt_or_ge t i with h1 | h1
      · obtain rfl : i = t + 1 := by omega
        rw [Nat.sub_self, Int.sub_self]
        exact Wk.nil _
      · have h2 := hall i t h1 (Nat.le_refl _)
        rw [gt, st] at h2
        have h3 := Wk.snoc k hk h2
        simp only [h1, if_true, show ¬ (t + 1 ≤ t) by omega, if_false]
        rw [show t + 1 - i = t - i + 1 by omega, show x + f k 2 - s i = x - s i + f k 2 by omega]
        exact h3
    · simp only [hge, Nat.le_trans hi hge, if_true]
      exact hall i j hi hge
/-- What goes N edges among N nodes goes round somewhere. -/
theorem Wk.cut {N n : Nat} {f : Nat → Nat → Int} (hG : GRight N n f) {u v : Nat} {x : Int} (h : Wk f n u N v x) (hu : u < N) :
    ∃ m j c, m < N ∧ 1 ≤ j ∧ j ≤ N ∧ Wk f n m j m c ∧ Wk f n u (N - j) v (x - c) := by
  obtain ⟨g, s, g0, gt, s0, st, hall⟩ := h.nodes
  have hn : ∀ i, i ≤ N → g i < N := fun i hi => by
    have h1 := hall 0 i (Nat.zero_le _) hi
    rw [g0] at h1
    exact h1.node hG hu
  obtain ⟨i, j, hij, hj, he⟩ := pigeon N g hn
  refine ⟨g i, j - i, s j - s i, hn i (by omega), by omega, by omega, ?_, ?_⟩
  · have h1 := hall i j (by omega) hj
    rwa [← he] at h1
  · have h1 := hall 0 i (Nat.zero_le _) (by omega)
    have h2 := hall j N hj (Nat.le_refl _)
    rw [← he] at h2
    have h3 := h1.app h2
    rw [g0, gt, s0, st] at h3
    rw [show N - (j - i) = i - 0 + (N - j) by omega, show x - (s j - s i) = s i - 0 + (x - s j) by omega]
    exact h3
theorem Wk.take {f : Nat → Nat → Int} {n u t v : Nat} {x : Int} (h : Wk f n u t v x) {i : Nat} (hi : i ≤ t) : ∃ m y, Wk f n u i m y := by
  obtain ⟨g, s, g0, gt, s0, st, hall⟩ := h.nodes
  have h1 := hall 0 i (Nat.zero_le _) hi
  rw [g0] at h1
  exact ⟨_, _, h1⟩

/-- What a row of the table has. -/
def MOk (c : Int) (x : Int) : Prop := x = -4611686018427387904 ∨ (-c ≤ x ∧ x ≤ c)
theorem mRow_of {N n : Nat} {f : Nat → Nat → Int} (hG : GRight N n f) {last : Nat → Int} {c : Int} (hc : 0 ≤ c ∧ c ≤ 1000000000) (hl : ∀ v, v < N → MOk c (last v)) : ∀ k, k ≤ n → ∀ v, v < N →
    (mRow f last k v = -4611686018427387904 ∨ ∃ j, j < k ∧ (f j 1).toNat = v ∧ -4611686018427387904 < last (f j 0).toNat ∧ mRow f last k v = last (f j 0).toNat + f j 2) ∧
    (∀ j, j < k → (f j 1).toNat = v → -4611686018427387904 < last (f j 0).toNat → last (f j 0).toNat + f j 2 ≤ mRow f last k v) := by
  intro k
  induction k with
  | zero => intro _ v _; exact ⟨.inl rfl, fun j hj => absurd hj (by omega)⟩
  | succ k ih =>
    intro hk v hv
    have hg := hG.2.2.2 k (by omega)
    have h1 := ih (by omega) v hv
    have hlk := hl (f k 0).toNat (by omega)
    unfold mRow
    split
    · rename_i hlt
      have hlo : -c ≤ last (f k 0).toNat ∧ last (f k 0).toNat ≤ c := by
        rcases hlk with h | h
        · omega
        · exact h
      by_cases he : v = (f k 1).toNat
      · subst he
        rw [putAt_same]
        constructor
        · rcases h1.1 with h | ⟨j, hj, h2, h3, h4⟩
          · exact .inr ⟨k, by omega, rfl, hlt, by rw [h]; omega⟩
          · rcases Int.le_total (mRow f last k (f k 1).toNat) (last (f k 0).toNat + f k 2) with h5 | h5
            · exact .inr ⟨k, by omega, rfl, hlt, by omega⟩
            · exact .inr ⟨j, by omega, h2, h3, by rw [← h4]; omega⟩
        · intro j hj h2 h3
          rcases Nat.lt_succ_iff_lt_or_eq.1 hj with h | rfl
          · have := h1.2 j h h2 h3
            omega
          · omega
      · rw [putAt_ne _ _ he]
        constructor
        · rcases h1.1 with h | ⟨j, hj, h2, h3, h4⟩
          · exact .inl h
          · exact .inr ⟨j, by omega, h2, h3, h4⟩
        · intro j hj h2 h3
          rcases Nat.lt_succ_iff_lt_or_eq.1 hj with h | rfl
          · exact h1.2 j h h2 h3
          · exact absurd h2.symm he
    · rename_i hlt
      constructor
      · rcases h1.1 with h | ⟨j, hj, h2, h3, h4⟩
        · exact .inl h
        · exact .inr ⟨j, by omega, h2, h3, h4⟩
      · intro j hj h2 h3
        rcases Nat.lt_succ_iff_lt_or_eq.1 hj with h | rfl
        · exact h1.2 j h h2 h3
        · exact absurd h3 hlt
theorem mRow_ok {N n : Nat} {f : Nat → Nat → Int} (hG : GRight N n f) {last : Nat → Int} {c : Int} (hc : 0 ≤ c ∧ c ≤ 1000000000) (hl : ∀ v, v < N → MOk c (last v)) {k : Nat} (hk : k ≤ n) {v : Nat} (hv : v < N) : MOk (c + 1048576) (mRow f last k v) := by
  rcases (mRow_of hG hc hl k hk v hv).1 with h | ⟨j, hj, h2, h3, h4⟩
  · exact .inl h
  · have hg := hG.2.2.2 j (by omega)
    rcases hl (f j 0).toNat (by omega) with h | h
    · omega
    · exact .inr (by omega)
theorem mF_ok {N n : Nat} {f : Nat → Nat → Int} (hG : GRight N n f) : ∀ t : Nat, t ≤ 300 → ∀ v, v < N → MOk (1048576 * t) (mF f n t v) := by
  intro t
  induction t with
  | zero => intro _ v _; exact .inr (by show -(1048576 * ((0 : Nat) : Int)) ≤ 0 ∧ (0 : Int) ≤ 1048576 * ((0 : Nat) : Int); omega)
  | succ t ih =>
    intro ht v hv
    have h := mRow_ok hG (show 0 ≤ 1048576 * (t : Int) ∧ 1048576 * (t : Int) ≤ 1000000000 by omega) (ih (by omega)) (Nat.le_refl n) hv
    rw [show 1048576 * ((t + 1 : Nat) : Int) = 1048576 * t + 1048576 by omega]
    exact h
theorem mF_had {N n : Nat} {f : Nat → Nat → Int} (hG : GRight N n f) : ∀ t, t ≤ 300 → ∀ v, v < N → mF f n t v ≠ -4611686018427387904 → ∃ u, u < N ∧ Wk f n u t v (mF f n t v) := by
  intro t
  induction t with
  | zero => intro _ v hv _; exact ⟨v, hv, Wk.nil v⟩
  | succ t ih =>
    intro ht v hv hne
    rcases (mRow_of hG (show 0 ≤ 1048576 * (t : Int) ∧ 1048576 * (t : Int) ≤ 1000000000 by omega) (mF_ok hG t (by omega)) n (Nat.le_refl n) v hv).1 with h | ⟨j, hj, h2, h3, h4⟩
    · exact absurd h hne
    · have hg := hG.2.2.2 j hj
      obtain ⟨u, hu, hw⟩ := ih (by omega) (f j 0).toNat (by omega) (by omega)
      refine ⟨u, hu, ?_⟩
      have h5 := Wk.snoc j hj hw
      rw [h2] at h5
      show Wk f n u (t + 1) v (mRow f (mF f n t) n v)
      rw [h4]
      exact h5
theorem mF_most {N n : Nat} {f : Nat → Nat → Int} (hG : GRight N n f) {u t v : Nat} {x : Int} (h : Wk f n u t v x) (ht : t ≤ 300) (hu : u < N) : x ≤ mF f n t v := by
  induction h with
  | nil => exact Int.le_refl _
  | snoc k hk h ih =>
    rename_i t x
    have h1 := ih (by omega)
    have hb := h.bound hG
    have hg := hG.2.2.2 k hk
    have h2 := (mRow_of hG (show 0 ≤ 1048576 * (t : Int) ∧ 1048576 * (t : Int) ≤ 1000000000 by omega) (mF_ok hG t (by omega)) n (Nat.le_refl n) (f k 1).toNat (by omega)).2 k hk rfl (by omega)
    show x + f k 2 ≤ mRow f (mF f n t) n _
    omega
theorem mF_some {N n : Nat} {f : Nat → Nat → Int} (hG : GRight N n f) {u t v : Nat} {x : Int} (h : Wk f n u t v x) (ht : t ≤ 300) (hu : u < N) : mF f n t v ≠ -4611686018427387904 := by
  have h1 := mF_most hG h ht hu
  have h2 := h.bound hG
  omega

/-- Karp, one way: where what goes N edges is nowhere more, by P through D, than what goes fewer, no cycle is. -/
theorem karp_none {N n : Nat} {f : Nat → Nat → Int} (hG : GRight N n f) (P D : Int) (hD : 0 ≤ D)
    (hA : ∀ v, v < N → mF f n N v ≠ -4611686018427387904 → ∃ k, k < N ∧ mF f n k v ≠ -4611686018427387904 ∧ (mF f n N v - mF f n k v) * D ≤ P * ((N : Int) - k)) {u t v : Nat} {x : Int} (h : Wk f n u t v x) (hu : u < N) :
    ∃ u' t' x', u' < N ∧ t' < N ∧ Wk f n u' t' v x' ∧ x * D - t * P ≤ x' * D - t' * P := by
  have hN : N ≤ 300 := by have := hG.2.1; omega
  induction h with
  | nil => exact ⟨u, 0, 0, hu, by omega, Wk.nil u, Int.le_refl _⟩
  | snoc k hk h ih =>
    rename_i t x
    obtain ⟨u', t', x', hu', ht', hw, hle⟩ := ih
    have hw2 := Wk.snoc k hk hw
    have e1 : (x + f k 2) * D - ((t + 1 : Nat) : Int) * P ≤ (x' + f k 2) * D - ((t' + 1 : Nat) : Int) * P := by
      rw [Int.add_mul, Int.add_mul, Int.natCast_add, Int.natCast_add, Int.add_mul, Int.add_mul]
      omega
    rcases Nat.lt_or_ge (t' + 1) N with h1 | h1
    · exact ⟨u', t' + 1, _, hu', h1, hw2, e1⟩
    · obtain rfl : N = t' + 1 := by omega
      have hv := hw2.node hG hu'
      have hm := mF_most hG hw2 hN hu'
      obtain ⟨q, hq, hq2, hq3⟩ := hA _ hv (mF_some hG hw2 hN hu')
      obtain ⟨u2, hu2, hw3⟩ := mF_had hG q (by omega) _ hv hq2
      refine ⟨u2, q, _, hu2, hq, hw3, Int.le_trans e1 ?_⟩
      have e2 := Int.mul_le_mul_of_nonneg_right hm hD
      rw [Int.sub_mul, Int.mul_sub] at hq3
      rw [Int.mul_comm ((t' + 1 : Nat) : Int) P, Int.mul_comm (q : Int) P]
      omega
theorem small_of {c e : Int} (h : ∀ q : Nat, (q : Int) * c ≤ e) : c ≤ 0 := by
  by_cases h1 : 0 < c
  · have h2 := h (e.toNat + 1)
    have h3 : ((e.toNat + 1 : Nat) : Int) * 1 ≤ ((e.toNat + 1 : Nat) : Int) * c := Int.mul_le_mul_of_nonneg_left (by omega) (by omega)
    omega
  · omega
theorem karp_le {N n : Nat} {f : Nat → Nat → Int} (hG : GRight N n f) (P D : Int) (hD : 0 ≤ D)
    (hA : ∀ v, v < N → mF f n N v ≠ -4611686018427387904 → ∃ k, k < N ∧ mF f n k v ≠ -4611686018427387904 ∧ (mF f n N v - mF f n k v) * D ≤ P * ((N : Int) - k)) {m j : Nat} {c : Int} (h : Wk f n m j m c) (hm : m < N) : c * D ≤ j * P := by
  have hN : N ≤ 300 := by have := hG.2.1; omega
  have h1 : ∀ q : Nat, (q : Int) * (c * D - j * P) ≤ 314572800 * D + 300 * (max P (-P)) := fun q => by
    obtain ⟨u', t', x', hu', ht', hw, hle⟩ := karp_none hG P D hD hA (h.times q) hm
    have hb := hw.bound hG
    have h2 : x' * D ≤ 314572800 * D := Int.mul_le_mul_of_nonneg_right (by omega) hD
    have h3 : -((t' : Int) * P) ≤ 300 * (max P (-P)) := by
      have h4 : (t' : Int) * (-P) ≤ (t' : Int) * (max P (-P)) := Int.mul_le_mul_of_nonneg_left (by omega) (by omega)
      have h5 : (t' : Int) * (max P (-P)) ≤ 300 * (max P (-P)) := Int.mul_le_mul_of_nonneg_right (by omega) (by omega)
      rw [Int.mul_neg] at h4
      omega
    have h6 : (q : Int) * (c * D - j * P) = (q * c) * D - ((q * j : Nat) : Int) * P := by
      rw [Int.mul_sub, Int.natCast_mul, Int.mul_assoc, Int.mul_assoc]
    omega
  have := small_of h1
  omega
/-- Karp, the other way: where some node has by P through D as much more than all with fewer edges, some cycle weighs so much. -/
theorem karp_ge {N n : Nat} {f : Nat → Nat → Int} (hG : GRight N n f) (P D : Int) (hD : 0 ≤ D) {v : Nat} (hv : v < N) (hne : mF f n N v ≠ -4611686018427387904)
    (hA : ∀ k, k < N → mF f n k v ≠ -4611686018427387904 → P * ((N : Int) - k) ≤ (mF f n N v - mF f n k v) * D) : ∃ m j c, m < N ∧ 1 ≤ j ∧ Wk f n m j m c ∧ j * P ≤ c * D := by
  have hN : N ≤ 300 := by have := hG.2.1; omega
  obtain ⟨u, hu, hw⟩ := mF_had hG N hN v hv hne
  obtain ⟨m, j, c, hm, hj, hjN, h1, h2⟩ := hw.cut hG hu
  refine ⟨m, j, c, hm, hj, h1, ?_⟩
  have h3 := hA (N - j) (by omega) (mF_some hG h2 (by omega) hu)
  have h4 := mF_most hG h2 (by omega) hu
  have h5 : (mF f n N v - mF f n (N - j) v) * D ≤ c * D := Int.mul_le_mul_of_nonneg_right (by omega) hD
  rw [show (N : Int) - ((N - j : Nat) : Int) = j by omega, Int.mul_comm] at h3
  omega
/-- Who goes round can go on for ever. -/
theorem round_some {N n : Nat} {f : Nat → Nat → Int} (hG : GRight N n f) {m j : Nat} {c : Int} (hj : 1 ≤ j) (h : Wk f n m j m c) (hm : m < N) : ∃ v, v < N ∧ mF f n N v ≠ -4611686018427387904 := by
  have hN : N ≤ 300 := by have := hG.2.1; omega
  have h1 := h.times N
  obtain ⟨v, y, h2⟩ := h1.take (show N ≤ N * j by exact Nat.le_mul_of_pos_right N (by omega))
  exact ⟨v, h2.node hG hm, mF_some hG h2 hN hm⟩

/-- Whether a fraction is more. -/
def fMore (a b : Int × Int) : Bool := decide (b.1 * a.2 < a.1 * b.2)
/-- The least of a node's quotients, behind k rows. -/
def leastAt (F : Nat → Nat → Int) (N v : Nat) : Nat → Int × Int
  | 0 => (0, 0)
  | k + 1 => if F k v = -4611686018427387904 then leastAt F N v k else if (leastAt F N v k).2 = 0 ∨ fMore (leastAt F N v k) (F N v - F k v, (N : Int) - k) = true then (F N v - F k v, (N : Int) - k) else leastAt F N v k
/-- The greatest of these, behind v nodes. -/
def bestAt (F : Nat → Nat → Int) (N : Nat) : Nat → Int × Int
  | 0 => (0, 0)
  | v + 1 => if F N v = -4611686018427387904 then bestAt F N v else if (bestAt F N v).2 = 0 ∨ fMore (leastAt F N v N) (bestAt F N v) = true then leastAt F N v N else bestAt F N v
theorem frac_trans {a b c d e g : Int} (hb : 0 < b) (hd : 0 < d) (hg : 0 < g) (h1 : a * d ≤ c * b) (h2 : c * g ≤ e * d) : a * g ≤ e * b := by
  have h3 : a * d * g ≤ c * b * g := Int.mul_le_mul_of_nonneg_right h1 (by omega)
  have h4 : c * g * b ≤ e * d * b := Int.mul_le_mul_of_nonneg_right h2 (by omega)
  have h5 : (a * g) * d ≤ (e * b) * d := by grind
  exact Int.le_of_mul_le_mul_right h5 hd
theorem least_of_row {F : Nat → Nat → Int} {N v : Nat} : ∀ k, k ≤ N → (leastAt F N v k = (0, 0) ∧ ∀ q, q < k → F q v = -4611686018427387904) ∨
    ((∃ q, q < k ∧ F q v ≠ -4611686018427387904 ∧ leastAt F N v k = (F N v - F q v, (N : Int) - q)) ∧ 0 < (leastAt F N v k).2 ∧ (leastAt F N v k).2 ≤ N ∧ ∀ q, q < k → F q v ≠ -4611686018427387904 → (leastAt F N v k).1 * ((N : Int) - q) ≤ (F N v - F q v) * (leastAt F N v k).2) := by
  intro k
  induction k with
  | zero => intro _; exact .inl ⟨rfl, fun q hq => absurd hq (by omega)⟩
  | succ k ih =>
    intro hk
    have h1 := ih (by omega)
    unfold leastAt
    split
    · rename_i h0
      rcases h1 with ⟨h2, h3⟩ | ⟨⟨q, h2, h3, h4⟩, h5, h6, h7⟩
      · refine .inl ⟨h2, fun q hq => ?_⟩
        rcases Nat.lt_succ_iff_lt_or_eq.1 hq with h | rfl
        · exact h3 q h
        · exact h0
      · refine .inr ⟨⟨q, by omega, h3, h4⟩, h5, h6, fun q hq hne => ?_⟩
        rcases Nat.lt_succ_iff_lt_or_eq.1 hq with h | rfl
        · exact h7 q h hne
        · exact absurd h0 hne
    · rename_i h0
      split
      · rename_i hc
        refine .inr ⟨⟨k, by omega, h0, rfl⟩, by show 0 < (N : Int) - k; omega, by show (N : Int) - k ≤ N; omega, fun q hq hne => ?_⟩
        show (F N v - F k v) * ((N : Int) - q) ≤ (F N v - F q v) * ((N : Int) - k)
        rcases Nat.lt_succ_iff_lt_or_eq.1 hq with h | rfl
        · rcases h1 with ⟨h2, h3⟩ | ⟨_, h5, h6, h7⟩
          · exact absurd (h3 q h) hne
          · rcases hc with hc | hc
            · omega
            · have hc := of_decide_eq_true hc
              exact frac_trans (by omega) h5 (by omega) (Int.le_of_lt hc) (h7 q h hne)
        · exact Int.le_refl _
      · rename_i hc
        have hc := not_or.1 hc
        rcases h1 with ⟨h2, h3⟩ | ⟨⟨q, h2, h3, h4⟩, h5, h6, h7⟩
        · exact absurd (by rw [h2]) hc.1
        · refine .inr ⟨⟨q, by omega, h3, h4⟩, h5, h6, fun q hq hne => ?_⟩
          rcases Nat.lt_succ_iff_lt_or_eq.1 hq with h | rfl
          · exact h7 q h hne
          · have h8 := hc.2
            unfold fMore at h8
            rw [decide_eq_true_eq] at h8
            have h8 := Int.not_lt.1 h8
            exact h8
theorem best_of {F : Nat → Nat → Int} {N : Nat} (h0 : ∀ v, F 0 v = 0) (hN : 0 < N) : ∀ m, m ≤ N → (bestAt F N m = (0, 0) ∧ ∀ v, v < m → F N v = -4611686018427387904) ∨
    ((∃ v, v < m ∧ F N v ≠ -4611686018427387904 ∧ bestAt F N m = leastAt F N v N) ∧ 0 < (bestAt F N m).2 ∧ (bestAt F N m).2 ≤ N ∧ ∀ v, v < m → F N v ≠ -4611686018427387904 → (leastAt F N v N).1 * (bestAt F N m).2 ≤ (bestAt F N m).1 * (leastAt F N v N).2) := by
  have hL : ∀ v, 0 < (leastAt F N v N).2 ∧ (leastAt F N v N).2 ≤ N := fun v => by
    rcases least_of_row (F := F) (v := v) N (Nat.le_refl _) with ⟨_, h⟩ | ⟨_, h, h2, _⟩
    · have := h 0 hN
      rw [h0] at this
      omega
    · exact ⟨h, h2⟩
  intro m
  induction m with
  | zero => intro _; exact .inl ⟨rfl, fun q hq => absurd hq (by omega)⟩
  | succ m ih =>
    intro hm
    have h1 := ih (by omega)
    unfold bestAt
    split
    · rename_i h0
      rcases h1 with ⟨h2, h3⟩ | ⟨⟨q, h2, h3, h4⟩, h5, h6, h7⟩
      · refine .inl ⟨h2, fun q hq => ?_⟩
        rcases Nat.lt_succ_iff_lt_or_eq.1 hq with h | rfl
        · exact h3 q h
        · exact h0
      · refine .inr ⟨⟨q, by omega, h3, h4⟩, h5, h6, fun q hq hne => ?_⟩
        rcases Nat.lt_succ_iff_lt_or_eq.1 hq with h | rfl
        · exact h7 q h hne
        · exact absurd h0 hne
    · rename_i hx
      split
      · rename_i hc
        refine .inr ⟨⟨m, by omega, hx, rfl⟩, (hL m).1, (hL m).2, fun q hq hne => ?_⟩
        rcases Nat.lt_succ_iff_lt_or_eq.1 hq with h | rfl
        · rcases h1 with ⟨h2, h3⟩ | ⟨_, h5, h6, h7⟩
          · exact absurd (h3 q h) hne
          · rcases hc with hc | hc
            · omega
            · have hc := of_decide_eq_true hc
              exact frac_trans (hL q).1 h5 (hL m).1 (h7 q h hne) (Int.le_of_lt hc)
        · exact Int.le_refl _
      · rename_i hc
        have hc := not_or.1 hc
        rcases h1 with ⟨h2, h3⟩ | ⟨⟨q, h2, h3, h4⟩, h5, h6, h7⟩
        · exact absurd (by rw [h2]) hc.1
        · refine .inr ⟨⟨q, by omega, h3, h4⟩, h5, h6, fun q hq hne => ?_⟩
          rcases Nat.lt_succ_iff_lt_or_eq.1 hq with h | rfl
          · exact h7 q h hne
          · have h8 := hc.2
            unfold fMore at h8
            rw [decide_eq_true_eq] at h8
            exact Int.not_lt.1 h8
/-- The greatest mean. -/
def best (f : Nat → Nat → Int) (n N : Nat) : Int × Int := bestAt (mF f n) N N
theorem best_none {N n : Nat} {f : Nat → Nat → Int} (hG : GRight N n f) (h : (best f n N).2 = 0) {m j : Nat} {c : Int} (hj : 1 ≤ j) (hw : Wk f n m j m c) (hm : m < N) : False := by
  obtain ⟨v, hv, hne⟩ := round_some hG hj hw hm
  rcases best_of (F := mF f n) (N := N) (fun _ => rfl) (by omega) N (Nat.le_refl _) with ⟨_, h2⟩ | ⟨_, h2, _⟩
  · exact hne (h2 v hv)
  · unfold best at h
    omega
theorem best_zero {N n : Nat} {f : Nat → Nat → Int} (h : (best f n N).2 = 0) : (best f n N).1 = 0 := by
  rcases Nat.eq_zero_or_pos N with rfl | hN
  · rfl
  · rcases best_of (F := mF f n) (N := N) (fun _ => rfl) hN N (Nat.le_refl _) with ⟨h2, _⟩ | ⟨_, h2, _⟩
    · unfold best; rw [h2]
    · unfold best at h
      omega
theorem best_den {N n : Nat} {f : Nat → Nat → Int} (h : (best f n N).2 ≠ 0) : 0 < (best f n N).2 ∧ (best f n N).2 ≤ N := by
  rcases Nat.eq_zero_or_pos N with rfl | hN
  · exact absurd rfl h
  · rcases best_of (F := mF f n) (N := N) (fun _ => rfl) hN N (Nat.le_refl _) with ⟨h2, _⟩ | ⟨_, h2, h3, _⟩
    · unfold best at h; rw [h2] at h; exact absurd rfl h
    · exact ⟨h2, h3⟩
/-- No cycle weighs more by the edge. -/
theorem best_le {N n : Nat} {f : Nat → Nat → Int} (hG : GRight N n f) (h : (best f n N).2 ≠ 0) {m j : Nat} {c : Int} (hw : Wk f n m j m c) (hm : m < N) : c * (best f n N).2 ≤ j * (best f n N).1 := by
  have hd := best_den h
  refine karp_le hG _ _ (by omega) (fun v hv hne => ?_) hw hm
  rcases best_of (F := mF f n) (N := N) (fun _ => rfl) (by omega) N (Nat.le_refl _) with ⟨_, h2⟩ | ⟨_, h2, _, h3⟩
  · exact absurd (h2 v hv) hne
  · have h4 := h3 v hv hne
    rcases least_of_row (F := mF f n) (N := N) (v := v) N (Nat.le_refl _) with ⟨_, h5⟩ | ⟨⟨q, h5, h6, h7⟩, _⟩
    · have := h5 0 (by omega)
      exact absurd this (by show (0 : Int) ≠ _; omega)
    · rw [h7] at h4
      exact ⟨q, h5, h6, h4⟩
/-- And one weighs so much. -/
theorem best_ge {N n : Nat} {f : Nat → Nat → Int} (hG : GRight N n f) (h : (best f n N).2 ≠ 0) : ∃ m j c, m < N ∧ 1 ≤ j ∧ Wk f n m j m c ∧ c * (best f n N).2 = j * (best f n N).1 := by
  have hd := best_den h
  have h1 : ∃ m j c, m < N ∧ 1 ≤ j ∧ Wk f n m j m c ∧ j * (best f n N).1 ≤ c * (best f n N).2 := by
    rcases best_of (F := mF f n) (N := N) (fun _ => rfl) (by omega) N (Nat.le_refl _) with ⟨h2, _⟩ | ⟨⟨v, hv, hne, he⟩, h2, _, h3⟩
    · unfold best at h; rw [h2] at h; exact absurd rfl h
    · refine karp_ge hG _ _ (by omega) hv hne (fun k hk hkn => ?_)
      rcases least_of_row (F := mF f n) (N := N) (v := v) N (Nat.le_refl _) with ⟨_, h5⟩ | ⟨_, _, _, h6⟩
      · exact absurd (h5 k hk) hkn
      · have h7 := h6 k hk hkn
        unfold best
        rw [he]
        exact h7
  obtain ⟨m, j, c, hm, hj, hw, hle⟩ := h1
  exact ⟨m, j, c, hm, hj, hw, Int.le_antisymm (best_le hG h hw hm) hle⟩
end Go.Tide
