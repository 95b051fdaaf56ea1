/- Plain laws of the best of the last: deques, windows, windows of windows, parts. Conditions: none. -/
import Derived.Test.YtmlkebemkibipaaKit3
set_option linter.unusedVariables false
set_option linter.unusedSimpArgs false
namespace Go.Tide

/-- A strict order of ints: 'is better than'. -/
structure Ord (h : Int → Int → Bool) : Prop where
  irrefl : ∀ a, h a a = false
  trans : ∀ a b c, h a b = true → h b c = true → h a c = true
  neg : ∀ a b c, h a b = false → h b c = false → h a c = false
  tri : ∀ a b, h a b = false → h b a = false → a = b
def ltB (a b : Int) : Bool := decide (a < b)
def gtB (a b : Int) : Bool := decide (b < a)
theorem ltB_iff {a b : Int} : ltB a b = true ↔ a < b := by simp [ltB]
theorem gtB_iff {a b : Int} : gtB a b = true ↔ b < a := by simp [gtB]
theorem ltB_not {a b : Int} : ltB a b = false ↔ b ≤ a := by simp [ltB]
theorem gtB_not {a b : Int} : gtB a b = false ↔ a ≤ b := by simp [gtB]
theorem ord_lt : Ord ltB := by
  constructor
  · intro a; rw [ltB_not]; omega
  · intro a b c; rw [ltB_iff, ltB_iff, ltB_iff]; omega
  · intro a b c; rw [ltB_not, ltB_not, ltB_not]; omega
  · intro a b; rw [ltB_not, ltB_not]; omega
theorem ord_gt : Ord gtB := by
  constructor
  · intro a; rw [gtB_not]; omega
  · intro a b c; rw [gtB_iff, gtB_iff, gtB_iff]; omega
  · intro a b c; rw [gtB_not, gtB_not, gtB_not]; omega
  · intro a b; rw [gtB_not, gtB_not]; omega

/-- v is a best one of x from lo to k. -/
def BestIn (h : Int → Int → Bool) (x : Nat → Int) (lo : Int) (k : Nat) (v : Int) : Prop :=
  (∃ i : Nat, lo ≤ i ∧ i ≤ k ∧ x i = v) ∧ ∀ t : Nat, lo ≤ t → t ≤ k → h (x t) v = false
theorem BestIn.unique {h : Int → Int → Bool} (H : Ord h) {x : Nat → Int} {lo : Int} {k : Nat} {v u : Int} (hv : BestIn h x lo k v) (hu : BestIn h x lo k u) : v = u := by
  obtain ⟨⟨i, a1, a2, rfl⟩, a4⟩ := hv
  obtain ⟨⟨j, b1, b2, rfl⟩, b4⟩ := hu
  exact H.tri _ _ (b4 i a1 a2) (a4 j b1 b2)
/-- The best from lo to k. -/
def bestTo (h : Int → Int → Bool) (x : Nat → Int) (lo : Int) : Nat → Int
  | 0 => x 0
  | k + 1 => if lo ≤ k then (if h (bestTo h x lo k) (x (k + 1)) = true then bestTo h x lo k else x (k + 1)) else x (k + 1)
theorem bestTo_spec {h : Int → Int → Bool} (H : Ord h) (x : Nat → Int) (lo : Int) (k : Nat) (hk : lo ≤ k) : BestIn h x lo k (bestTo h x lo k) := by
  induction k with
  | zero =>
    refine ⟨⟨0, hk, Nat.le_refl _, rfl⟩, fun t _ ht => ?_⟩
    obtain rfl : t = 0 := by omega
    exact H.irrefl _
  | succ k ih =>
    unfold bestTo
    by_cases hl : lo ≤ k
    · rw [if_pos hl]
      obtain ⟨⟨i, a1, a2, a3⟩, a4⟩ := ih hl
      by_cases hb : h (bestTo h x lo k) (x (k + 1)) = true
      · rw [if_pos hb]
        refine ⟨⟨i, a1, by omega, a3⟩, fun t t1 t2 => ?_⟩
        rcases Nat.lt_succ_iff_lt_or_eq.1 (Nat.lt_succ_of_le t2) with ht | rfl
        · exact a4 t t1 (by omega)
        · rw [← Bool.not_eq_true]
          intro hc
          have := H.trans _ _ _ hb hc
          rw [H.irrefl] at this
          cases this
      · have hb' : h (bestTo h x lo k) (x (k + 1)) = false := by simpa using hb
        rw [if_neg hb]
        refine ⟨⟨k + 1, hk, Nat.le_refl _, rfl⟩, fun t t1 t2 => ?_⟩
        rcases Nat.lt_succ_iff_lt_or_eq.1 (Nat.lt_succ_of_le t2) with ht | rfl
        · exact H.neg _ _ _ (a4 t t1 (by omega)) hb'
        · exact H.irrefl _
    · rw [if_neg hl]
      refine ⟨⟨k + 1, hk, Nat.le_refl _, rfl⟩, fun t t1 t2 => ?_⟩
      obtain rfl : t = k + 1 := by omega
      exact H.irrefl _
/-- The best of the last w, at k. -/
def winOf (h : Int → Int → Bool) (x : Nat → Int) (w : Int) (k : Nat) : Int := bestTo h x ((k : Int) + 1 - w) k
theorem winOf_spec {h : Int → Int → Bool} (H : Ord h) (x : Nat → Int) {w : Int} (hw : 1 ≤ w) (k : Nat) : BestIn h x ((k : Int) + 1 - w) k (winOf h x w k) := bestTo_spec H x _ k (by omega)
theorem winOf_eq {h : Int → Int → Bool} (H : Ord h) {x : Nat → Int} {w : Int} (hw : 1 ≤ w) {k : Nat} {v : Int} (hv : BestIn h x ((k : Int) + 1 - w) k v) : v = winOf h x w k := hv.unique H (winOf_spec H x hw k)
theorem BestIn.lo {h : Int → Int → Bool} {x : Nat → Int} {lo lo' : Int} {k : Nat} {v : Int} (hv : BestIn h x lo k v) (hl : ∀ t : Nat, t ≤ k → (lo ≤ t ↔ lo' ≤ t)) : BestIn h x lo' k v := by
  obtain ⟨⟨i, a1, a2, a3⟩, a4⟩ := hv
  exact ⟨⟨i, (hl i a2).1 a1, a2, a3⟩, fun t t1 t2 => a4 t ((hl t t2).2 t1) t2⟩
theorem BestIn.congr {h : Int → Int → Bool} {x y : Nat → Int} {lo : Int} {k : Nat} {v : Int} (hv : BestIn h x lo k v) (hl : ∀ t : Nat, t ≤ k → x t = y t) : BestIn h y lo k v := by
  obtain ⟨⟨i, a1, a2, a3⟩, a4⟩ := hv
  exact ⟨⟨i, a1, a2, (hl i a2) ▸ a3⟩, fun t t1 t2 => (hl t t2) ▸ a4 t t1 t2⟩
theorem winOf_congr {h : Int → Int → Bool} (H : Ord h) {x y : Nat → Int} {w : Int} (hw : 1 ≤ w) {k : Nat} (hl : ∀ t : Nat, t ≤ k → x t = y t) : winOf h x w k = winOf h y w k :=
  winOf_eq H hw ((winOf_spec H x hw k).congr hl)

/-- A deque of places: each is better than those behind it; whatever lies in the window has one behind it that is no worse. -/
structure DInv (h : Int → Int → Bool) (x : Nat → Int) (lo : Int) (n : Nat) (I : List Nat) : Prop where
  order : I.Pairwise fun i j => i < j ∧ h (x i) (x j) = true
  low : ∀ i ∈ I, lo ≤ i ∧ i < n
  cover : ∀ t : Nat, lo ≤ t → t < n → ∃ i ∈ I, t ≤ i ∧ h (x t) (x i) = false
theorem dinv_nil (h : Int → Int → Bool) (x : Nat → Int) (lo : Int) : DInv h x lo 0 [] := ⟨List.Pairwise.nil, by simp, fun t _ ht => by omega⟩
/-- What is behind the place m goes; k comes. -/
theorem DInv.push {h : Int → Int → Bool} (H : Ord h) {x : Nat → Int} {lo : Int} {k : Nat} {I : List Nat} (d : DInv h x lo k I) (hlo : lo ≤ k) {m : Nat} (hm : m ≤ I.length)
    (hb : ∀ i, I[m - 1]? = some i → 0 < m → h (x i) (x k) = true) (hw : ∀ j i, m ≤ j → I[j]? = some i → h (x i) (x k) = false) : DInv h x lo (k + 1) (I.take m ++ [k]) := by
  have hall : ∀ i ∈ I.take m, h (x i) (x k) = true := by
    intro i hi
    obtain ⟨j, hj⟩ := List.getElem?_of_mem hi
    rw [List.getElem?_take] at hj
    split at hj
    · rename_i hjm
      have hlast : m - 1 < I.length := by omega
      have hl := hb (I[m - 1]) (List.getElem?_eq_getElem hlast) (by omega)
      by_cases hjl : j = m - 1
      · subst hjl
        rw [List.getElem?_eq_getElem hlast] at hj
        simp only [Option.some.injEq] at hj
        rw [← hj]
        exact hl
      · have hjlt : j < I.length := by omega
        have e := List.pairwise_iff_getElem.1 d.order j (m - 1) hjlt hlast (by omega)
        rw [List.getElem?_eq_getElem hjlt] at hj
        simp only [Option.some.injEq] at hj
        rw [← hj]
        exact H.trans _ _ _ e.2 hl
    · cases hj
  constructor
  · rw [List.pairwise_append]
    refine ⟨d.order.sublist (List.take_sublist _ _), List.pairwise_singleton _ _, fun i hi j hj => ?_⟩
    simp only [List.mem_singleton] at hj
    subst hj
    exact ⟨(d.low i (List.mem_of_mem_take hi)).2, hall i hi⟩
  · intro i hi
    rcases List.mem_append.1 hi with hi | hi
    · have := d.low i (List.mem_of_mem_take hi)
      exact ⟨this.1, by omega⟩
    · simp only [List.mem_singleton] at hi
      subst hi
      exact ⟨hlo, by omega⟩
  · intro t t1 t2
    rcases Nat.lt_succ_iff_lt_or_eq.1 t2 with ht | rfl
    · obtain ⟨i, hi, h1, h2⟩ := d.cover t t1 ht
      obtain ⟨j, hj⟩ := List.getElem?_of_mem hi
      by_cases hjm : j < m
      · refine ⟨i, List.mem_append_left _ ?_, h1, h2⟩
        apply List.mem_of_getElem? (i := j)
        rw [List.getElem?_take, if_pos hjm]
        exact hj
      · refine ⟨k, by simp, by omega, H.neg _ _ _ h2 (hw j i (by omega) hj)⟩
    · exact ⟨t, by simp, Nat.le_refl _, H.irrefl _⟩
/-- What lies below lo goes. -/
theorem DInv.old {h : Int → Int → Bool} {x : Nat → Int} {lo lo' : Int} {n : Nat} {I : List Nat} (d : DInv h x lo n I) (hl : lo ≤ lo') {m : Nat}
    (hd : ∀ j i, j < m → I[j]? = some i → (i : Int) < lo') (hk : ∀ i, I[m]? = some i → lo' ≤ i) : DInv h x lo' n (I.drop m) := by
  constructor
  · exact d.order.sublist (List.drop_sublist _ _)
  · intro i hi
    obtain ⟨j, hj⟩ := List.getElem?_of_mem hi
    rw [List.getElem?_drop] at hj
    have hlt : m + j < I.length := (List.getElem?_eq_some_iff.1 hj).1
    refine ⟨?_, (d.low i (List.mem_of_mem_drop hi)).2⟩
    have h0 := hk I[m] (List.getElem?_eq_getElem (by omega))
    rcases Nat.eq_zero_or_pos j with rfl | hj0
    · rw [Nat.add_zero, List.getElem?_eq_getElem (by omega)] at hj
      simp only [Option.some.injEq] at hj
      omega
    · have e := List.pairwise_iff_getElem.1 d.order m (m + j) (by omega) hlt (by omega)
      rw [List.getElem?_eq_getElem hlt] at hj
      simp only [Option.some.injEq] at hj
      omega
  · intro t t1 t2
    obtain ⟨i, hi, h1, h2⟩ := d.cover t (by omega) t2
    obtain ⟨j, hj⟩ := List.getElem?_of_mem hi
    by_cases hjm : j < m
    · have := hd j i hjm hj
      omega
    · refine ⟨i, ?_, h1, h2⟩
      apply List.mem_of_getElem? (i := j - m)
      rw [List.getElem?_drop, show m + (j - m) = j by omega]
      exact hj
/-- The first one is the best. -/
theorem DInv.front {h : Int → Int → Bool} (H : Ord h) {x : Nat → Int} {lo : Int} {k : Nat} {i : Nat} {I : List Nat} (d : DInv h x lo (k + 1) (i :: I)) : BestIn h x lo k (x i) := by
  have hi := d.low i (by simp)
  refine ⟨⟨i, hi.1, by omega, rfl⟩, fun t t1 t2 => ?_⟩
  obtain ⟨j, hj, h1, h2⟩ := d.cover t t1 (by omega)
  rcases List.mem_cons.1 hj with rfl | hj
  · exact h2
  · rw [← Bool.not_eq_true]
    intro hc
    have e := (List.pairwise_cons.1 d.order).1 j hj
    have := H.trans _ _ _ hc e.2
    rw [h2] at this
    cases this

/-- A window of windows. -/
theorem win_twice {h : Int → Int → Bool} (H : Ord h) (x : Nat → Int) {v w : Int} (hv : 1 ≤ v) (hw : 1 ≤ w) (k : Nat) : winOf h (winOf h x w) v k = winOf h x (v + w - 1) k := by
  refine winOf_eq H (by omega) ?_
  obtain ⟨⟨j, a1, a2, a3⟩, a4⟩ := winOf_spec H (winOf h x w) hv k
  rw [← a3]
  rw [← a3] at a4
  obtain ⟨⟨i, b1, b2, b3⟩, b4⟩ := winOf_spec H x hw j
  refine ⟨⟨i, by omega, by omega, b3⟩, fun t t1 t2 => ?_⟩
  -- the window that ends at the later one of t and k + 1 - v
  obtain ⟨q, q1, q2, q3, q4⟩ : ∃ q : Nat, (k : Int) + 1 - v ≤ q ∧ q ≤ k ∧ t ≤ q ∧ (q : Int) + 1 - w ≤ t := by
    by_cases ht : (k : Int) + 1 - v ≤ t
    · exact ⟨t, ht, t2, Nat.le_refl _, by omega⟩
    · exact ⟨((k : Int) + 1 - v).toNat, by omega, by omega, by omega, by omega⟩
  have c1 := (winOf_spec H x hw q).2 t q4 q3
  have c2 := a4 q q1 q2
  exact H.neg _ _ _ c1 c2
theorem win_le {x : Nat → Int} {w : Int} (hw : 1 ≤ w) {k t : Nat} (h1 : (k : Int) + 1 - w ≤ t) (h2 : t ≤ k) : winOf ltB x w k ≤ x t := ltB_not.1 ((winOf_spec ord_lt x hw k).2 t h1 h2)
theorem win_ge {x : Nat → Int} {w : Int} (hw : 1 ≤ w) {k t : Nat} (h1 : (k : Int) + 1 - w ≤ t) (h2 : t ≤ k) : x t ≤ winOf gtB x w k := gtB_not.1 ((winOf_spec ord_gt x hw k).2 t h1 h2)
/-- A least of more is no more. -/
theorem best_le {x : Nat → Int} {lo lo' : Int} {k k' : Nat} {v u : Int} (hv : BestIn ltB x lo k v) (hu : BestIn ltB x lo' k' u) (hl : ∀ i : Nat, lo ≤ i → i ≤ k → lo' ≤ i ∧ i ≤ k') : u ≤ v := by
  obtain ⟨⟨i, a1, a2, rfl⟩, _⟩ := hv
  have := hl i a1 a2
  exact ltB_not.1 (hu.2 i this.1 this.2)
theorem win_more {x : Nat → Int} {v w : Int} (hv : 1 ≤ v) (hw : v ≤ w) (k : Nat) : winOf ltB x w k ≤ winOf ltB x v k :=
  best_le (winOf_spec ord_lt x hv k) (winOf_spec ord_lt x (by omega) k) fun i h1 h2 => ⟨by omega, h2⟩
theorem win_wide {x : Nat → Int} {w : Int} {n : Nat} (hw : 1 ≤ w) (hn : (n : Int) ≤ w) {k : Nat} (hk : k + 1 < n) : winOf ltB x w (k + 1) ≤ winOf ltB x w k :=
  best_le (winOf_spec ord_lt x hw k) (winOf_spec ord_lt x hw (k + 1)) fun i h1 h2 => ⟨by omega, by omega⟩
theorem win_turned {x : Nat → Int} {w : Int} (hw : 1 ≤ w) (k : Nat) : winOf ltB x w k = - winOf gtB (fun t => - x t) w k := by
  have h1 : BestIn gtB (fun t => - x t) ((k : Int) + 1 - w) k (- winOf ltB x w k) := by
    obtain ⟨⟨i, a1, a2, a3⟩, a4⟩ := winOf_spec ord_lt x hw k
    refine ⟨⟨i, a1, a2, by rw [← a3]⟩, fun t t1 t2 => ?_⟩
    have := ltB_not.1 (a4 t t1 t2)
    rw [gtB_not]
    show - x t ≤ - winOf ltB x w k
    omega
  have := winOf_eq ord_gt hw h1
  omega

/-! ### Parts -/
/-- Where the parts that still count begin, at k. -/
def partLo (part keep : Int) (k : Nat) : Int := part * ((k : Int) / part + 1 - keep)
/-- The base at k: the least from there on. -/
def baseOf (x : Nat → Int) (part keep : Int) (k : Nat) : Int := bestTo ltB x (partLo part keep k) k
theorem partLo_le {part keep : Int} (hp : 1 ≤ part) (hk : 1 ≤ keep) (k : Nat) : partLo part keep k ≤ k := by
  unfold partLo
  have h1 := Int.mul_ediv_self_le (x := (k : Int)) (k := part) (by omega)
  have h2 : part * ((k : Int) / part + 1 - keep) = part * ((k : Int) / part) - part * (keep - 1) := by
    rw [show (k : Int) / part + 1 - keep = (k : Int) / part - (keep - 1) by omega, Int.mul_sub]
  have h3 : 0 ≤ part * (keep - 1) := Int.mul_nonneg (by omega) (by omega)
  omega
theorem baseOf_spec {x : Nat → Int} {part keep : Int} (hp : 1 ≤ part) (hk : 1 ≤ keep) (k : Nat) : BestIn ltB x (partLo part keep k) k (baseOf x part keep k) := bestTo_spec ord_lt x _ k (partLo_le hp hk k)
theorem base_wide {x : Nat → Int} {part keep : Int} (hp : 1 ≤ part) (hk : 1 ≤ keep) (k : Nat) : winOf ltB x (part * keep) k ≤ baseOf x part keep k := by
  have hpk : 1 ≤ part * keep := by
    have := Int.mul_le_mul hp hk (by omega) (by omega)
    omega
  refine best_le (baseOf_spec hp hk k) (winOf_spec ord_lt x hpk k) fun i h1 h2 => ⟨?_, h2⟩
  unfold partLo at h1
  have h3 := Int.emod_lt_of_pos (k : Int) (show 0 < part by omega)
  have h4 := Int.mul_ediv_add_emod (k : Int) part
  rw [show (k : Int) / part + 1 - keep = (k : Int) / part - (keep - 1) by omega, Int.mul_sub, Int.mul_sub] at h1
  omega
theorem base_narrow {x : Nat → Int} {part keep : Int} (hp : 1 ≤ part) (hk : 1 ≤ keep) (k : Nat) : baseOf x part keep k ≤ winOf ltB x (part * (keep - 1) + 1) k := by
  have hpk : 0 ≤ part * (keep - 1) := Int.mul_nonneg (by omega) (by omega)
  refine best_le (winOf_spec ord_lt x (by omega) k) (baseOf_spec hp hk k) fun i h1 h2 => ⟨?_, h2⟩
  unfold partLo
  have h3 := Int.mul_ediv_self_le (x := (k : Int)) (k := part) (by omega)
  rw [show (k : Int) / part + 1 - keep = (k : Int) / part - (keep - 1) by omega, Int.mul_sub]
  omega
end Go.Tide
