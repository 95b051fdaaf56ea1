/- The deque's old; slide, Min and Max of package window: the best of the last. Conditions: lengths within the form's reach. -/
import Derived.Test.YtmlkebemkibipaaWin
set_option linter.unusedVariables false
set_option linter.unusedSimpArgs false
namespace Go.Proofs.Ytmlkebemkibipaa
open Go.RowKit Go.Tide
set_option linter.unusedVariables false
set_option linter.unusedSimpArgs false

/-- Behind old; and at each round's head of its loop. -/
def Olded (w : World) (D base : Nat) (F : Nat) (x : Nat → Int) (thr : Int) (I : List Nat) (A : Nat → Prop) (m : Nat) (w' : World) : Prop :=
  m < I.length ∧ (∀ j i, j < m → I[j]? = some i → (i : Int) < thr) ∧ (∃ v1 v2, Deq w' D base F x (I.drop m) A v1 v2) ∧ Turned w w' (fun g => g = D)
def OldEnd (w : World) (D base : Nat) (F : Nat) (x : Nat → Int) (thr : Int) (I : List Nat) (A : Nat → Prop) (e : Ending) (w' : World) : Prop :=
  e = .returned (.tuple #[]) ∧ ∃ m, (∀ i : Nat, I[m]? = some i → thr ≤ i) ∧ Olded w D base F x thr I A m w'

theorem olded_end {w wr W : World} {D base : Nat} {F : Nat} {x : Nat → Int} {thr : Int} {I : List Nat} {A : Nat → Prop} {m i q g1 o1 c1 g2 o2 c2 : Nat}
    (hD : D < base) (d : Deq wr D base F x (I.drop m) A (.slice (some ⟨g1, o1, none⟩) (q + 1) (c1 + 1)) (.slice (some ⟨g2, o2, none⟩) (q + 1) (c2 + 1))) (hl : (I.drop m).length = q + 1)
    (ht : Turned w W (fun g => g = D)) (hW : W.heap = wr.heap) (hd : ∀ j i, j < m → I[j]? = some i → (i : Int) < thr) (hi : I[m]? = some i) (hx : (i : Int) < thr) (hm : m + 1 < I.length) :
    Olded w D base F x thr I A (m + 1) ((W.setCell ⟨D, 0, none⟩ (.slice (some ⟨g1, o1 + 1, none⟩) q c1)).setCell ⟨D, 1, none⟩ (.slice (some ⟨g2, o2 + 1, none⟩) q c2)) := by
  have hlm : (I.drop (m + 1)).length = q := by rw [List.length_drop] at *; omega
  have e1 := d.own1
  have e2 := d.own2
  rw [hl] at e1 e2
  have same : ∀ {v : Value} {n : Nat} {xs : List Value}, wr.ownsAt base 3 v n xs → W.ownsAt base 3 v n xs := fun h => h.same fun g _ => by rw [hW]
  have f1 : W.ownsAt base 3 (.slice (some ⟨g1, o1 + 1, none⟩) q c1) q (intsOf (I.drop (m + 1))) := by
    have := (same e1).tail
    rwa [intsOf, ← List.map_drop, List.drop_drop] at this
  have f2 : W.ownsAt base 3 (.slice (some ⟨g2, o2 + 1, none⟩) q c2) q (valsOf x (I.drop (m + 1))) := by
    have := (same e2).tail
    rwa [valsOf, ← List.map_drop, List.drop_drop] at this
  have hblk : Blk W D 61 #[.slice (some ⟨g1, o1, none⟩) (q + 1) (c1 + 1), .slice (some ⟨g2, o2, none⟩) (q + 1) (c2 + 1), .func (.func F) #[] #[]] := by
    have := d.blk
    unfold Blk at this ⊢
    rwa [hW]
  refine ⟨hm, fun j k hj hk => ?_, ⟨_, _, ⟨(hblk.put 0 _).put 1 _, ?_, ?_, d.apart, d.in1, d.in2⟩⟩, (ht.set rfl _).set rfl _⟩
  · by_cases hjm : j = m
    · subst hjm
      rw [hi] at hk
      cases hk
      exact hx
    · exact hd j k (by omega) hk
  · rw [hlm]
    exact (f1.set _ hD).set _ hD
  · rw [hlm]
    exact (f2.set _ hD).set _ hD

set_option maxHeartbeats 2000000 in
theorem old_any (F : Nat) (D base : Nat) (x : Nat → Int) (thr : Int) (I : List Nat) (A : Nat → Prop) (w : World) (v1 v2 : Value)
    (hd : Deq w D base F x I A v1 v2) (hDb : D < base) (hlen : I.length ≤ 17592186044400) (hex : ∃ (j i : Nat), I[j]? = some i ∧ thr ≤ (i : Int)) :
    Calls Try.prog 44 #[.pointer (some ⟨D, 0, none⟩), .int .i64 thr] w (OldEnd w D base F x thr I A) := by
  obtain ⟨jx, ix, hj0, hix⟩ := hex
  have hjl : jx < I.length := (List.getElem?_eq_some_iff.1 hj0).1
  have HJ := Lib.hid hj0
  clear hj0
  have hP0 : Olded w D base F x thr I A 0 w := ⟨by omega, fun j i hj => absurd hj (by omega), ⟨v1, v2, hd⟩, Turned.refl _ _⟩
  clear hd
  go_enter Try.func44, Try.ntmps44
  go_wp2
  go_loopg [] I.length (fun gk wr => ∃ m, gk + m = I.length ∧ Olded w D base F x thr I A m wr)
  case atStart => exact ⟨0, rfl, hP0⟩
  case round =>
    clear hP0
    obtain ⟨m, hgm, hmI, hlow0, ⟨v1, v2, hdq⟩, htw⟩ := hrel
    have hlow := Lib.hid hlow0
    clear hlow0
    obtain ⟨i, hi0⟩ : ∃ i, I[m]? = some i := ⟨I[m], List.getElem?_eq_getElem hmI⟩
    obtain ⟨q, hlt⟩ : ∃ q, (I.drop m).length = q + 1 := ⟨(I.drop m).length - 1, by rw [List.length_drop]; omega⟩
    have hql : q + 1 + m = I.length := by rw [List.length_drop] at hlt; omega
    have hown1 := hdq.own1
    have hown2 := hdq.own2
    rw [hlt] at hown1 hown2
    obtain ⟨g1, o1, c1, rfl, hc1, hc1', hg1b, hg1l, hcell1⟩ := hown1.form (by omega)
    obtain ⟨g2, o2, c2, rfl, hc2, hc2', hg2b, hg2l, hcell2⟩ := hown2.form (by omega)
    have hx1 : wr.cell? ⟨g1, o1, none⟩ = some (.int .i64 (i : Int)) := hcell1 0 _ (by
      simp only [intsOf, List.getElem?_map, List.getElem?_drop, Nat.add_zero]
      rw [hi0]
      rfl)
    clear hcell1 hcell2
    have HI := Lib.hid hi0
    have HL := Lib.hid hlt
    have hd0 := hdq.blk.cell 0
    have hd1 := hdq.blk.cell 1
    have hf0 := hdq.blk.frozen 0
    have hf1 := hdq.blk.frozen 1
    simp at hd0 hd1
    have htD := htw.drew
    have HHD := Lib.hid hdq
    clear hdq hlt hi0
    by_cases hb : (i : Int) < thr
    · have hq1 : m + 1 < I.length := by
        have hjm : m < jx := by
          rcases Nat.lt_trichotomy jx m with h | h | h
          · have := hlow.out jx ix h HJ.out; omega
          · subst h
            have := HI.out
            rw [HJ.out] at this
            cases this
            omega
          · exact h
        omega
      obtain ⟨d1, rfl⟩ : ∃ d1, c1 = d1 + 1 := ⟨c1 - 1, by omega⟩
      obtain ⟨d2, rfl⟩ : ∃ d2, c2 = d2 + 1 := ⟨c2 - 1, by omega⟩
      have hd10 : 0 < d1 := by omega
      have hd20 : 0 < d2 := by omega
      have kb : decide ((i : Int) < thr) = true := by simpa using hb
      have k1 : (1 : Int) ≤ (q : Int) + 1 := by omega
      have k2 : (q : Int) + 1 ≤ (d1 : Int) + 1 := by omega
      have k3 : (q : Int) + 1 ≤ (d2 : Int) + 1 := by omega
      go_wp2_with fail
      refine wp_region_two (S := (fun w' => w'.cell? ⟨D, 0, none⟩ = some (.slice (some ⟨g1, o1, none⟩) (q + 1) (d1 + 1)) ∧ w'.cell? ⟨D, 1, none⟩ = some (.slice (some ⟨g2, o2, none⟩) (q + 1) (d2 + 1)))) 14 (by kernel_rfl) ?_ (fun hHeld => ?_)
      · exact ⟨hd0, hd1⟩
      refine two_pure (i := 1) (v := ?_) rfl (by kernel_rfl) (by kernel_rfl) (fun _ _ _ h => h) (Or.inl ⟨by rfl, ?_⟩) (by assumption) ?_
      rotate_left 1
      · intro w'
        go_simp
        try (with_reducible rfl)
      try simp only [List.getElem_toArray, List.getElem_cons_zero, List.getElem_cons_succ, Act.put, List.setIfInBounds_toArray, List.set_cons_zero, List.set_cons_succ]
      refine two_take (i := 0) (v := ?_) rfl (by kernel_rfl) (by kernel_rfl) (fun _ _ _ h => h) (Or.inl ⟨by rfl, ?_⟩) (by assumption) ?_
      rotate_left 1
      · intro w' hSw
        have hl0 := hSw.1
        have hl1 := hSw.2
        go_simp
        try (with_reducible rfl)
      try simp only [List.getElem_toArray, List.getElem_cons_zero, List.getElem_cons_succ, Act.put, List.setIfInBounds_toArray, List.set_cons_zero, List.set_cons_succ]
      refine two_take (i := 2) (v := ?_) rfl (by kernel_rfl) (by kernel_rfl) (fun _ _ _ h => h) (Or.inl ⟨by rfl, ?_⟩) (by assumption) ?_
      rotate_left 1
      · intro w' hSw
        have hl0 := hSw.1
        have hl1 := hSw.2
        go_simp
        try (with_reducible rfl)
      try simp only [List.getElem_toArray, List.getElem_cons_zero, List.getElem_cons_succ, Act.put, List.setIfInBounds_toArray, List.set_cons_zero, List.set_cons_succ]
      refine two_take (i := 3) (v := ?_) rfl (by kernel_rfl) (by kernel_rfl) (fun _ _ _ h => h) (Or.inl ⟨by rfl, ?_⟩) (by assumption) ?_
      rotate_left 1
      · intro w' hSw
        have hl0 := hSw.1
        have hl1 := hSw.2
        go_simp
        try (with_reducible rfl)
      try simp only [List.getElem_toArray, List.getElem_cons_zero, List.getElem_cons_succ, Act.put, List.setIfInBounds_toArray, List.set_cons_zero, List.set_cons_succ]
      refine two_take (i := 4) (v := ?_) rfl (by kernel_rfl) (by kernel_rfl) (fun _ _ _ h => h) (Or.inl ⟨by rfl, ?_⟩) (by assumption) ?_
      rotate_left 1
      · intro w' hSw
        have hl0 := hSw.1
        have hl1 := hSw.2
        go_simp
        try (with_reducible rfl)
      try simp only [List.getElem_toArray, List.getElem_cons_zero, List.getElem_cons_succ, Act.put, List.setIfInBounds_toArray, List.set_cons_zero, List.set_cons_succ]
      refine two_take (i := 5) (v := ?_) rfl (by kernel_rfl) (by kernel_rfl) (fun _ _ _ h => h) (Or.inl ⟨by rfl, ?_⟩) (by assumption) ?_
      rotate_left 1
      · intro w' hSw
        have hl0 := hSw.1
        have hl1 := hSw.2
        go_simp
        try (with_reducible rfl)
      try simp only [List.getElem_toArray, List.getElem_cons_zero, List.getElem_cons_succ, Act.put, List.setIfInBounds_toArray, List.set_cons_zero, List.set_cons_succ]
      refine two_take (i := 6) (v := ?_) rfl (by kernel_rfl) (by kernel_rfl) (fun _ _ _ h => h) (Or.inl ⟨by rfl, ?_⟩) (by assumption) ?_
      rotate_left 1
      · intro w' hSw
        have hl0 := hSw.1
        have hl1 := hSw.2
        go_simp
        try (with_reducible rfl)
      try simp only [List.getElem_toArray, List.getElem_cons_zero, List.getElem_cons_succ, Act.put, List.setIfInBounds_toArray, List.set_cons_zero, List.set_cons_succ]
      refine two_pure (i := 7) (v := ?_) rfl (by kernel_rfl) (by kernel_rfl) (fun _ _ _ h => h) (Or.inl ⟨by rfl, ?_⟩) (by assumption) ?_
      rotate_left 1
      · intro w'
        go_simp
        try (with_reducible rfl)
      try simp only [List.getElem_toArray, List.getElem_cons_zero, List.getElem_cons_succ, Act.put, List.setIfInBounds_toArray, List.set_cons_zero, List.set_cons_succ]
      refine two_pure (i := 8) (v := ?_) rfl (by kernel_rfl) (by kernel_rfl) (fun _ _ _ h => h) (Or.inl ⟨by rfl, ?_⟩) (by assumption) ?_
      rotate_left 1
      · intro w'
        go_simp
        try (with_reducible rfl)
      try simp only [List.getElem_toArray, List.getElem_cons_zero, List.getElem_cons_succ, Act.put, List.setIfInBounds_toArray, List.set_cons_zero, List.set_cons_succ]
      refine two_pure (i := 9) (v := ?_) rfl (by kernel_rfl) (by kernel_rfl) (fun _ _ _ h => h) (Or.inl ⟨by rfl, ?_⟩) (by assumption) ?_
      rotate_left 1
      · intro w'
        go_simp
        try (with_reducible rfl)
      try simp only [List.getElem_toArray, List.getElem_cons_zero, List.getElem_cons_succ, Act.put, List.setIfInBounds_toArray, List.set_cons_zero, List.set_cons_succ]
      refine two_take (i := 10) (v := ?_) rfl (by kernel_rfl) (by kernel_rfl) (fun _ _ _ h => h) (Or.inl ⟨by rfl, ?_⟩) (by assumption) ?_
      rotate_left 1
      · intro w' hSw
        have hl0 := hSw.1
        have hl1 := hSw.2
        go_simp
        try (with_reducible rfl)
      try simp only [List.getElem_toArray, List.getElem_cons_zero, List.getElem_cons_succ, Act.put, List.setIfInBounds_toArray, List.set_cons_zero, List.set_cons_succ]
      refine two_pure (i := 11) (v := ?_) rfl (by kernel_rfl) (by kernel_rfl) (fun _ _ _ h => h) (Or.inl ⟨by rfl, ?_⟩) (by assumption) ?_
      rotate_left 1
      · intro w'
        go_simp
        try (with_reducible rfl)
      try simp only [List.getElem_toArray, List.getElem_cons_zero, List.getElem_cons_succ, Act.put, List.setIfInBounds_toArray, List.set_cons_zero, List.set_cons_succ]
      refine two_take (i := 12) (v := ?_) rfl (by kernel_rfl) (by kernel_rfl) (fun _ _ _ h => h) (Or.inl ⟨by rfl, ?_⟩) (by assumption) ?_
      rotate_left 1
      · intro w' hSw
        have hl0 := hSw.1
        have hl1 := hSw.2
        go_simp
        try (with_reducible rfl)
      try simp only [List.getElem_toArray, List.getElem_cons_zero, List.getElem_cons_succ, Act.put, List.setIfInBounds_toArray, List.set_cons_zero, List.set_cons_succ]
      refine two_take (i := 13) (v := ?_) rfl (by kernel_rfl) (by kernel_rfl) (fun _ _ _ h => h) (Or.inl ⟨by rfl, ?_⟩) (by assumption) ?_
      rotate_left 1
      · intro w' hSw
        have hl0 := hSw.1
        have hl1 := hSw.2
        go_simp
        try (with_reducible rfl)
      try simp only [List.getElem_toArray, List.getElem_cons_zero, List.getElem_cons_succ, Act.put, List.setIfInBounds_toArray, List.set_cons_zero, List.set_cons_succ]
      refine two_ready (rs := [14]) (by kernel_rfl) (by kernel_rfl) (by simp) ?_
      refine AllReadyB.last rfl (fun K hK => ?_)
      go_simp
      refine hK.out _ _ ?_
      clear hK K
      try simp only [List.getElem_toArray, List.getElem_cons_zero, List.getElem_cons_succ, Act.put, List.setIfInBounds_toArray, List.set_cons_zero, List.set_cons_succ]
      refine two_late (by kernel_rfl) ?_
      refine wpAny_take (i := 15) (v := ?_) rfl (by kernel_rfl) (by kernel_rfl) (by kernel_rfl) (fun _ _ _ h => h) (Or.inl ⟨by rfl, ?_⟩) ?_
      rotate_left 1
      · intro w'
        go_simp
        try (with_reducible rfl)
      try simp only [List.getElem_toArray, List.getElem_cons_zero, List.getElem_cons_succ, Act.put, List.setIfInBounds_toArray, List.set_cons_zero, List.set_cons_succ]
      refine wpAny_take (i := 16) (v := ?_) rfl (by kernel_rfl) (by kernel_rfl) (by kernel_rfl) (fun _ _ _ h => h) (Or.inl ⟨by rfl, ?_⟩) ?_
      rotate_left 1
      · intro w'
        go_simp
        try (with_reducible rfl)
      try simp only [List.getElem_toArray, List.getElem_cons_zero, List.getElem_cons_succ, Act.put, List.setIfInBounds_toArray, List.set_cons_zero, List.set_cons_succ]
      refine wpAny_ready (rs := [17]) (by kernel_rfl) (by simp) ?_
      refine AllReady.cons' rfl (fun K hK => ?_) AllReady.nil
      go_simp
      refine hK.out _ _ ?_
      clear hK K
      try simp only [List.getElem_toArray, List.getElem_cons_zero, List.getElem_cons_succ, Act.put, List.setIfInBounds_toArray, List.set_cons_zero, List.set_cons_succ]
      refine wpAny_done (by kernel_rfl) ?_ _
      go_wp2_with fail
      go_roundg (gk - 1)
      case measure => omega
      case rel => exact ⟨m + 1, by omega, olded_end hDb HHD.out HL.out htD rfl hlow.out HI.out hb hq1⟩
    · have kb : decide ((i : Int) < thr) = false := by simpa using hb
      have hb' : thr ≤ (i : Int) := by omega
      have HE : OldEnd w D base F x thr I A (.returned (.tuple #[])) wr := ⟨rfl, m, fun j hj => by rw [HI.out] at hj; cases hj; exact hb', hmI, hlow.out, ⟨_, _, HHD.out⟩, htw⟩
      have HEh := Lib.hid HE
      clear HE hb
      go_wp2
      go_end0
      exact HEh.out

theorem wpList_append_at {P : Program} {ops : Array Oper} {rest : List Oper} {o : Oper} {a : Act} {w : World} {Q : Exit → Act → World → Prop} (hgd : o.guard = none) (s x : Operand) (t : TypeId)
    (ho : o.op = .call { callee := .builtin .append, args := #[s, x], argTypes := #[t, t] })
    (base : Nat) (e : TypeId) (i : TypeInfo) (z : Value) (bytes : Nat) (ht : P.underlying t = some (.slice e)) (hi : P.info? e = some i) (hz : i.zero = some z)
    (hsize : i.size = 1) (hby : i.bytes = bytes) (hzs : z.cells.size = 1)
    (v : Value) (n : Nat) (xs : List Value) (hs : a.eval s = v) (hown : w.ownsAt base e v n xs)
    (ad : Addr) (c : Nat) (y : Value) (hx : a.eval x = .slice (some ad) 1 c) (hy : w.cell? ad = some y) (h1 : y.oneCell' = true)
    (h63 : n + 1 ≤ maxLen) (hbytes : (n + 1) * bytes ≤ 140737488355328) (hbase : base ≤ w.heap.size)
    (h : ∀ g off cap w', w'.ownsAt base e (.slice (some ⟨g, off, none⟩) (n + 1) cap) (n + 1) (xs ++ [y]) → w.grownBy w' v.ownBlock → (v.ownBlock = some g ∨ g = w.heap.size) → g < w'.heap.size → wpList P ops Q rest (a.put o.dst (.slice (some ⟨g, off, none⟩) (n + 1) cap)) w') : wpList P ops Q (o :: rest) a w :=
  wpList_plain hgd fun _ hK => wp_append_at w s x t ho base e i z bytes ht hi hz hsize hby hzs v n xs hs hown ad c y hx hy h1 h63 hbytes hbase fun g off cap w' h2 h3 h4 h5 => hK _ _ (h g off cap w' h2 h3 h4 h5)

theorem Row.of_at {w : World} {base : Nat} {e : TypeId} {a : Option Addr} {n c : Nat} {f : Nat → Int} (h : w.ownsAt base e (.slice a n c) n (cellsOf n f)) : Row w a n f := by
  intro hn
  obtain ⟨g, off, cap, hv, _, _, _, hlt, hc⟩ := h.form hn
  have hA : a = some ⟨g, off, none⟩ := by injection hv
  subst hA
  exact ⟨g, off, rfl, hlt, fun k hk => hc k _ (cellsOf_get f hk)⟩

/-- What holds at each round's head of slide. -/
def Slid (w : World) (h : Int → Int → Bool) (F : Nat) (x : Nat → Int) (wd : Int) (k : Nat) (out : Value) (wr : World) : Prop :=
  (∃ I v1 v2, DInv h x ((k : Int) - wd) k I ∧ Deq wr w.heap.size (w.heap.size + 1) F x I (fun g => w.heap.size + 1 ≤ g ∧ out.ownBlock ≠ some g) v1 v2) ∧
  wr.ownsAt (w.heap.size + 1) 3 out k (cellsOf k (winOf h x wd)) ∧ Below w.heap.size w wr ∧ w.heap.size < wr.heap.size

theorem dinv_len {h : Int → Int → Bool} {x : Nat → Int} {lo : Int} {n : Nat} {I : List Nat} (d : DInv h x lo n I) : I.length ≤ n := by
  have key : ∀ j (hj : j < I.length), j ≤ I[j] := by
    intro j
    induction j with
    | zero => intro _; exact Nat.zero_le _
    | succ j ih =>
      intro hj
      have h1 := ih (by omega)
      have h2 := (List.pairwise_iff_getElem.1 d.order j (j + 1) (by omega) hj (by omega)).1
      omega
  rcases Nat.eq_zero_or_pos I.length with h0 | h0
  · omega
  · have h1 := key (I.length - 1) (by omega)
    have h2 := (d.low I[I.length - 1] (List.getElem_mem _)).2
    omega

theorem slid_start (w : World) (h : Int → Int → Bool) (F : Nat) (x : Nat → Int) (wd : Int) :
    Slid w h F x wd 0 (.slice none 0 0) (w.alloc (.cells #[.slice none 0 0, .slice none 0 0, .func (.func F) #[] #[]] 61)) :=
  ⟨⟨[], _, _, dinv_nil h x _, ⟨Blk.new _ _ _, ownsAt_nil _ _ _, ownsAt_nil _ _ _, fun g hg => by simp [Value.ownBlock] at hg, fun g hg => by simp [Value.ownBlock] at hg, fun g hg => by simp [Value.ownBlock] at hg⟩⟩,
    ownsAt_nil _ _ _, (Below.refl _ _).alloc (Nat.le_refl _) _, by simp⟩

theorem slid_between {w wr w1 : World} {h : Int → Int → Bool} {x : Nat → Int} {wd : Int} {k m : Nat} {out : Value} {I : List Nat}
    (hown : wr.ownsAt (w.heap.size + 1) 3 out k (cellsOf k (winOf h x wd))) (ht1 : Turned wr w1 (fun g => g = w.heap.size ∨ (w.heap.size + 1 ≤ g ∧ out.ownBlock ≠ some g))) (hm : m ≤ I.length) (hwd : 1 ≤ wd) :
    w1.ownsAt (w.heap.size + 1) 3 out k (cellsOf k (winOf h x wd)) ∧ ∃ (j i : Nat), (I.take m ++ [k])[j]? = some i ∧ (k : Int) - wd + 1 ≤ (i : Int) := by
  refine ⟨ht1.ownsAt hown fun g hg => ?_, m, k, ?_, by omega⟩
  · have := (hown.lt g hg).1
    rintro (h1 | h1)
    · omega
    · exact h1.2 hg
  · rw [List.getElem?_append_right (by rw [List.length_take]; omega), List.length_take, Nat.min_eq_left hm]
    simp

theorem slid_step {w wr w1 w2 w3 : World} {o : Obj} {h : Int → Int → Bool} {F : Nat} {x : Nat → Int} {wd : Int} {k m m2 i0 g off cap : Nat} {out z1 z2 : Value} {I : List Nat} (H : Ord h) (hwd : 1 ≤ wd)
    (hdi : DInv h x ((k : Int) - wd) k I) (hm : m ≤ I.length) (hgood : ∀ i, I[m - 1]? = some i → 0 < m → h (x i) (x k) = true) (hbad : ∀ j i, m ≤ j → I[j]? = some i → h (x i) (x k) = false)
    (hown : wr.ownsAt (w.heap.size + 1) 3 out k (cellsOf k (winOf h x wd))) (ht1 : Turned wr w1 (fun g => g = w.heap.size ∨ (w.heap.size + 1 ≤ g ∧ out.ownBlock ≠ some g)))
    (hd2 : Deq w2 w.heap.size (w.heap.size + 1) F x ((I.take m ++ [k]).drop m2) (fun g => (w.heap.size + 1 ≤ g ∧ out.ownBlock ≠ some g) ∨ wr.heap.size ≤ g) z1 z2)
    (hfirst : ∀ i : Nat, (I.take m ++ [k])[m2]? = some i → (k : Int) - wd + 1 ≤ i) (hlow : ∀ j i, j < m2 → (I.take m ++ [k])[j]? = some i → (i : Int) < (k : Int) - wd + 1) (ht2 : Turned w1 w2 (fun g => g = w.heap.size))
    (hi0 : (I.take m ++ [k])[m2]? = some i0)
    (hown3 : w3.ownsAt (w.heap.size + 1) 3 (.slice (some ⟨g, off, none⟩) (k + 1) cap) (k + 1) (cellsOf k (winOf h x wd) ++ [.int .i64 (x i0)])) (hgrow : (w2.alloc o).grownBy w3 out.ownBlock) (hlie : out.ownBlock = some g ∨ g = (w2.alloc o).heap.size)
    (hbe : Below w.heap.size w wr) (hsz : w.heap.size < wr.heap.size) : Slid w h F x wd (k + 1) (.slice (some ⟨g, off, none⟩) (k + 1) cap) w3 := by
  have dp := hdi.push H (by omega) hm hgood hbad
  have do2 := dp.old (lo' := (k : Int) - wd + 1) (by omega) hlow hfirst
  have s1 := ht1.size
  have s2 := ht2.size
  have hnot : ∀ b, ((w.heap.size + 1 ≤ b ∧ out.ownBlock ≠ some b) ∨ wr.heap.size ≤ b) → out.ownBlock ≠ some b := by
    rintro b (h1 | h1) e
    · exact h1.2 e
    · have := (hown.lt b e).2; omega
  have hoD : out.ownBlock ≠ some w.heap.size := fun e => by have := (hown.lt _ e).1; omega
  have key : ∀ {v : Value} {n : Nat} {xs : List Value}, w2.ownsAt (w.heap.size + 1) 3 v n xs → (∀ b, v.ownBlock = some b → out.ownBlock ≠ some b) → w3.ownsAt (w.heap.size + 1) 3 v n xs := fun {v n xs} hv hn => (hv.alloc o).kept hgrow (by
    rcases hb : v.ownBlock with _ | b
    · exact .inl rfl
    · exact .inr fun e => hn b hb e.symm)
  have hin : ∀ {v : Value} {n : Nat} {xs : List Value}, w2.ownsAt (w.heap.size + 1) 3 v n xs → (∀ b, v.ownBlock = some b → out.ownBlock ≠ some b) → ∀ b, v.ownBlock = some b → w.heap.size + 1 ≤ b ∧ (Value.slice (some ⟨g, off, none⟩) (k + 1) cap).ownBlock ≠ some b   := fun {v n xs} hv hn b hb => ⟨(hv.lt b hb).1, fun e => by
    have e1 : g = b := by simpa [Value.ownBlock] using e
    subst e1
    rcases hlie with h1 | h1
    · exact hn _ hb h1
    · have := (hv.lt _ hb).2
      simp at h1
      omega⟩
  have n1 : ∀ b, z1.ownBlock = some b → out.ownBlock ≠ some b := fun b hb => hnot b (hd2.in1 b hb)
  have n2 : ∀ b, z2.ownBlock = some b → out.ownBlock ≠ some b := fun b hb => hnot b (hd2.in2 b hb)
  have hbest : x i0 = winOf h x wd k := by
    refine winOf_eq H hwd ?_
    have hdrop : (I.take m ++ [k]).drop m2 = i0 :: (I.take m ++ [k]).drop (m2 + 1) := by
      have hl := (List.getElem?_eq_some_iff.1 hi0)
      obtain ⟨hl1, hl2⟩ := hl
      rw [List.drop_eq_getElem_cons hl1, hl2]
    rw [hdrop] at do2
    have := do2.front H
    exact this.lo fun t _ => by omega
  refine ⟨⟨_, z1, z2, ?_, ⟨(hd2.blk.alloc o).grown hgrow (fun e => hoD e.symm), key hd2.own1 n1, key hd2.own2 n2, hd2.apart, hin hd2.own1 n1, hin hd2.own2 n2⟩⟩, ?_, ?_, ?_⟩
  · have e : ((k + 1 : Nat) : Int) - wd = (k : Int) - wd + 1 := by omega
    rw [e]
    exact do2
  · rw [cellsOf_succ, ← hbest]
    exact hown3
  · have t1 : Turned wr w2 (fun g => g = w.heap.size ∨ (w.heap.size + 1 ≤ g ∧ out.ownBlock ≠ some g)) := ht1.trans ht2 fun b hb => .inl (.inl hb)
    have b1 : Below w.heap.size wr w2 := t1.below (by omega) fun b hb => by
      rcases hb with h1 | h1
      · omega
      · omega
    exact ((hbe.trans b1).alloc (by omega) o).grown hgrow (by simp; omega) fun b hb => by
      have := (hown.lt b hb).1
      omega
  · have := hgrow.size
    simp at this
    omega

theorem slide_none (F : Nat) (a : Option Addr) (n c : Nat) (wd : Int) (hw : wd < 1) (w : World) :
    Calls Try.prog 33 #[.slice a n c, .int .i64 wd, .func (.func F) #[] #[]] w fun e w' => e = .returned (.slice none 0 0) ∧ w = w' := by
  go_enter Try.func33, Try.ntmps33
  go_wp2
  go_ret
  exact ⟨rfl, rfl⟩

set_option maxHeartbeats 2000000 in
theorem slide_any (F : Nat) (h : Int → Int → Bool) (H : Ord h) (hF : Better F h) (a : Option Addr) (n c : Nat) (x : Nat → Int) (w : World) (hx : Row w a n x) (hn : n ≤ 17592186044300) (wd : Int) (hw : 1 ≤ wd) (hwb : wd ≤ 9223372036854775807) :
    Calls Try.prog 33 #[.slice a n c, .int .i64 wd, .func (.func F) #[] #[]] w fun e w' => ∃ a' c', e = .returned (.slice a' n c') ∧ n ≤ c' ∧ Row w' a' n (winOf h x wd) ∧ Below w.heap.size w w' := by
  obtain ⟨i0_, hi, hz0, hz1, hz2⟩ := info_parts intInfo
  have hS := slid_start w h F x wd
  go_enter Try.func33, Try.ntmps33
  go_wp2
  go_loopw [8, 18] (fun out i wr => ∃ k : Nat, i = .int .i64 k ∧ k ≤ n ∧ Slid w h F x wd k out wr) (fun _ i _ => n - (intOf i).toNat)
  case atStart => exact ⟨0, rfl, Nat.zero_le _, hS⟩
  case round =>
    clear hS
    obtain ⟨k, rfl, hk, ⟨I, v1, v2, hdi, hdq⟩, hown, hbe, hsz⟩ := hrel
    obtain ⟨ao, co, rfl, hco, hco'⟩ := hown.shape
    by_cases hlt : k < n
    · obtain ⟨b, off, y, rfl, hb, hc0, hy⟩ := (hx.below hbe (Nat.le_refl _)).at_ hlt
      have hIl := dinv_len hdi
      have hc : wr.cell? ⟨b, off + k, none⟩ = some (.int .i64 y) := hc0
      have k0 : (0 : Int) ≤ (k : Int) := by omega
      have k1 : (k : Int) < (n : Int) := by omega
      go_wp2_with fail
      refine (push_any F h hF w.heap.size (w.heap.size + 1) x k y hy I _ _ v1 v2 hdq (by omega) hsz (by omega)).mono ?_
      rintro e w1 ⟨rfl, m, hmI, hgood0, hbad0, ⟨u1, u2, hd1⟩, ht1⟩
      have hgood := Lib.hid hgood0
      have hbad := Lib.hid hbad0
      have HO := Lib.hid hown
      have HDI := Lib.hid hdi
      obtain ⟨hown1, hex⟩ := slid_between hown ht1 hmI hw
      have hl1 : (I.take m ++ [k]).length ≤ 17592186044400 := by rw [List.length_append, List.length_take]; simp; omega
      clear hgood0 hbad0 hdq hown hdi hc hc0
      go_wp2_with fail
      refine (old_any F w.heap.size (w.heap.size + 1) x _ (I.take m ++ [k]) _ _ u1 u2 hd1 (by omega) hl1 hex).mono ?_
      rintro e w2 ⟨rfl, m2, hfirst0, hm2, hlow0, ⟨z1, z2, hd2⟩, ht2⟩
      have hfirst := Lib.hid hfirst0
      have hlow := Lib.hid hlow0
      obtain ⟨i0, hi0⟩ : ∃ i, (I.take m ++ [k])[m2]? = some i := ⟨_, List.getElem?_eq_getElem hm2⟩
      have HI := Lib.hid hi0
      have hown2 : w2.ownsAt (w.heap.size + 1) 3 (.slice ao k co) k (cellsOf k (winOf h x wd)) := ht2.ownsAt hown1 fun g hg e => by have := (hown1.lt g hg).1; omega
      have hs2 : w.heap.size + 1 ≤ w2.heap.size := by have := ht1.size; have := ht2.size; omega
      have HD2 := Lib.hid hd2
      obtain ⟨g2, o2, c2, rfl, hc2, hc2', hg2b, hg2l, hcell2⟩ := hd2.own2.form (by rw [List.length_drop]; omega)
      obtain ⟨xi, hxi⟩ : ∃ xi, Hid (x i0 = xi) := ⟨_, rfl⟩
      have hx2 : w2.cell? ⟨g2, o2, none⟩ = some (.int .i64 xi) := hcell2 0 _ (by
        rw [← hxi.out]
        simp only [valsOf, List.getElem?_map, List.getElem?_drop, Nat.add_zero]
        rw [hi0]
        rfl)
      obtain ⟨q, hq⟩ : ∃ q, ((I.take m ++ [k]).drop m2).length = q + 1 := ⟨_, by rw [List.length_drop]; exact (Nat.sub_add_cancel (by omega : 1 ≤ _)).symm⟩
      have hd01 := hd2.blk.cell 1
      simp only [List.getElem?_toArray, List.getElem?_cons_succ, List.getElem?_cons_zero] at hd01
      rw [hq] at hd01
      have k2 : (0 : Int) < (q : Int) + 1 := by omega
      clear hcell2 hfirst0 hlow0 hi0 hd1 hd2 hown1 hq hex hl1 hc2
      go_wp2_with (at_builtin; refine wpList_append_at rfl (.tmp 33) (.tmp 40) 22 rfl (w.heap.size + 1) 3 i0_ (.int .i64 0) 8 Try.underlying22 hi hz0 hz1 hz2 rfl (.slice ao k co) k (cellsOf k (winOf h x wd)) rfl (hown2.alloc _) _ _ (.int .i64 xi) rfl (Blk.cell (cs := #[.int .i64 xi]) (t := 3) (by repeat (first | (with_reducible assumption) | ((with_reducible refine Blk.new' ?_); (simp [Nat.add_assoc]; done)) | (with_reducible refine Blk.alloc ?_ _) | (with_reducible refine Blk.more ?_ _ _) | (with_reducible refine Blk.drew ?_) | (with_reducible refine Blk.drewN ?_ _))) 0) rfl (by simp only [maxLen]; omega) (by omega) (by simp; omega) ?_; intro g3 o3 c3 w3 hown3 hgrow hlie hlt3)
      go_roundw
      case rel => exact ⟨k + 1, by go_num, by omega, slid_step H hw HDI.out hmI hgood.out hbad.out HO.out ht1 HD2.out hfirst.out hlow.out ht2 HI.out (by rw [hxi.out]; exact hown3) hgrow hlie hbe hsz⟩
      case measure => simp [intOf]; omega
    · obtain rfl : k = n := by omega
      go_wp2
      go_ret
      exact ⟨ao, co, rfl, hco, Row.of_at hown, hbe⟩

theorem lt_better : Better 34 ltB := by
  refine ⟨fun x y w => ?_, fun _ _ _ => rfl⟩
  go_enter Try.func34, Try.ntmps34
  go_wp2
  go_ret
  exact ⟨rfl, rfl⟩
theorem gt_better : Better 35 gtB := by
  refine ⟨fun x y w => ?_, fun _ _ _ => rfl⟩
  go_enter Try.func35, Try.ntmps35
  go_wp2
  go_ret
  exact ⟨rfl, rfl⟩
theorem wmin_any (a : Option Addr) (n c : Nat) (x : Nat → Int) (w : World) (hx : Row w a n x) (hn : n ≤ 17592186044300) (wd : Int) (hw : 1 ≤ wd) (hwb : wd ≤ 9223372036854775807) :
    Calls Try.prog 15 #[.slice a n c, .int .i64 wd] w fun e w' => ∃ a' c', e = .returned (.slice a' n c') ∧ n ≤ c' ∧ Row w' a' n (winOf ltB x wd) ∧ Below w.heap.size w w' := by
  go_enter Try.func15, Try.ntmps15
  go_wp2_with fail
  refine (slide_any _ _ ord_lt lt_better a n c x _ hx hn wd hw hwb).mono ?_
  rintro e w' ⟨a', c', rfl, hc', hr, hb⟩
  go_wp2
  go_ret
  exact ⟨a', c', rfl, hc', hr, hb⟩
theorem wmin_none (a : Option Addr) (n c : Nat) (w : World) (wd : Int) (hw : wd < 1) :
    Calls Try.prog 15 #[.slice a n c, .int .i64 wd] w fun e w' => e = .returned (.slice none 0 0) ∧ w = w' := by
  go_enter Try.func15, Try.ntmps15
  go_wp2_with fail
  refine (slide_none _ a n c wd hw _).mono ?_
  rintro e w' ⟨rfl, rfl⟩
  go_wp2
  go_ret
  exact ⟨rfl, rfl⟩
theorem wmax_any (a : Option Addr) (n c : Nat) (x : Nat → Int) (w : World) (hx : Row w a n x) (hn : n ≤ 17592186044300) (wd : Int) (hw : 1 ≤ wd) (hwb : wd ≤ 9223372036854775807) :
    Calls Try.prog 16 #[.slice a n c, .int .i64 wd] w fun e w' => ∃ a' c', e = .returned (.slice a' n c') ∧ n ≤ c' ∧ Row w' a' n (winOf gtB x wd) ∧ Below w.heap.size w w' := by
  go_enter Try.func16, Try.ntmps16
  go_wp2_with fail
  refine (slide_any _ _ ord_gt gt_better a n c x _ hx hn wd hw hwb).mono ?_
  rintro e w' ⟨a', c', rfl, hc', hr, hb⟩
  go_wp2
  go_ret
  exact ⟨a', c', rfl, hc', hr, hb⟩
theorem wmax_none (a : Option Addr) (n c : Nat) (w : World) (wd : Int) (hw : wd < 1) :
    Calls Try.prog 16 #[.slice a n c, .int .i64 wd] w fun e w' => e = .returned (.slice none 0 0) ∧ w = w' := by
  go_enter Try.func16, Try.ntmps16
  go_wp2_with fail
  refine (slide_none _ a n c wd hw _).mono ?_
  rintro e w' ⟨rfl, rfl⟩
  go_wp2
  go_ret
  exact ⟨rfl, rfl⟩
end Go.Proofs.Ytmlkebemkibipaa
