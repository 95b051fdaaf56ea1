/- steady.each: all steps from all states. Conditions: none. -/
import Derived.Test.YtgmljgcmfooniaaGreatDoorStBody
set_option linter.unusedVariables false
set_option linter.unusedSimpArgs false
namespace Go.Proofs.YtgmljgcmfooniaaGreatDoor
open Go.RowKit Go.Shelf Go.Tide
set_option linter.unusedVariables false
set_option linter.unusedSimpArgs false
attribute [local go_sem] Oper.semAt_some
theorem spc_empty {B S M J : Nat} {W : World} (hb : Blk W S 121 #[.map (some M), .slice none 0 0, .slice none 0 0, .slice none 0 0]) (hm : SMap W M []) (hne : S ≠ M) (h1 : B ≤ S) (h2 : B ≤ M) (h3 : B ≤ W.heap.size) : Spc B W S M (.slice none 0 0) (.slice none 0 0) (.slice none 0 0) ⟨[], []⟩ J :=
  ⟨hb, hm, World.ownsRow_nil _ _ _ _, World.ownsRow_nil _ _ _ _, World.ownsRow_nil _ _ _ _, fun _ h => by (cases h), fun _ h => by (cases h), fun _ h => by (cases h), ⟨by simp [Value.ownBlock], by simp [Value.ownBlock], by simp [Value.ownBlock]⟩, ⟨by simp [Value.ownBlock], by simp [Value.ownBlock], by simp [Value.ownBlock]⟩, hne, ⟨h1, h2, h3⟩,
    Off.refl _ _, ⟨.inl rfl, .inr (.inl rfl)⟩, fun _ h => by (cases h), fun _ h => by (cases h), fun _ h => by (cases h)⟩
/-- What stands at the head of the loop over the states. -/
structure OI (T : List Edge → (Nat → Prop) → World → Prop) (X0 : Nat → Prop) (w : World) (r : DRules) (J M S b8 tf : Nat) (tb : Array Value) (W : World) (k kb : Nat) (Q : Fnd DSt × List Edge) (v1 v2 v3 : Value) (X : Nat → Prop) (Ds : List Nat) : Prop where
  run : pRun (dNx r J) ((J + 1) * (J + 1)) 300 (dBegin r) (dRow r) (k * ((J + 1) * (J + 1))) = some Q
  kl : k ≤ Q.1.l.length
  es : ES T X0 w r J M S M [kb, w.heap.size, w.heap.size + 1, w.heap.size + 2, w.heap.size + 3, b8] W Q v1 v2 v3 X
  bx : Box5 r tf tb w.heap.size (w.heap.size + 1) (w.heap.size + 2) (w.heap.size + 3) b8 S W
  kv : Blk W kb 3 #[.int .i64 k]
  kn : w.heap.size + 3 < kb ∧ kb ≠ b8
  mks : ∀ D ∈ Ds, W.heap[D]? = some (.deferred (some []))
  nd : Ds.Nodup
  mge : ∀ D ∈ Ds, w.heap.size ≤ D
section
variable {T : List Edge → (Nat → Prop) → World → Prop} {X0 : Nat → Prop} {w : World} {r : DRules} {J M S b8 tf : Nat} {tb : Array Value} {k kb BI : Nat} {Qk : Fnd DSt × List Edge} {Ds : List Nat} {b6 : Nat}
theorem ein_own (hT : Tell tf tb T) (B0 : Nat) (hlo : w.heap.size + 3 < B0 ∧ M < B0 ∧ b8 < B0 ∧ kb < B0 ∧ BI < B0) (hD : ∀ D ∈ Ds, D < B0) : OwnFrom B0 (EIn T X0 w r J M S b8 tf tb k kb BI Qk Ds) := by
  intro pre A A' row hs hg hr
  obtain ⟨Q, v1, v2, v3, X, hQ, hE, hB, hk, hi, hm⟩ := hs
  have hoff : Off (fun g => row = some g) A A' := Off.of_grown hg (fun g e _ => e)
  have hne : ∀ b, b < B0 → ¬ row = some b := fun b hb e => by have := (hr b e).1; omega
  exact ⟨Q, v1, v2, v3, X, hQ, hE.keep hT hoff (fun g _ e => ⟨by have := (hr g e).1; omega, by have := (hr g e).1; omega, (hr g e).2⟩), hB.keep hoff (hne _ (by omega)) (hne _ (by omega)) (hne _ (by omega)) (hne _ (by omega)) (hne _ (by omega)), hk.off hoff (hne _ (by omega)), hi.off hoff (hne _ (by omega)),
    fun D hd => (hoff.block D (Array.getElem?_eq_some_iff.1 (hm D hd)).1 (hne _ (hD D hd))).trans (hm D hd)⟩
theorem ein_below (hT : Tell tf tb T) {pre : List (Fin ((J + 1) * (J + 1)))} {A A' : World} (hs : EIn T X0 w r J M S b8 tf tb k kb BI Qk Ds pre A) (hb : Below A.heap.size A A') : EIn T X0 w r J M S b8 tf tb k kb BI Qk Ds pre A' := by
  obtain ⟨Q, v1, v2, v3, X, hQ, hE, hB, hk, hi, hm⟩ := hs
  exact ⟨Q, v1, v2, v3, X, hQ, hE.below hT hb, hB.below hb, hk.below hb hk.lt, hi.below hb hi.lt, fun D hd => (hb.block D (Array.getElem?_eq_some_iff.1 (hm D hd)).1).trans (hm D hd)⟩
theorem EIn.lt {pre : List (Fin ((J + 1) * (J + 1)))} {A : World} (hs : EIn T X0 w r J M S b8 tf tb k kb BI Qk Ds pre A) : BI < A.heap.size := by
  obtain ⟨Q, v1, v2, v3, X, hQ, hE, hB, hk, hi, hm⟩ := hs
  exact hi.lt
theorem eix_own (B0 : Nat) (hlo : w.heap.size + 3 < B0 ∧ M < B0 ∧ b8 < B0 ∧ kb < B0 ∧ BI < B0) (hD : ∀ D ∈ Ds, D < B0) (c : Code) : OwnFrom B0 (EIx T X0 w r J M S b8 tf tb k kb BI Qk Ds c) := by
  intro pre A A' row hs hg hr
  obtain ⟨hc, hQ, ho, h4, h5, hm⟩ := hs
  have hoff : Off (fun g => row = some g) A A' := Off.of_grown hg (fun g e _ => e)
  have hne : ∀ b, b < B0 → ¬ row = some b := fun b hb e => by have := (hr b e).1; omega
  exact ⟨hc, hQ, ⟨hoff.os.trans ho.os, hoff.tape.trans ho.tape, hoff.output.trans ho.output, Nat.le_trans ho.size hoff.size, fun g hlt hx => (hoff.block g (Nat.lt_of_lt_of_le hlt ho.size) (hne _ (by omega))).trans (ho.block g hlt hx)⟩, h4.off hoff (hne _ (by omega)), h5.off hoff (hne _ (by omega)),
    fun D hd => (hoff.block D (Array.getElem?_eq_some_iff.1 (hm D hd)).1 (hne _ (hD D hd))).trans (hm D hd)⟩
theorem mark_blk {W : World} {b : Nat} {t : TypeId} {cs : Array Value} (h : Blk W b t cs) (hd : W.heap[b]? = some (.deferred (some []))) : False := by
  unfold Blk at h
  rw [hd] at h
  cases h
theorem eax_own (B0 : Nat) (x : Fin ((J + 1) * (J + 1))) (a : Act) : OwnFrom B0 (fun (_ : Unit) W => EAx w r J b6 b8 tf tb kb x a W) := by
  intro _ A A' row hs hg hr
  obtain ⟨u11, u12, u13, u14, u15, u16, u17, u18, u19, u20, u21, u22, u23, u24, u25, u26, u27, u28, u29, u30, u31, u32, u33, u34, u35, u36, u37, u38, u39, u40, u41, u42, u43, u44, u45, u46, u47, u48, u49, u50, u51, u52, u53, u54, u55, u56, u57, u58, u59, u60, u61, u62, u63, u64, u65, u66, u67, u68, u69, u70, u71, u72, u73, u74, u75, u76, LB, ha, hL⟩ := hs
  refine ⟨u11, u12, u13, u14, u15, u16, u17, u18, u19, u20, u21, u22, u23, u24, u25, u26, u27, u28, u29, u30, u31, u32, u33, u34, u35, u36, u37, u38, u39, u40, u41, u42, u43, u44, u45, u46, u47, u48, u49, u50, u51, u52, u53, u54, u55, u56, u57, u58, u59, u60, u61, u62, u63, u64, u65, u66, u67, u68, u69, u70, u71, u72, u73, u74, u75, u76, LB, ha, hL.grown hg (fun e => ?_)⟩
  obtain ⟨_, o, ho, hc⟩ := hr LB e.symm
  unfold Blk at hL
  rw [hL] at ho
  cases ho
  cases hc
theorem ES.offbox {w0 W W' : World} {B : Nat} {bx : List Nat} {Q : Fnd DSt × List Edge} {v1 v2 v3 : Value} {X Y : Nat → Prop} (hT : Tell tf tb T) (h : ES T X0 w0 r J B S M bx W Q v1 v2 v3 X) (k : Off Y W W') (hy : ∀ g, Y g → g ∈ bx ∧ w0.heap.size ≤ g) : ES T X0 w0 r J B S M bx W' Q v1 v2 v3 X :=
  ⟨h.spc.keep k (fun g hg hyg => (h.sx g hg).2 (hy g hyg).1), hT.keep _ _ _ _ h.told (k.mono fun g _ hg hx => h.xb g hx (hy g hg).1), h.gi, h.sx, h.xb, h.xf, fun g hg => Nat.lt_of_lt_of_le (h.bb g hg) k.size, h.wB,
    ⟨k.os.trans h.off.os, k.tape.trans h.off.tape, k.output.trans h.off.output, Nat.le_trans h.off.size k.size, fun g hg hx => (k.block g (Nat.lt_of_lt_of_le hg h.off.size) (fun hyg => by have := (hy g hyg).2; omega)).trans (h.off.block g hg hx)⟩⟩
theorem m_pos (J : Nat) : 0 < ((J + 1) * (J + 1)) := Nat.mul_pos (Nat.succ_pos J) (Nat.succ_pos J)
theorem run_next {Q Q2 : Fnd DSt × List Edge} (h : pRun (dNx r J) ((J + 1) * (J + 1)) 300 (dBegin r) (dRow r) (k * ((J + 1) * (J + 1))) = some Q) (h2 : pMany (dNx r J) 300 (dRow r) k (List.range (((J + 1) * (J + 1)))) Q = some Q2) : pRun (dNx r J) ((J + 1) * (J + 1)) 300 (dBegin r) (dRow r) ((k + 1) * ((J + 1) * (J + 1))) = some Q2 := by
  rw [show (k + 1) * (((J + 1) * (J + 1))) = k * (((J + 1) * (J + 1))) + ((J + 1) * (J + 1)) from Nat.succ_mul _ _, prun_many (m_pos J) k _ (Nat.le_refl _), h]
  exact h2
theorem full_none {Q : Fnd DSt × List Edge} {j : Nat} (h : pRun (dNx r J) ((J + 1) * (J + 1)) 300 (dBegin r) (dRow r) (k * ((J + 1) * (J + 1))) = some Q) (h2 : pMany (dNx r J) 300 (dRow r) k (List.range j) Q = none) (hj : j ≤ ((J + 1) * (J + 1))) (hk : k < 300) : fRun (dNx r J) ((J + 1) * (J + 1)) 300 (dBegin r) (300 * ((J + 1) * (J + 1))) = none := by
  have h1 : pRun (dNx r J) ((J + 1) * (J + 1)) 300 (dBegin r) (dRow r) (k * ((J + 1) * (J + 1)) + j) = none := by rw [prun_many (m_pos J) k _ hj, h]; exact h2
  have h3 : (k + 1) * ((J + 1) * (J + 1)) ≤ 300 * ((J + 1) * (J + 1)) := Nat.mul_le_mul_right _ (by omega)
  rw [show (k + 1) * (((J + 1) * (J + 1))) = k * (((J + 1) * (J + 1))) + ((J + 1) * (J + 1)) from Nat.succ_mul _ _] at h3
  have h4 := frun_none (prun_none h1) (300 * ((J + 1) * (J + 1)) - (k * ((J + 1) * (J + 1)) + j))
  rw [show k * ((J + 1) * (J + 1)) + j + (300 * ((J + 1) * (J + 1)) - (k * ((J + 1) * (J + 1)) + j)) = 300 * ((J + 1) * (J + 1)) by omega] at h4
  exact h4
end
theorem each_zero {tf : Nat} {tb : Array Value} {T : List Edge → (Nat → Prop) → World → Prop} {X0 : Nat → Prop} {w W : World} {r : DRules} {J B S M : Nat} {bx : List Nat} (hT : Tell tf tb T) (hs : Spc B W S M (.slice none 0 0) (.slice none 0 0) (.slice none 0 0) ⟨[], []⟩ J) (h0 : T [] X0 w) (hb : Below w.heap.size w W) (hx : ∀ g, X0 g → g < w.heap.size)
    (hbx : ∀ g ∈ bx, g ≠ S ∧ g ≠ M) (hB : w.heap.size ≤ B) (hlt : ∀ g ∈ bx, g < W.heap.size) (hge : ∀ g ∈ bx, w.heap.size ≤ g) : ES T X0 w r J B S M bx W (⟨[], []⟩, []) (.slice none 0 0) (.slice none 0 0) (.slice none 0 0) X0 := by
  have hS := hs.sB
  have hown : ∀ g, SOwn S M (.slice none 0 0) (.slice none 0 0) (.slice none 0 0) g → g = S ∨ g = M := fun g hg => by
    rcases hg with e | e | e | e | e
    · exact .inl e
    · exact .inr e
    · cases e
    · cases e
    · cases e
  refine ⟨hs, hT.keep _ _ _ _ h0 (Off.of_below hb), ⟨rfl, Nat.zero_le _, fun x hx => by cases hx⟩, fun g hg => ⟨fun hxg => ?_, fun hm => ?_⟩, fun g hg hm => ?_, fun g hg => .inl hg, hlt, hB, Off.of_below hb⟩
  · have := hx g hxg
    rcases hown g hg with rfl | rfl <;> omega
  · have := hbx g hm
    rcases hown g hg with rfl | rfl
    · exact this.1 rfl
    · exact this.2 rfl
  · have := hx g hg
    have := hge g hm
    omega
set_option maxRecDepth 20000 in
set_option maxHeartbeats 4000000 in
theorem each_any (r : DRules) (J : Nat) (hJ : Hid (r.jit = J)) (hr : r.ok) (tf : Nat) (tb : Array Value) (T : List Edge → (Nat → Prop) → World → Prop) (hT : Tell tf tb T) (X0 : Nat → Prop) (w : World) (h0 : T [] X0 w) :
    Calls Tryz.prog 61 #[.agg #[.int .i64 r.k0, .int .i64 r.k1, .int .i64 r.rate, .int .i64 r.buf, .int .i64 r.jit], .func (.func tf) #[] tb] w (EachPost T X0 w r J) := by
  have HR := Lib.hid hr
  have hmm := @run_makeMap Tryz.prog
  have HT := Lib.hid hT
  have HX0 : Hid (∀ g, X0 g → g < w.heap.size) := fun g hg => by obtain ⟨o, ho, _⟩ := hT.cells _ _ _ g h0 hg; exact (Array.getElem?_eq_some_iff.1 ho).1
  clear hr hT
  refine (callsIn_wide (n := 6)).1 ?_
  refine callsIn_of_wp_marks Tryz.func61 rfl trivial ?_ rfl
  simp only [Tryz.ntmps61, List.size_toArray, List.length_cons, List.length_nil, Nat.reduceAdd, Nat.reduceSub, Array.replicate_succ, Array.replicate_zero, List.push_toArray, List.append_toArray, List.nil_append, List.cons_append]
  refine wpIn_wide.2 ?_
  go_wp2_with fail
  refine (start_ok r.k0 r.k1 r.rate r.buf r.jit _ HR.out.1 HR.out.2.1 HR.out.2.2).mono ?_
  rintro e w1 ⟨rfl, os1, d1, rfl⟩
  go_wp2_with fail
  have hbel : Below w.heap.size w (((((((((w.alloc (.cells #[.int .i64 r.k0, .int .i64 r.k1, .int .i64 r.rate, .int .i64 r.buf, .int .i64 r.jit] 32)).alloc (.cells #[.func (.func tf) #[] tb] 117)).alloc (.cells #[.pointer none] 114)).alloc (.cells #[.int .i64 0] 24)).more os1 d1).alloc (.cells #[.int .i64 r.k0, .int .i64 1, .int .i64 (-1), .int .i64 0, .int .i64 0, .int .i64 0, .int .i64 r.k1, .int .i64 1, .int .i64 (-1), .int .i64 0, .int .i64 0, .int .i64 0, .int .i64 0, .int .i64 0] 44)).alloc (.map #[] 0)).alloc (.cells #[.map (some (w.heap.size + (4 + (os1.size + 1)))), .slice none 0 0, .slice none 0 0, .slice none 0 0] 121)).alloc (.cells #[.pointer (some ⟨w.heap.size + (4 + (os1.size + 2)), 0, none⟩)] 114)) := (((More.below (w := w) (w' := ((((((w.alloc (.cells #[.int .i64 r.k0, .int .i64 r.k1, .int .i64 r.rate, .int .i64 r.buf, .int .i64 r.jit] 32)).alloc (.cells #[.func (.func tf) #[] tb] 117)).alloc (.cells #[.pointer none] 114)).alloc (.cells #[.int .i64 0] 24)).more os1 d1).alloc (.cells #[.int .i64 r.k0, .int .i64 1, .int .i64 (-1), .int .i64 0, .int .i64 0, .int .i64 0, .int .i64 r.k1, .int .i64 1, .int .i64 (-1), .int .i64 0, .int .i64 0, .int .i64 0, .int .i64 0, .int .i64 0] 44))) (by repeat (first | (with_reducible assumption) | (with_reducible exact More.refl _) | (with_reducible refine More.alloc ?_ _) | (with_reducible refine More.more ?_ _ _) | (with_reducible refine More.drewN ?_ _) | (with_reducible refine More.drew ?_)))).alloc (by simp; omega) _).alloc (by simp; omega) _).alloc (by simp; omega) _
  have hM0 : ((((((w.alloc (.cells #[.int .i64 r.k0, .int .i64 r.k1, .int .i64 r.rate, .int .i64 r.buf, .int .i64 r.jit] 32)).alloc (.cells #[.func (.func tf) #[] tb] 117)).alloc (.cells #[.pointer none] 114)).alloc (.cells #[.int .i64 0] 24)).more os1 d1).alloc (.cells #[.int .i64 r.k0, .int .i64 1, .int .i64 (-1), .int .i64 0, .int .i64 0, .int .i64 0, .int .i64 r.k1, .int .i64 1, .int .i64 (-1), .int .i64 0, .int .i64 0, .int .i64 0, .int .i64 0, .int .i64 0] 44)).heap.size = w.heap.size + (4 + (os1.size + 1)) := by simp; omega
  have hmap : SMap (((((((((w.alloc (.cells #[.int .i64 r.k0, .int .i64 r.k1, .int .i64 r.rate, .int .i64 r.buf, .int .i64 r.jit] 32)).alloc (.cells #[.func (.func tf) #[] tb] 117)).alloc (.cells #[.pointer none] 114)).alloc (.cells #[.int .i64 0] 24)).more os1 d1).alloc (.cells #[.int .i64 r.k0, .int .i64 1, .int .i64 (-1), .int .i64 0, .int .i64 0, .int .i64 0, .int .i64 r.k1, .int .i64 1, .int .i64 (-1), .int .i64 0, .int .i64 0, .int .i64 0, .int .i64 0, .int .i64 0] 44)).alloc (.map #[] 0)).alloc (.cells #[.map (some (w.heap.size + (4 + (os1.size + 1)))), .slice none 0 0, .slice none 0 0, .slice none 0 0] 121)).alloc (.cells #[.pointer (some ⟨w.heap.size + (4 + (os1.size + 2)), 0, none⟩)] 114)) (w.heap.size + (4 + (os1.size + 1))) [] := by
    have h := SMap.made ((((((w.alloc (.cells #[.int .i64 r.k0, .int .i64 r.k1, .int .i64 r.rate, .int .i64 r.buf, .int .i64 r.jit] 32)).alloc (.cells #[.func (.func tf) #[] tb] 117)).alloc (.cells #[.pointer none] 114)).alloc (.cells #[.int .i64 0] 24)).more os1 d1).alloc (.cells #[.int .i64 r.k0, .int .i64 1, .int .i64 (-1), .int .i64 0, .int .i64 0, .int .i64 0, .int .i64 r.k1, .int .i64 1, .int .i64 (-1), .int .i64 0, .int .i64 0, .int .i64 0, .int .i64 0, .int .i64 0] 44))
    rw [hM0] at h
    exact (h.alloc _).alloc _
  have hblk : Blk (((((((((w.alloc (.cells #[.int .i64 r.k0, .int .i64 r.k1, .int .i64 r.rate, .int .i64 r.buf, .int .i64 r.jit] 32)).alloc (.cells #[.func (.func tf) #[] tb] 117)).alloc (.cells #[.pointer none] 114)).alloc (.cells #[.int .i64 0] 24)).more os1 d1).alloc (.cells #[.int .i64 r.k0, .int .i64 1, .int .i64 (-1), .int .i64 0, .int .i64 0, .int .i64 0, .int .i64 r.k1, .int .i64 1, .int .i64 (-1), .int .i64 0, .int .i64 0, .int .i64 0, .int .i64 0, .int .i64 0] 44)).alloc (.map #[] 0)).alloc (.cells #[.map (some (w.heap.size + (4 + (os1.size + 1)))), .slice none 0 0, .slice none 0 0, .slice none 0 0] 121)).alloc (.cells #[.pointer (some ⟨w.heap.size + (4 + (os1.size + 2)), 0, none⟩)] 114)) (w.heap.size + (4 + (os1.size + 2))) 121 #[.map (some (w.heap.size + (4 + (os1.size + 1)))), .slice none 0 0, .slice none 0 0, .slice none 0 0] := (by repeat (first | (with_reducible assumption) | ((with_reducible refine Blk.new' ?_); (simp [Nat.add_assoc]; done)) | (with_reducible refine Blk.alloc ?_ _) | (with_reducible refine Blk.more ?_ _ _) | (with_reducible refine Blk.drew ?_) | (with_reducible refine Blk.drewN ?_ _)))
  have hbox : Box5 r tf tb w.heap.size (w.heap.size + 1) (w.heap.size + 2) (w.heap.size + 3) (w.heap.size + (4 + (os1.size + 3))) (w.heap.size + (4 + (os1.size + 2))) (((((((((w.alloc (.cells #[.int .i64 r.k0, .int .i64 r.k1, .int .i64 r.rate, .int .i64 r.buf, .int .i64 r.jit] 32)).alloc (.cells #[.func (.func tf) #[] tb] 117)).alloc (.cells #[.pointer none] 114)).alloc (.cells #[.int .i64 0] 24)).more os1 d1).alloc (.cells #[.int .i64 r.k0, .int .i64 1, .int .i64 (-1), .int .i64 0, .int .i64 0, .int .i64 0, .int .i64 r.k1, .int .i64 1, .int .i64 (-1), .int .i64 0, .int .i64 0, .int .i64 0, .int .i64 0, .int .i64 0] 44)).alloc (.map #[] 0)).alloc (.cells #[.map (some (w.heap.size + (4 + (os1.size + 1)))), .slice none 0 0, .slice none 0 0, .slice none 0 0] 121)).alloc (.cells #[.pointer (some ⟨w.heap.size + (4 + (os1.size + 2)), 0, none⟩)] 114)) := ⟨(by repeat (first | (with_reducible assumption) | ((with_reducible refine Blk.new' ?_); (simp [Nat.add_assoc]; done)) | (with_reducible refine Blk.alloc ?_ _) | (with_reducible refine Blk.more ?_ _ _) | (with_reducible refine Blk.drew ?_) | (with_reducible refine Blk.drewN ?_ _))), (by repeat (first | (with_reducible assumption) | ((with_reducible refine Blk.new' ?_); (simp [Nat.add_assoc]; done)) | (with_reducible refine Blk.alloc ?_ _) | (with_reducible refine Blk.more ?_ _ _) | (with_reducible refine Blk.drew ?_) | (with_reducible refine Blk.drewN ?_ _))), (by repeat (first | (with_reducible assumption) | ((with_reducible refine Blk.new' ?_); (simp [Nat.add_assoc]; done)) | (with_reducible refine Blk.alloc ?_ _) | (with_reducible refine Blk.more ?_ _ _) | (with_reducible refine Blk.drew ?_) | (with_reducible refine Blk.drewN ?_ _))), (by repeat (first | (with_reducible assumption) | ((with_reducible refine Blk.new' ?_); (simp [Nat.add_assoc]; done)) | (with_reducible refine Blk.alloc ?_ _) | (with_reducible refine Blk.more ?_ _ _) | (with_reducible refine Blk.drew ?_) | (with_reducible refine Blk.drewN ?_ _))), (by repeat (first | (with_reducible assumption) | ((with_reducible refine Blk.new' ?_); (simp [Nat.add_assoc]; done)) | (with_reducible refine Blk.alloc ?_ _) | (with_reducible refine Blk.more ?_ _ _) | (with_reducible refine Blk.drew ?_) | (with_reducible refine Blk.drewN ?_ _)))⟩
  have hord : Hid (w.heap.size + 3 < w.heap.size + (4 + (os1.size + 1)) ∧ w.heap.size + (4 + (os1.size + 1)) < w.heap.size + (4 + (os1.size + 2)) ∧ w.heap.size + (4 + (os1.size + 2)) < w.heap.size + (4 + (os1.size + 3)) ∧ w.heap.size + (4 + (os1.size + 3)) < (((((((((w.alloc (.cells #[.int .i64 r.k0, .int .i64 r.k1, .int .i64 r.rate, .int .i64 r.buf, .int .i64 r.jit] 32)).alloc (.cells #[.func (.func tf) #[] tb] 117)).alloc (.cells #[.pointer none] 114)).alloc (.cells #[.int .i64 0] 24)).more os1 d1).alloc (.cells #[.int .i64 r.k0, .int .i64 1, .int .i64 (-1), .int .i64 0, .int .i64 0, .int .i64 0, .int .i64 r.k1, .int .i64 1, .int .i64 (-1), .int .i64 0, .int .i64 0, .int .i64 0, .int .i64 0, .int .i64 0] 44)).alloc (.map #[] 0)).alloc (.cells #[.map (some (w.heap.size + (4 + (os1.size + 1)))), .slice none 0 0, .slice none 0 0, .slice none 0 0] 121)).alloc (.cells #[.pointer (some ⟨w.heap.size + (4 + (os1.size + 2)), 0, none⟩)] 114)).heap.size) := ⟨by omega, by omega, by omega, by simp; omega⟩
  clear hM0
  generalize (((((((((w.alloc (.cells #[.int .i64 r.k0, .int .i64 r.k1, .int .i64 r.rate, .int .i64 r.buf, .int .i64 r.jit] 32)).alloc (.cells #[.func (.func tf) #[] tb] 117)).alloc (.cells #[.pointer none] 114)).alloc (.cells #[.int .i64 0] 24)).more os1 d1).alloc (.cells #[.int .i64 r.k0, .int .i64 1, .int .i64 (-1), .int .i64 0, .int .i64 0, .int .i64 0, .int .i64 r.k1, .int .i64 1, .int .i64 (-1), .int .i64 0, .int .i64 0, .int .i64 0, .int .i64 0, .int .i64 0] 44)).alloc (.map #[] 0)).alloc (.cells #[.map (some (w.heap.size + (4 + (os1.size + 1)))), .slice none 0 0, .slice none 0 0, .slice none 0 0] 121)).alloc (.cells #[.pointer (some ⟨w.heap.size + (4 + (os1.size + 2)), 0, none⟩)] 114)) = wf at *
  generalize w.heap.size + (4 + (os1.size + 1)) = M at *
  generalize w.heap.size + (4 + (os1.size + 2)) = S at *
  generalize w.heap.size + (4 + (os1.size + 3)) = b8 at *
  generalize w.heap.size + (4 + os1.size) = b6 at *
  obtain ⟨o1, o2, o3, o4⟩ := hord.out
  have hsp : Spc M wf S M (.slice none 0 0) (.slice none 0 0) (.slice none 0 0) ⟨[], []⟩ J := spc_empty hblk hmap (by omega) (by omega) (Nat.le_refl _) (by omega)
  have HE0 : Hid (ES T X0 w r J M S M [w.heap.size, w.heap.size + 1, w.heap.size + 2, w.heap.size + 3, b8] wf (⟨[], []⟩, []) (.slice none 0 0) (.slice none 0 0) (.slice none 0 0) X0) := each_zero HT.out hsp h0 hbel HX0.out (fun g hg => by simp at hg; omega) (by omega) (fun g hg => by simp at hg; omega) (fun g hg => by simp at hg; omega)
  have HBX := Lib.hid hbox
  have HMM : Hid (∀ g, g = S ∨ g = M → g ∉ [w.heap.size, w.heap.size + 1, w.heap.size + 2, w.heap.size + 3, b8]) := fun g hg hm => by simp at hm; omega
  clear hblk hmap hbel hbox hord
  refine (find_new M S M J (.slice none 0 0) (.slice none 0 0) (.slice none 0 0) ⟨[], []⟩ (dBegin r) (-1) 0 0 wf hsp (DSt.inI_of HR.out (begin_ok HR.out)) (by simp) (by simp) rfl (fun _ h => by cases h) 0 (by simp) (by simp)).mono ?_
  rintro e w3 ⟨rfl, v1, v2, v3, hs3, ho3, hf3⟩
  have HE1 : Hid (ES T X0 w r J M S M [w.heap.size, w.heap.size + 1, w.heap.size + 2, w.heap.size + 3, b8] w3 (⟨[dBegin r], [(-1, 0)]⟩, []) v1 v2 v3 X0) := HE0.out.found HT.out hs3 ho3 hf3 (gi_begin HR.out)
  have HB1 : Hid (Box5 r tf tb w.heap.size (w.heap.size + 1) (w.heap.size + 2) (w.heap.size + 3) b8 S w3) := HBX.out.keep ho3 (fun h => (HE0.out.sx _ h).2 (by simp)) (fun h => (HE0.out.sx _ h).2 (by simp)) (fun h => (HE0.out.sx _ h).2 (by simp)) (fun h => (HE0.out.sx _ h).2 (by simp)) (fun h => (HE0.out.sx _ h).2 (by simp))
  clear hsp hs3 ho3 hf3 HE0 HBX
  go_wp2_with fail
  have hO1 : Hid (OI T X0 w r J M S b8 tf tb (w3.alloc (.cells #[.int .i64 0] 3)) 0 w3.heap.size (⟨[dBegin r], [(-1, 0)]⟩, []) v1 v2 v3 X0 []) :=
    have hlt := HE1.out.bb b8 (by simp)
    ⟨by rw [Nat.zero_mul]; rfl, by simp, HE1.out.box HT.out _, HB1.out.below ((Below.refl _ _).alloc (Nat.le_refl _) _), Blk.new _ _ _, ⟨by omega, by omega⟩, fun D hD => by (cases hD), List.nodup_nil, fun D hD => by (cases hD)⟩
  have hord2 : Hid (w.heap.size + 3 < M ∧ M < S ∧ S < b8) := ⟨o1, o2, o3⟩
  clear HE1 HB1 o1 o2 o3 o4
  generalize w3.alloc (.cells #[.int .i64 0] 3) = w4 at *
  generalize w3.heap.size = kb0 at *
  refine wp_loop_ghost_k (fun n a W => ∃ (u10 u11 u12 u13 u14 u15 u16 u17 u18 u19 u20 u21 u22 u23 u24 u25 u26 u27 u28 u29 u30 u31 u32 u33 u34 u35 u36 u37 u38 u39 u40 u41 u42 u43 u44 u45 u46 u47 u48 u49 u50 u51 u52 u53 u54 u55 u56 u57 u58 u59 u60 u61 u62 u63 u64 u65 u66 u67 u68 u69 u70 u71 u72 u73 u74 u75 u76 : Value) (k kb : Nat) (Q : Fnd DSt × List Edge) (y1 y2 y3 : Value) (X : Nat → Prop) (Ds : List Nat), a = { tmps := #[.agg #[.int .i64 r.k0, .int .i64 r.k1, .int .i64 r.rate, .int .i64 r.buf, .int .i64 r.jit], .func (.func tf) #[] tb, (.pointer (some ⟨w.heap.size, 0, none⟩)), (.pointer (some ⟨w.heap.size + 1, 0, none⟩)), (.pointer (some ⟨w.heap.size + 2, 0, none⟩)), (.pointer (some ⟨w.heap.size + 3, 0, none⟩)), (.pointer (some ⟨b6, 0, none⟩)), .int .i64 0, (.pointer (some ⟨b8, 0, none⟩)), (.pointer (some ⟨kb, 0, none⟩)), u10, u11, u12, u13, u14, u15, u16, u17, u18, u19, u20, u21, u22, u23, u24, u25, u26, u27, u28, u29, u30, u31, u32, u33, u34, u35, u36, u37, u38, u39, u40, u41, u42, u43, u44, u45, u46, u47, u48, u49, u50, u51, u52, u53, u54, u55, u56, u57, u58, u59, u60, u61, u62, u63, u64, u65, u66, u67, u68, u69, u70, u71, u72, u73, u74, u75, u76], defers := marks Ds } ∧ n = 300 - k ∧ Hid (OI T X0 w r J M S b8 tf tb W k kb Q y1 y2 y3 X Ds)) 300 ?start ?round
  case start => exact ⟨_, _, _, _, _, _, _, _, _, _, _, _, _, _, _, _, _, _, _, _, _, _, _, _, _, _, _, _, _, _, _, _, _, _, _, _, _, _, _, _, _, _, _, _, _, _, _, _, _, _, _, _, _, _, _, _, _, _, _, _, _, _, _, _, _, _, _, 0, kb0, _, v1, v2, v3, X0, [], rfl, rfl, hO1⟩
  case round =>
    clear hO1
    rintro n a W ⟨u10, u11, u12, u13, u14, u15, u16, u17, u18, u19, u20, u21, u22, u23, u24, u25, u26, u27, u28, u29, u30, u31, u32, u33, u34, u35, u36, u37, u38, u39, u40, u41, u42, u43, u44, u45, u46, u47, u48, u49, u50, u51, u52, u53, u54, u55, u56, u57, u58, u59, u60, u61, u62, u63, u64, u65, u66, u67, u68, u69, u70, u71, u72, u73, u74, u75, u76, k, kb, Q, y1, y2, y3, X, Ds, rfl, hn, hO⟩ JJ KK hJJ hKK
    obtain ⟨q1, q2, hy1, hq2⟩ := own_sliceC hO.out.es.spc.r1
    have c1 : W.cell? ⟨kb, 0, none⟩ = some (.int .i64 k) := hO.out.kv.cell 0
    have c2 : W.cell? ⟨b8, 0, none⟩ = some (.pointer (some ⟨S, 0, none⟩)) := hO.out.bx.x8.cell 0
    have c3 : W.cell? ⟨S, 1, none⟩ = some (.slice q1 Q.1.l.length q2) := by rw [← hy1]; exact hO.out.es.spc.blk.cell 1
    have HY1 := Lib.hid hy1
    clear hy1
    have HNN := Lib.hid hn
    clear hn
    by_cases hlt : k < Q.1.l.length
    · have t1 : decide (k < Q.1.l.length) = true := by simpa using hlt
      go_wp2_with fail
      go_quiet (fail)
      have e0 : W.cell? ⟨w.heap.size, 0, none⟩ = some (.int .i64 r.k0) := hO.out.bx.x2.cell 0
      have e1 : W.cell? ⟨w.heap.size, 1, none⟩ = some (.int .i64 r.k1) := hO.out.bx.x2.cell 1
      have e2 : W.cell? ⟨w.heap.size, 2, none⟩ = some (.int .i64 r.rate) := hO.out.bx.x2.cell 2
      have e3 : W.cell? ⟨w.heap.size, 3, none⟩ = some (.int .i64 r.buf) := hO.out.bx.x2.cell 3
      have e4 : W.cell? ⟨w.heap.size, 4, none⟩ = some (.int .i64 r.jit) := hO.out.bx.x2.cell 4
      go_wp2_with fail
      refine (draws_any r.k0 r.k1 r.rate r.buf r.jit _).mono ?_
      rintro e W1 ⟨rfl, rfl⟩
      go_wp2_with fail
      have hWLs : ((W.alloc (.cells #[.int .i64 r.k0, .int .i64 r.k1, .int .i64 r.rate, .int .i64 r.buf, .int .i64 r.jit] 32)).drewN nq).heap.size = W.heap.size + 1 := by simp
      have hbW : Below W.heap.size W ((W.alloc (.cells #[.int .i64 r.k0, .int .i64 r.k1, .int .i64 r.rate, .int .i64 r.buf, .int .i64 r.jit] 32)).drewN nq) := ((Below.refl _ _).alloc (Nat.le_refl _) _).drewN nq
      have HEL : Hid (ES T X0 w r J M S M (W.heap.size :: [kb, w.heap.size, w.heap.size + 1, w.heap.size + 2, w.heap.size + 3, b8]) ((W.alloc (.cells #[.int .i64 r.k0, .int .i64 r.k1, .int .i64 r.rate, .int .i64 r.buf, .int .i64 r.jit] 32)).drewN nq) Q y1 y2 y3 X) := (hO.out.es.box HT.out _).below HT.out ((Below.refl _ _).drewN nq)
      have HBL := Lib.hid (hO.out.bx.below hbW)
      have HKL := Lib.hid (hO.out.kv.below hbW hO.out.kv.lt)
      have HIL : Hid (Blk ((W.alloc (.cells #[.int .i64 r.k0, .int .i64 r.k1, .int .i64 r.rate, .int .i64 r.buf, .int .i64 r.jit] 32)).drewN nq) W.heap.size 32 #[.int .i64 r.k0, .int .i64 r.k1, .int .i64 r.rate, .int .i64 r.buf, .int .i64 r.jit]) := (Blk.new W 32 #[.int .i64 r.k0, .int .i64 r.k1, .int .i64 r.rate, .int .i64 r.buf, .int .i64 r.jit]).drewN nq
      have HDL : Hid (∀ D ∈ Ds, ((W.alloc (.cells #[.int .i64 r.k0, .int .i64 r.k1, .int .i64 r.rate, .int .i64 r.buf, .int .i64 r.jit] 32)).drewN nq).heap[D]? = some (.deferred (some []))) := fun D hD => (hbW.block D (Array.getElem?_eq_some_iff.1 (hO.out.mks D hD)).1).trans (hO.out.mks D hD)
      have HDlt : Hid (∀ D ∈ Ds, D < W.heap.size) := fun D hD => (Array.getElem?_eq_some_iff.1 (hO.out.mks D hD)).1
      have HLO : Hid (w.heap.size + 3 < W.heap.size ∧ M < W.heap.size ∧ b8 < W.heap.size ∧ kb < W.heap.size) := ⟨hO.out.bx.x5.lt, hO.out.es.spc.map.lt, hO.out.bx.x8.lt, hO.out.kv.lt⟩
      clear c1 c2 c3 e0 e1 e2 e3 e4 t1 hbW
      generalize (W.alloc (.cells #[.int .i64 r.k0, .int .i64 r.k1, .int .i64 r.rate, .int .i64 r.buf, .int .i64 r.jit] 32)).drewN nq = wl at *
      obtain ⟨BI, hBI⟩ : ∃ BI, Hid (W.heap.size = BI) := ⟨_, rfl⟩
      rw [hBI.out] at HEL HIL HDlt HLO hWLs ⊢
      have hJ3 : J ≤ 3 := by have h1 := hJ.out; have h2 := HR.out.2.2; obtain ⟨n1, n2, n3, n4, n5, n6⟩ := h2; omega
      have HK : Hid (k < Q.1.l.length ∧ GI r Q.1 ∧ Q.2.length = k * ((J + 1) * (J + 1)) ∧ J ≤ 3) := ⟨hlt, hO.out.es.gi, (prun_told (by have := Nat.mul_pos (Nat.succ_pos J) (Nat.succ_pos J); exact this) (by omega) _ _ hO.out.run (Nat.mul_le_mul_right _ (by omega))).1, hJ3⟩
      have hBIb : Blk wl BI 32 #[.int .i64 r.k0, .int .i64 r.k1, .int .i64 r.rate, .int .i64 r.buf, .int .i64 J] := by rw [← hJ.out]; exact HIL.out
      refine (wpIn_wide (n := 6)).1 ?_
      refine wpIn_rangeFunc_ownH rfl (by omega) (gf := 124) (lb := #[.pointer (some ⟨BI, 0, none⟩)]) rfl trivial (enters_of Tryz.func124 (by kernel_rfl) rfl)
        (draws_stops 5 (by omega) BI r.k0 r.k1 r.rate r.buf J hJ3 wl hBIb) (fun h k => DKeeps.trans h k) (fun W' l' o o' hl _ _ _ => World.putObj_heap_other (by have := hBIb.lt; omega)) (Below.refl _ _) (fun _ => rfl)
        (EIn T X0 w r J M S b8 tf tb k kb BI Q Ds) (EIx T X0 w r J M S b8 tf tb k kb BI Q Ds) ?own ?ownx ?zero (EAx w r J b6 b8 tf tb kb) ?ownax ?assign ?body ?done ?stop
      case own => exact ein_own HT.out wl.heap.size (by have := HLO.out; omega) (fun D hD => by have := HDlt.out D hD; omega)
      case ownx => exact fun c => eix_own wl.heap.size (by have := HLO.out; omega) (fun D hD => by have := HDlt.out D hD; omega) c
      case zero => exact ⟨Q, y1, y2, y3, X, rfl, HEL.out, HBL.out, HKL.out, HIL.out, HDL.out⟩
      case ownax => exact fun x a' => eax_own wl.heap.size x a'
      case assign =>
        rintro l pre x W2 K hi hK
        have hiB := hi.lt
        have HI := Lib.hid hi
        clear hi
        unfold drawV
        gi_wp2
        exact hK _ _ ((KeepsOthers.alloc _ _).from _) (Below.heap_alloc W2 _ BI hiB) (ein_below HT.out HI.out ((Below.refl _ _).alloc (Nat.le_refl _) _)) ⟨_, _, _, _, _, _, _, _, _, _, _, _, _, _, _, _, _, _, _, _, _, _, _, _, _, _, _, _, _, _, _, _, _, _, _, _, _, _, _, _, _, _, _, _, _, _, _, _, _, _, _, _, _, _, _, _, _, _, _, _, _, _, _, _, _, _, W2.heap.size, rfl, Blk.new _ _ _⟩
      case body =>
        rintro l pre x a W2 hl _ hi hax hlen
        exact each_body T X0 w r J M S b8 tf tb k kb BI Q Ds b6 wl.heap.size hJ HR HT (show M < wl.heap.size by have := HLO.out; omega) HK l pre x a W2 hi hax hlen
      case done =>
        rintro D xs W2 hD hxs ⟨Q2, z1, z2, z3, X2, hQ2, hE2, hB2, hk2, hi2, hm2⟩ hDD
        rw [hxs] at hQ2
        have hgi := gi_many HR.out hJ.out (List.range (((J + 1) * (J + 1)))) (fun i hi => List.mem_range.1 hi) HK.out.2.1 hQ2 hlt
        have hrun2 := run_next hO.out.run hQ2
        have ck : W2.cell? ⟨kb, 0, none⟩ = some (.int .i64 k) := hk2.cell 0
        have hk300 : k < 300 := by have := HK.out.2.1.le; omega
        have wk : IntKind.i64.wrap ((k : Int) + 1) = (k : Int) + 1 := IntWalk.i64_in _ (by omega)
        have HF : Hid (OI T X0 w r J M S b8 tf tb (W2.alloc (.cells #[.int .i64 ((k : Int) + 1)] 3)) (k + 1) W2.heap.size Q2 z1 z2 z3 X2 (D :: Ds)) :=
          have hbl : Below W2.heap.size W2 (W2.alloc (.cells #[.int .i64 ((k : Int) + 1)] 3)) := (Below.refl _ _).alloc (Nat.le_refl _) _
          have h8 := hB2.x8.lt
          have h5 := hB2.x5.lt
          ⟨hrun2, hgi.2.2, (hE2.boxes HT.out [w.heap.size, w.heap.size + 1, w.heap.size + 2, w.heap.size + 3, b8] (fun g hg => hE2.bb g (List.mem_cons_of_mem _ (List.mem_cons_of_mem _ hg))) (fun g hg => .inl (List.mem_cons_of_mem _ (List.mem_cons_of_mem _ hg)))).box HT.out _, hB2.below hbl, by have h := Blk.new W2 3 #[.int .i64 ((k : Int) + 1)]; exact h, ⟨by omega, by omega⟩,
            fun E hE => (List.mem_cons.1 hE).elim (fun e => by rw [e]; exact (hbl.block D (Array.getElem?_eq_some_iff.1 hDD).1).trans hDD) (fun e => (hbl.block E (Array.getElem?_eq_some_iff.1 (hm2 E e)).1).trans (hm2 E e)),
            List.nodup_cons.2 ⟨fun e => by have := HDlt.out D e; omega, hO.out.nd⟩, fun E hE => (List.mem_cons.1 hE).elim (fun e => by rw [e]; have := HLO.out; omega) (hO.out.mge E)⟩
        clear hE2 hB2 hk2 hi2 hm2 hDD hrun2 hQ2
        go_wp2_with fail
        refine Handed.intro (300 - (k + 1)) (by have := HNN.out; omega) (hJJ _ _ _ ?_)
        exact ⟨_, _, _, _, _, _, _, _, _, _, _, _, _, _, _, _, _, _, _, _, _, _, _, _, _, _, _, _, _, _, _, _, _, _, _, _, _, _, _, _, _, _, _, _, _, _, _, _, _, _, _, _, _, _, _, _, _, _, _, _, _, _, _, _, _, _, _, k + 1, W2.heap.size, Q2, z1, z2, z3, X2, D :: Ds, rfl, rfl, HF⟩
      case stop =>
        rintro D c pre W2 hD ⟨j, hj, hpre⟩ ⟨rfl, hnone, hoff, h4, h5, hmk⟩ hDD
        rw [hpre] at hnone
        have hk300 : k < 300 := by have := HK.out.2.1.le; omega
        have HFN := Lib.hid (full_none hO.out.run hnone hj hk300)
        have HM2 : Hid (∀ E ∈ D :: Ds, W2.heap[E]? = some (.deferred (some []))) := fun E hE => (List.mem_cons.1 hE).elim (fun e => by rw [e]; exact hDD) (hmk E)
        have HND : Hid ((D :: Ds).Nodup) := List.nodup_cons.2 ⟨fun e => by have := HDlt.out D e; omega, hO.out.nd⟩
        have HGE : Hid (∀ E ∈ D :: Ds, w.heap.size ≤ E) := fun E hE => (List.mem_cons.1 hE).elim (fun e => by rw [e]; have := HLO.out; omega) (hO.out.mge E)
        have H4 := Lib.hid h4
        have H5 := Lib.hid h5
        have HOF := Lib.hid hoff
        clear hnone hoff h4 h5 hmk hDD
        refine wpIn_wide.2 ?_
        go_wp2
        refine leaves_marks (D :: Ds) W2 HND.out HM2.out fun W' hW' hs' => ?_
        have x4 := (H4.out.off hW' (fun h => mark_blk H4.out (HM2.out _ h))).cell 0
        have x5 := (H5.out.off hW' (fun h => mark_blk H5.out (HM2.out _ h))).cell 0
        simp at x4 x5
        refine ⟨.tuple #[.pointer none, .int .i64 4], ?_, .inr ⟨HFN.out, rfl, ?_⟩⟩
        · simp [results, Tryz.f61, go_sem, x4, x5]
        · exact ⟨hW'.os.trans HOF.out.os, hW'.tape.trans HOF.out.tape, hW'.output.trans HOF.out.output, Nat.le_trans HOF.out.size hW'.size, fun g hg hx => (hW'.block g (Nat.lt_of_lt_of_le hg HOF.out.size) (fun h => by have := HGE.out g h; omega)).trans (HOF.out.block g hg hx)⟩
    · have t1 : decide (k < Q.1.l.length) = false := by simpa using hlt
      have hke : Q.1.l.length = k := by have := hO.out.kl; omega
      have HKE := Lib.hid hke
      clear hke
      have c4 : W.cell? ⟨w.heap.size + 2, 0, none⟩ = some (.pointer none) := hO.out.bx.x4.cell 0
      have c5 : W.cell? ⟨w.heap.size + 3, 0, none⟩ = some (.int .i64 0) := hO.out.bx.x5.cell 0
      have g4 : W.frozen? ⟨w.heap.size + 2, 0, none⟩ = false := hO.out.bx.x4.frozen 0
      have g5 : W.frozen? ⟨w.heap.size + 3, 0, none⟩ = false := hO.out.bx.x5.frozen 0
      have l4 := hO.out.bx.x4.lt
      have l5 := hO.out.bx.x5.lt
      go_wp2_with fail
      go_quiet (fail)
      go_wp2
      have hoff : Off (fun g => g = w.heap.size + 2 ∨ g = w.heap.size + 3) W (((W.setCell ⟨w.heap.size + 2, 0, none⟩ (.pointer (some ⟨S, 0, none⟩))).setCell ⟨w.heap.size + 3, 0, none⟩ (.int .i64 0)).drewN nq) := (((Off.refl _ W).setCell (p := ⟨w.heap.size + 2, 0, none⟩) (fun _ => .inl rfl) _).setCell (p := ⟨w.heap.size + 3, 0, none⟩) (fun _ => .inr rfl) _).drewN nq
      have HE := Lib.hid (hO.out.es.offbox HT.out hoff (fun g hg => by rcases hg with rfl | rfl <;> exact ⟨by simp, by omega⟩))
      have HM2 : Hid (∀ D ∈ Ds, (((W.setCell ⟨w.heap.size + 2, 0, none⟩ (.pointer (some ⟨S, 0, none⟩))).setCell ⟨w.heap.size + 3, 0, none⟩ (.int .i64 0)).drewN nq).heap[D]? = some (.deferred (some []))) := fun D hD =>
        (hoff.block D (Array.getElem?_eq_some_iff.1 (hO.out.mks D hD)).1 (fun e => by rcases e with rfl | rfl; exact mark_blk hO.out.bx.x4 (hO.out.mks _ hD); exact mark_blk hO.out.bx.x5 (hO.out.mks _ hD))).trans (hO.out.mks D hD)
      have H4 : Hid (Blk (((W.setCell ⟨w.heap.size + 2, 0, none⟩ (.pointer (some ⟨S, 0, none⟩))).setCell ⟨w.heap.size + 3, 0, none⟩ (.int .i64 0)).drewN nq) (w.heap.size + 2) 114 #[.pointer (some ⟨S, 0, none⟩)]) := by
        have hh := ((hO.out.bx.x4.put 0 (.pointer (some ⟨S, 0, none⟩))).far (p := ⟨w.heap.size + 3, 0, none⟩) (by simp only [ne_eq]; omega) (.int .i64 0)).drewN nq
        simp only [List.setIfInBounds_toArray, List.set_cons_zero] at hh
        exact hh
      have H5 : Hid (Blk (((W.setCell ⟨w.heap.size + 2, 0, none⟩ (.pointer (some ⟨S, 0, none⟩))).setCell ⟨w.heap.size + 3, 0, none⟩ (.int .i64 0)).drewN nq) (w.heap.size + 3) 24 #[.int .i64 0]) := by
        have hh := ((hO.out.bx.x5.far (p := ⟨w.heap.size + 2, 0, none⟩) (by simp only [ne_eq]; omega) (.pointer (some ⟨S, 0, none⟩))).put 0 (.int .i64 0)).drewN nq
        simp only [List.setIfInBounds_toArray, List.set_cons_zero] at hh
        exact hh
      generalize (((W.setCell ⟨w.heap.size + 2, 0, none⟩ (.pointer (some ⟨S, 0, none⟩))).setCell ⟨w.heap.size + 3, 0, none⟩ (.int .i64 0)).drewN nq) = WF at *
      refine leaves_marks Ds WF hO.out.nd HM2.out fun W' hW' hs' => ?_
      have x4 := (H4.out.off hW' (fun h => mark_blk H4.out (HM2.out _ h))).cell 0
      have x5 := (H5.out.off hW' (fun h => mark_blk H5.out (HM2.out _ h))).cell 0
      simp at x4 x5
      have HE2 := Lib.hid (HE.out.keep HT.out hW' (fun g hg hm => ⟨hO.out.mge g hm, fun e => mark_own HE.out.spc (.inr (.inl e)) (HM2.out g hm), _, HM2.out g hm, rfl⟩))
      refine ⟨.tuple #[.pointer (some ⟨S, 0, none⟩), .int .i64 0], ?_, .inl ⟨Q, k, S, M, y1, y2, y3, X, hO.out.run, HKE.out, rfl, HE2.out.boxes HT.out [] (fun _ h => by cases h) (fun _ h => by cases h)⟩⟩
      simp [results, Tryz.f61, go_sem, x4, x5]
end Go.Proofs.YtgmljgcmfooniaaGreatDoor
