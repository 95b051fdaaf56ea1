/- A round of steady.each's range over draws. Conditions: none. -/
import Derived.Test.YtgmljgcmfooniaaGreatDoorSq
import Derived.Test.YtgmljgcmfooniaaGreatDoorStEs
import Derived.Deep.LoopGhost
import Derived.Deep.Cut
set_option linter.unusedVariables false
set_option linter.unusedSimpArgs false
namespace Go.Proofs.YtgmljgcmfooniaaGreatDoor
open Go.RowKit Go.Shelf Go.Tide
set_option linter.unusedVariables false
set_option linter.unusedSimpArgs false
attribute [local go_sem] Oper.semAt_some
/-- What each answers: the space, all states found and all steps told; or that there are too many. -/
def EachPost (T : List Edge → (Nat → Prop) → World → Prop) (X0 : Nat → Prop) (w : World) (r : DRules) (J : Nat) (e : Ending) (w' : World) : Prop :=
  (∃ Q k S M v1 v2 v3 X, pRun (dNx r J) ((J + 1) * (J + 1)) 300 (dBegin r) (dRow r) (k * ((J + 1) * (J + 1))) = some Q ∧ Q.1.l.length = k ∧ e = .returned (.tuple #[.pointer (some ⟨S, 0, none⟩), .int .i64 0]) ∧ ES T X0 w r J M S M [] w' Q v1 v2 v3 X) ∨
  (fRun (dNx r J) ((J + 1) * (J + 1)) 300 (dBegin r) (300 * ((J + 1) * (J + 1))) = none ∧ e = .returned (.tuple #[.pointer none, .int .i64 4]) ∧ Off X0 w w')
/-- The boxes. -/
structure Box5 (r : DRules) (tf : Nat) (tb : Array Value) (b2 b3 b4 b5 b8 S : Nat) (W : World) : Prop where
  x2 : Blk W b2 32 #[.int .i64 r.k0, .int .i64 r.k1, .int .i64 r.rate, .int .i64 r.buf, .int .i64 r.jit]
  x3 : Blk W b3 117 #[.func (.func tf) #[] tb]
  x4 : Blk W b4 114 #[.pointer none]
  x5 : Blk W b5 24 #[.int .i64 0]
  x8 : Blk W b8 114 #[.pointer (some ⟨S, 0, none⟩)]
theorem Box5.keep {r : DRules} {tf : Nat} {tb : Array Value} {b2 b3 b4 b5 b8 S : Nat} {W W' : World} {Y : Nat → Prop} (h : Box5 r tf tb b2 b3 b4 b5 b8 S W) (k : Off Y W W') (h2 : ¬ Y b2) (h3 : ¬ Y b3) (h4 : ¬ Y b4) (h5 : ¬ Y b5) (h8 : ¬ Y b8) : Box5 r tf tb b2 b3 b4 b5 b8 S W' :=
  ⟨h.x2.off k h2, h.x3.off k h3, h.x4.off k h4, h.x5.off k h5, h.x8.off k h8⟩
theorem Box5.below {r : DRules} {tf : Nat} {tb : Array Value} {b2 b3 b4 b5 b8 S : Nat} {W W' : World} (h : Box5 r tf tb b2 b3 b4 b5 b8 S W) (k : Below W.heap.size W W') : Box5 r tf tb b2 b3 b4 b5 b8 S W' :=
  h.keep (Y := fun _ => False) (Off.of_below k) id id id id id
/-- Between two draws of state k. -/
def EIn (T : List Edge → (Nat → Prop) → World → Prop) (X0 : Nat → Prop) (w : World) (r : DRules) (J M S b8 tf : Nat) (tb : Array Value) (k kb BI : Nat) (Qk : Fnd DSt × List Edge) (Ds : List Nat) (pre : List (Fin ((J + 1) * (J + 1)))) (W : World) : Prop :=
  ∃ Q v1 v2 v3 X, pMany (dNx r J) 300 (dRow r) k (pre.map Fin.val) Qk = some Q ∧ ES T X0 w r J M S M [BI, kb, w.heap.size, w.heap.size + 1, w.heap.size + 2, w.heap.size + 3, b8] W Q v1 v2 v3 X ∧ Box5 r tf tb w.heap.size (w.heap.size + 1) (w.heap.size + 2) (w.heap.size + 3) b8 S W ∧ Blk W kb 3 #[.int .i64 k] ∧ Blk W BI 32 #[.int .i64 r.k0, .int .i64 r.k1, .int .i64 r.rate, .int .i64 r.buf, .int .i64 r.jit] ∧
    ∀ D ∈ Ds, W.heap[D]? = some (.deferred (some []))
/-- Where there are too many. -/
def EIx (T : List Edge → (Nat → Prop) → World → Prop) (X0 : Nat → Prop) (w : World) (r : DRules) (J M S b8 tf : Nat) (tb : Array Value) (k kb BI : Nat) (Qk : Fnd DSt × List Edge) (Ds : List Nat) (c : Code) (pre : List (Fin ((J + 1) * (J + 1)))) (W : World) : Prop :=
  c = .ret ∧ pMany (dNx r J) 300 (dRow r) k (pre.map Fin.val) Qk = none ∧ Off X0 w W ∧ Blk W (w.heap.size + 2) 114 #[.pointer none] ∧ Blk W (w.heap.size + 3) 24 #[.int .i64 4] ∧ ∀ D ∈ Ds, W.heap[D]? = some (.deferred (some []))
/-- The frame in a round: the draw lies in a box. -/
def EAx (w : World) (r : DRules) (J b6 b8 tf : Nat) (tb : Array Value) (kb : Nat) (x : Fin ((J + 1) * (J + 1))) (a : Act) (W : World) : Prop :=
  ∃ (u11 u12 u13 u14 u15 u16 u17 u18 u19 u20 u21 u22 u23 u24 u25 u26 u27 u28 u29 u30 u31 u32 u33 u34 u35 u36 u37 u38 u39 u40 u41 u42 u43 u44 u45 u46 u47 u48 u49 u50 u51 u52 u53 u54 u55 u56 u57 u58 u59 u60 u61 u62 u63 u64 u65 u66 u67 u68 u69 u70 u71 u72 u73 u74 u75 u76 : Value) (LB : Nat), a = { tmps := #[.agg #[.int .i64 r.k0, .int .i64 r.k1, .int .i64 r.rate, .int .i64 r.buf, .int .i64 r.jit], .func (.func tf) #[] tb, (.pointer (some ⟨w.heap.size, 0, none⟩)), (.pointer (some ⟨w.heap.size + 1, 0, none⟩)), (.pointer (some ⟨w.heap.size + 2, 0, none⟩)), (.pointer (some ⟨w.heap.size + 3, 0, none⟩)), (.pointer (some ⟨b6, 0, none⟩)), .int .i64 0, (.pointer (some ⟨b8, 0, none⟩)), (.pointer (some ⟨kb, 0, none⟩)), (.pointer (some ⟨LB, 0, none⟩)), u11, u12, u13, u14, u15, u16, u17, u18, u19, u20, u21, u22, u23, u24, u25, u26, u27, u28, u29, u30, u31, u32, u33, u34, u35, u36, u37, u38, u39, u40, u41, u42, u43, u44, u45, u46, u47, u48, u49, u50, u51, u52, u53, u54, u55, u56, u57, u58, u59, u60, u61, u62, u63, u64, u65, u66, u67, u68, u69, u70, u71, u72, u73, u74, u75, u76], defers := [] } ∧ Blk W LB 30 #[.int .i64 ((x.val / (J + 1) : Nat) : Int), .int .i64 ((x.val % (J + 1) : Nat) : Int)]
/-- A region's end: it goes on. -/
def regPost (R : Act → World → Prop) : Exit → Act → World → Prop
  | .normal, a, w => R a w
  | _, _, _ => False
def rangeOf : Code → Option (Code × Code)
  | .seq a b => (rangeOf a).or (rangeOf b)
  | .block _ a => rangeOf a
  | .loop a => rangeOf a
  | .cond _ a b => (rangeOf a).or (rangeOf b)
  | .rangeFunc _ _ a b => some (a, b)
  | _ => none
noncomputable def eachBody : Code := ((rangeOf (Tryz.f61.body.getD .skip)).getD (.skip, .skip)).2
theorem kf_off {Y : Nat → Prop} {B M : Nat} {W W' : World} (k : Off Y W W') (hM : M < B) (hy : ∀ g, g < W.heap.size → Y g → g = M ∨ ∃ o : Obj, W.heap[g]? = some o ∧ o.isCells = true) : KeepsFrom B W W' :=
  ⟨k.size, fun g o hB ho hc => (k.block g (Array.getElem?_eq_some_iff.1 ho).1 (fun hyg => by
    rcases hy g (Array.getElem?_eq_some_iff.1 ho).1 hyg with e | ⟨o', ho', hc'⟩
    · omega
    · rw [ho] at ho'; cases ho'; rw [hc] at hc'; cases hc')).trans ho⟩
theorem kf_trans {B : Nat} {a b c : World} (h : KeepsFrom B a b) (k : KeepsFrom B b c) : KeepsFrom B a c := ⟨Nat.le_trans h.size k.size, fun g o hB ho hc => k.same g o hB (h.same g o hB ho hc) hc⟩
theorem mark_own {B S M J : Nat} {W : World} {v1 v2 v3 : Value} {s : Fnd DSt} {g : Nat} (h : Spc B W S M v1 v2 v3 s J) (hg : SOwn S M v1 v2 v3 g) (hd : W.heap[g]? = some (.deferred (some []))) : False := by
  rcases h.cells hg with rfl | ⟨o, ho, hc⟩
  · obtain ⟨D, ⟨es, clock, hb, _⟩, _⟩ := h.map
    rw [hd] at hb
    cases hb
  · rw [hd] at ho
    cases ho
    cases hc
set_option maxRecDepth 20000 in
set_option maxHeartbeats 8000000 in
theorem each_body (T : List Edge → (Nat → Prop) → World → Prop) (X0 : Nat → Prop) (w : World) (r : DRules) (J M S b8 tf : Nat) (tb : Array Value) (k kb BI : Nat) (Qk : Fnd DSt × List Edge) (Ds : List Nat) (b6 BL : Nat) (hJ : Hid (r.jit = J)) (hr : Hid r.ok) (hT : Hid (Tell tf tb T)) (hM : Hid (M < BL)) (hk : Hid (k < Qk.1.l.length ∧ GI r Qk.1 ∧ Qk.2.length = k * ((J + 1) * (J + 1)) ∧ J ≤ 3)) (l : Nat) (pre : List (Fin ((J + 1) * (J + 1)))) (x : Fin ((J + 1) * (J + 1))) (a : Act) (W : World)
    (hI : EIn T X0 w r J M S b8 tf tb k kb BI Qk Ds pre W) (hA : EAx w r J b6 b8 tf tb kb x a W) (hlen : Hid (pre.length < ((J + 1) * (J + 1)))) :
    eachBody.wpIn (Fence.wide.inRound l) 4 Tryz.prog (ownPostG BL (DKeeps BI) (EIn T X0 w r J M S b8 tf tb k kb BI Qk Ds) (EIx T X0 w r J M S b8 tf tb k kb BI Qk Ds) (pre ++ [x]) W) a W := by
  obtain ⟨Q, v1, v2, v3, X, hQ, hE, hB, hkv, hbi, hmk⟩ := hI
  obtain ⟨u11, u12, u13, u14, u15, u16, u17, u18, u19, u20, u21, u22, u23, u24, u25, u26, u27, u28, u29, u30, u31, u32, u33, u34, u35, u36, u37, u38, u39, u40, u41, u42, u43, u44, u45, u46, u47, u48, u49, u50, u51, u52, u53, u54, u55, u56, u57, u58, u59, u60, u61, u62, u63, u64, u65, u66, u67, u68, u69, u70, u71, u72, u73, u74, u75, u76, LB, rfl, hLB⟩ := hA
  have HE := Lib.hid hE
  have HB := Lib.hid hB
  have HQ := Lib.hid hQ
  have HMK := Lib.hid hmk
  have HKV := Lib.hid hkv
  have HBI := Lib.hid hbi
  have HLB := Lib.hid hLB
  clear hE hB hQ hmk hkv hbi hLB
  have hgi := gi_many hr.out hJ.out (pre.map Fin.val) (fun i hi => by obtain ⟨z, _, rfl⟩ := List.mem_map.1 hi; exact z.2) hk.out.2.1 HQ.out hk.out.1
  obtain ⟨hgi1, hgi2, hkl⟩ := hgi
  obtain ⟨s, hs⟩ : ∃ s, Q.1.l[k]? = some s := ⟨_, List.getElem?_eq_getElem hkl⟩
  obtain ⟨g1, n1, hv1, hg0, hg1⟩ := HE.out.spc.r1.form (by omega)
  have hrow : ∀ j, j < 14 → W.cell? ⟨g1, k * 14 + j, none⟩ = some (.int .i64 (dCell s j)) := fun j hj => by
    have h := HE.out.spc.r1.cells (g := g1) (by rw [hv1]; rfl) (k * 14 + j) _ (cellsC_get (stF Q.1) hkl hj)
    rw [Addr.add_lit, Nat.zero_add] at h
    rw [h]
    unfold stF
    rw [hs]
  have HS := Lib.hid hs
  have hsok := Lib.hid (hgi1.ok s (List.mem_of_getElem? hs))
  have hlate := Lib.hid (late_at hJ.out x.2)
  obtain ⟨y, HY⟩ : ∃ y, Hid (dGo r s ((x.val / (J + 1) : Nat) : Int) ((x.val % (J + 1) : Nat) : Int) = y) := ⟨_, rfl⟩
  obtain ⟨q, HQ6⟩ : ∃ q, Hid (dRow r s = q) := ⟨_, rfl⟩
  have HG2 := Lib.hid hgi2
  have HG1 := Lib.hid hgi1
  have hn300 := hgi1.le
  clear hs hgi1 hgi2
  generalize hL0 : ((x.val / (J + 1) : Nat) : Int) = L0 at *
  generalize hL1 : ((x.val % (J + 1) : Nat) : Int) = L1 at *
  have HL0 := Lib.hid hL0
  have HL1 := Lib.hid hL1
  clear hL0 hL1
  have e0 : W.cell? ⟨w.heap.size, 0, none⟩ = some (.int .i64 r.k0) := HB.out.x2.cell 0
  have e1 : W.cell? ⟨w.heap.size, 1, none⟩ = some (.int .i64 r.k1) := HB.out.x2.cell 1
  have e2 : W.cell? ⟨w.heap.size, 2, none⟩ = some (.int .i64 r.rate) := HB.out.x2.cell 2
  have e3 : W.cell? ⟨w.heap.size, 3, none⟩ = some (.int .i64 r.buf) := HB.out.x2.cell 3
  have e4 : W.cell? ⟨w.heap.size, 4, none⟩ = some (.int .i64 r.jit) := HB.out.x2.cell 4
  have p8 : W.cell? ⟨b8, 0, none⟩ = some (.pointer (some ⟨S, 0, none⟩)) := HB.out.x8.cell 0
  have pk : W.cell? ⟨kb, 0, none⟩ = some (.int .i64 k) := HKV.out.cell 0
  have p1 : W.cell? ⟨S, 1, none⟩ = some (.slice (some ⟨g1, 0, none⟩) Q.1.l.length n1) := by rw [← hv1]; exact HE.out.spc.blk.cell 1
  have d0 : W.cell? ⟨LB, 0, none⟩ = some (.int .i64 L0) := HLB.out.cell 0
  have d1 : W.cell? ⟨LB, 1, none⟩ = some (.int .i64 L1) := HLB.out.cell 1
  have r0 : W.cell? ⟨g1, k * 14, none⟩ = some (.int .i64 s.a.c0) := hrow 0 (by omega)
  have r1 : W.cell? ⟨g1, k * 14 + 1, none⟩ = some (.int .i64 s.a.c1) := hrow 1 (by omega)
  have r2 : W.cell? ⟨g1, k * 14 + 2, none⟩ = some (.int .i64 s.a.c2) := hrow 2 (by omega)
  have r3 : W.cell? ⟨g1, k * 14 + 3, none⟩ = some (.int .i64 s.a.c3) := hrow 3 (by omega)
  have r4 : W.cell? ⟨g1, k * 14 + 4, none⟩ = some (.int .i64 s.a.c4) := hrow 4 (by omega)
  have r5 : W.cell? ⟨g1, k * 14 + 5, none⟩ = some (.int .i64 s.a.c5) := hrow 5 (by omega)
  have r6 : W.cell? ⟨g1, k * 14 + 6, none⟩ = some (.int .i64 s.b.c0) := hrow 6 (by omega)
  have r7 : W.cell? ⟨g1, k * 14 + 7, none⟩ = some (.int .i64 s.b.c1) := hrow 7 (by omega)
  have r8 : W.cell? ⟨g1, k * 14 + 8, none⟩ = some (.int .i64 s.b.c2) := hrow 8 (by omega)
  have r9 : W.cell? ⟨g1, k * 14 + 9, none⟩ = some (.int .i64 s.b.c3) := hrow 9 (by omega)
  have r10 : W.cell? ⟨g1, k * 14 + 10, none⟩ = some (.int .i64 s.b.c4) := hrow 10 (by omega)
  have r11 : W.cell? ⟨g1, k * 14 + 11, none⟩ = some (.int .i64 s.b.c5) := hrow 11 (by omega)
  have r12 : W.cell? ⟨g1, k * 14 + 12, none⟩ = some (.int .i64 s.w0) := hrow 12 (by omega)
  have r13 : W.cell? ⟨g1, k * 14 + 13, none⟩ = some (.int .i64 s.w1) := hrow 13 (by omega)
  have l2 := HB.out.x2.lt
  have l8 := HB.out.x8.lt
  have lk := HKV.out.lt
  have lS := HE.out.spc.blk.lt
  have lL := HLB.out.lt
  clear hrow
  have HV1 := Lib.hid hv1
  clear hv1
  have t1 : decide (k < Q.1.l.length) = true := by simpa using hkl
  rw [show eachBody = Code.block 3 _ from rfl]
  gi_wp2
  refine wpIn_mono (Q := regPost fun a' W' => ∃ (u14 u15 u16 u17 u18 u19 u20 u21 u22 u23 u24 u25 u26 u27 u28 u29 u30 u31 u32 u33 u34 u35 u36 u37 u38 u39 u40 u41 u42 u43 u44 u45 u46 u47 u48 u49 u50 u51 u52 u53 u54 u55 u56 u57 u58 u59 u60 u61 u62 u63 u64 u65 u66 u67 u68 u69 u70 u71 u72 u73 u74 u75 u76 : Value) (A C : Nat), a' = { tmps := #[.agg #[.int .i64 r.k0, .int .i64 r.k1, .int .i64 r.rate, .int .i64 r.buf, .int .i64 r.jit], .func (.func tf) #[] tb, (.pointer (some ⟨w.heap.size, 0, none⟩)), (.pointer (some ⟨w.heap.size + 1, 0, none⟩)), (.pointer (some ⟨w.heap.size + 2, 0, none⟩)), (.pointer (some ⟨w.heap.size + 3, 0, none⟩)), (.pointer (some ⟨b6, 0, none⟩)), .int .i64 0, (.pointer (some ⟨b8, 0, none⟩)), (.pointer (some ⟨kb, 0, none⟩)), (.pointer (some ⟨LB, 0, none⟩)), (.pointer (some ⟨A, 0, none⟩)), (.pointer (some ⟨C, 0, none⟩)), .int .i64 0, u14, u15, u16, u17, u18, u19, u20, u21, u22, u23, u24, u25, u26, u27, u28, u29, u30, u31, u32, u33, u34, u35, u36, u37, u38, u39, u40, u41, u42, u43, u44, u45, u46, u47, u48, u49, u50, u51, u52, u53, u54, u55, u56, u57, u58, u59, u60, u61, u62, u63, u64, u65, u66, u67, u68, u69, u70, u71, u72, u73, u74, u75, u76], defers := [] } ∧ W.heap.size ≤ A ∧ W.heap.size ≤ C ∧ Below W.heap.size W W' ∧ Blk W' A 44 #[.int .i64 y.a.c0, .int .i64 y.a.c1, .int .i64 y.a.c2, .int .i64 y.a.c3, .int .i64 y.a.c4, .int .i64 y.a.c5, .int .i64 y.b.c0, .int .i64 y.b.c1, .int .i64 y.b.c2, .int .i64 y.b.c3, .int .i64 y.b.c4, .int .i64 y.b.c5, .int .i64 y.w0, .int .i64 y.w1] ∧ Blk W' C 93 #[.int .i64 (q 0), .int .i64 (q 1), .int .i64 (q 2), .int .i64 (q 3), .int .i64 (q 4), .int .i64 (q 5)]) ?region ?rest
  case region =>
    refine wpIn_region_held_round (S := fun w' => Below W.heap.size W w') (by kernel_rfl) (fun ⟨_, _, h⟩ => h) (by kernel_rfl) ?_ (fun hHeld => ?_)
    · exact (Below.refl _ _).drew
    refine tk 0 ?_ rfl ⟨by rfl, ?_⟩ ?_
    rotate_left 1
    · intro w' hSw
      have fe0 := (hSw.cell (p := ⟨w.heap.size, 0, none⟩) l2).trans e0
      have fe1 := (hSw.cell (p := ⟨w.heap.size, 1, none⟩) l2).trans e1
      have fe2 := (hSw.cell (p := ⟨w.heap.size, 2, none⟩) l2).trans e2
      have fe3 := (hSw.cell (p := ⟨w.heap.size, 3, none⟩) l2).trans e3
      have fe4 := (hSw.cell (p := ⟨w.heap.size, 4, none⟩) l2).trans e4
      have fp8 := (hSw.cell (p := ⟨b8, 0, none⟩) l8).trans p8
      have fpk := (hSw.cell (p := ⟨kb, 0, none⟩) lk).trans pk
      have fp1 := (hSw.cell (p := ⟨S, 1, none⟩) lS).trans p1
      have fd0 := (hSw.cell (p := ⟨LB, 0, none⟩) lL).trans d0
      have fd1 := (hSw.cell (p := ⟨LB, 1, none⟩) lL).trans d1
      have fr0 := (hSw.cell (p := ⟨g1, k * 14, none⟩) hg1).trans r0
      have fr1 := (hSw.cell (p := ⟨g1, k * 14 + 1, none⟩) hg1).trans r1
      have fr2 := (hSw.cell (p := ⟨g1, k * 14 + 2, none⟩) hg1).trans r2
      have fr3 := (hSw.cell (p := ⟨g1, k * 14 + 3, none⟩) hg1).trans r3
      have fr4 := (hSw.cell (p := ⟨g1, k * 14 + 4, none⟩) hg1).trans r4
      have fr5 := (hSw.cell (p := ⟨g1, k * 14 + 5, none⟩) hg1).trans r5
      have fr6 := (hSw.cell (p := ⟨g1, k * 14 + 6, none⟩) hg1).trans r6
      have fr7 := (hSw.cell (p := ⟨g1, k * 14 + 7, none⟩) hg1).trans r7
      have fr8 := (hSw.cell (p := ⟨g1, k * 14 + 8, none⟩) hg1).trans r8
      have fr9 := (hSw.cell (p := ⟨g1, k * 14 + 9, none⟩) hg1).trans r9
      have fr10 := (hSw.cell (p := ⟨g1, k * 14 + 10, none⟩) hg1).trans r10
      have fr11 := (hSw.cell (p := ⟨g1, k * 14 + 11, none⟩) hg1).trans r11
      have fr12 := (hSw.cell (p := ⟨g1, k * 14 + 12, none⟩) hg1).trans r12
      have fr13 := (hSw.cell (p := ⟨g1, k * 14 + 13, none⟩) hg1).trans r13
      go_simp
      try (with_reducible rfl)
    try simp only [lay]
    refine tk 1 ?_ rfl ⟨by rfl, ?_⟩ ?_
    rotate_left 1
    · intro w' hSw
      have fe0 := (hSw.cell (p := ⟨w.heap.size, 0, none⟩) l2).trans e0
      have fe1 := (hSw.cell (p := ⟨w.heap.size, 1, none⟩) l2).trans e1
      have fe2 := (hSw.cell (p := ⟨w.heap.size, 2, none⟩) l2).trans e2
      have fe3 := (hSw.cell (p := ⟨w.heap.size, 3, none⟩) l2).trans e3
      have fe4 := (hSw.cell (p := ⟨w.heap.size, 4, none⟩) l2).trans e4
      have fp8 := (hSw.cell (p := ⟨b8, 0, none⟩) l8).trans p8
      have fpk := (hSw.cell (p := ⟨kb, 0, none⟩) lk).trans pk
      have fp1 := (hSw.cell (p := ⟨S, 1, none⟩) lS).trans p1
      have fd0 := (hSw.cell (p := ⟨LB, 0, none⟩) lL).trans d0
      have fd1 := (hSw.cell (p := ⟨LB, 1, none⟩) lL).trans d1
      have fr0 := (hSw.cell (p := ⟨g1, k * 14, none⟩) hg1).trans r0
      have fr1 := (hSw.cell (p := ⟨g1, k * 14 + 1, none⟩) hg1).trans r1
      have fr2 := (hSw.cell (p := ⟨g1, k * 14 + 2, none⟩) hg1).trans r2
      have fr3 := (hSw.cell (p := ⟨g1, k * 14 + 3, none⟩) hg1).trans r3
      have fr4 := (hSw.cell (p := ⟨g1, k * 14 + 4, none⟩) hg1).trans r4
      have fr5 := (hSw.cell (p := ⟨g1, k * 14 + 5, none⟩) hg1).trans r5
      have fr6 := (hSw.cell (p := ⟨g1, k * 14 + 6, none⟩) hg1).trans r6
      have fr7 := (hSw.cell (p := ⟨g1, k * 14 + 7, none⟩) hg1).trans r7
      have fr8 := (hSw.cell (p := ⟨g1, k * 14 + 8, none⟩) hg1).trans r8
      have fr9 := (hSw.cell (p := ⟨g1, k * 14 + 9, none⟩) hg1).trans r9
      have fr10 := (hSw.cell (p := ⟨g1, k * 14 + 10, none⟩) hg1).trans r10
      have fr11 := (hSw.cell (p := ⟨g1, k * 14 + 11, none⟩) hg1).trans r11
      have fr12 := (hSw.cell (p := ⟨g1, k * 14 + 12, none⟩) hg1).trans r12
      have fr13 := (hSw.cell (p := ⟨g1, k * 14 + 13, none⟩) hg1).trans r13
      go_simp
      try (with_reducible rfl)
    try simp only [lay]
    refine tk 2 ?_ rfl ⟨by rfl, ?_⟩ ?_
    rotate_left 1
    · intro w' hSw
      have fe0 := (hSw.cell (p := ⟨w.heap.size, 0, none⟩) l2).trans e0
      have fe1 := (hSw.cell (p := ⟨w.heap.size, 1, none⟩) l2).trans e1
      have fe2 := (hSw.cell (p := ⟨w.heap.size, 2, none⟩) l2).trans e2
      have fe3 := (hSw.cell (p := ⟨w.heap.size, 3, none⟩) l2).trans e3
      have fe4 := (hSw.cell (p := ⟨w.heap.size, 4, none⟩) l2).trans e4
      have fp8 := (hSw.cell (p := ⟨b8, 0, none⟩) l8).trans p8
      have fpk := (hSw.cell (p := ⟨kb, 0, none⟩) lk).trans pk
      have fp1 := (hSw.cell (p := ⟨S, 1, none⟩) lS).trans p1
      have fd0 := (hSw.cell (p := ⟨LB, 0, none⟩) lL).trans d0
      have fd1 := (hSw.cell (p := ⟨LB, 1, none⟩) lL).trans d1
      have fr0 := (hSw.cell (p := ⟨g1, k * 14, none⟩) hg1).trans r0
      have fr1 := (hSw.cell (p := ⟨g1, k * 14 + 1, none⟩) hg1).trans r1
      have fr2 := (hSw.cell (p := ⟨g1, k * 14 + 2, none⟩) hg1).trans r2
      have fr3 := (hSw.cell (p := ⟨g1, k * 14 + 3, none⟩) hg1).trans r3
      have fr4 := (hSw.cell (p := ⟨g1, k * 14 + 4, none⟩) hg1).trans r4
      have fr5 := (hSw.cell (p := ⟨g1, k * 14 + 5, none⟩) hg1).trans r5
      have fr6 := (hSw.cell (p := ⟨g1, k * 14 + 6, none⟩) hg1).trans r6
      have fr7 := (hSw.cell (p := ⟨g1, k * 14 + 7, none⟩) hg1).trans r7
      have fr8 := (hSw.cell (p := ⟨g1, k * 14 + 8, none⟩) hg1).trans r8
      have fr9 := (hSw.cell (p := ⟨g1, k * 14 + 9, none⟩) hg1).trans r9
      have fr10 := (hSw.cell (p := ⟨g1, k * 14 + 10, none⟩) hg1).trans r10
      have fr11 := (hSw.cell (p := ⟨g1, k * 14 + 11, none⟩) hg1).trans r11
      have fr12 := (hSw.cell (p := ⟨g1, k * 14 + 12, none⟩) hg1).trans r12
      have fr13 := (hSw.cell (p := ⟨g1, k * 14 + 13, none⟩) hg1).trans r13
      go_simp
      try (with_reducible rfl)
    try simp only [lay]
    refine tk 3 ?_ rfl ⟨by rfl, ?_⟩ ?_
    rotate_left 1
    · intro w' hSw
      have fe0 := (hSw.cell (p := ⟨w.heap.size, 0, none⟩) l2).trans e0
      have fe1 := (hSw.cell (p := ⟨w.heap.size, 1, none⟩) l2).trans e1
      have fe2 := (hSw.cell (p := ⟨w.heap.size, 2, none⟩) l2).trans e2
      have fe3 := (hSw.cell (p := ⟨w.heap.size, 3, none⟩) l2).trans e3
      have fe4 := (hSw.cell (p := ⟨w.heap.size, 4, none⟩) l2).trans e4
      have fp8 := (hSw.cell (p := ⟨b8, 0, none⟩) l8).trans p8
      have fpk := (hSw.cell (p := ⟨kb, 0, none⟩) lk).trans pk
      have fp1 := (hSw.cell (p := ⟨S, 1, none⟩) lS).trans p1
      have fd0 := (hSw.cell (p := ⟨LB, 0, none⟩) lL).trans d0
      have fd1 := (hSw.cell (p := ⟨LB, 1, none⟩) lL).trans d1
      have fr0 := (hSw.cell (p := ⟨g1, k * 14, none⟩) hg1).trans r0
      have fr1 := (hSw.cell (p := ⟨g1, k * 14 + 1, none⟩) hg1).trans r1
      have fr2 := (hSw.cell (p := ⟨g1, k * 14 + 2, none⟩) hg1).trans r2
      have fr3 := (hSw.cell (p := ⟨g1, k * 14 + 3, none⟩) hg1).trans r3
      have fr4 := (hSw.cell (p := ⟨g1, k * 14 + 4, none⟩) hg1).trans r4
      have fr5 := (hSw.cell (p := ⟨g1, k * 14 + 5, none⟩) hg1).trans r5
      have fr6 := (hSw.cell (p := ⟨g1, k * 14 + 6, none⟩) hg1).trans r6
      have fr7 := (hSw.cell (p := ⟨g1, k * 14 + 7, none⟩) hg1).trans r7
      have fr8 := (hSw.cell (p := ⟨g1, k * 14 + 8, none⟩) hg1).trans r8
      have fr9 := (hSw.cell (p := ⟨g1, k * 14 + 9, none⟩) hg1).trans r9
      have fr10 := (hSw.cell (p := ⟨g1, k * 14 + 10, none⟩) hg1).trans r10
      have fr11 := (hSw.cell (p := ⟨g1, k * 14 + 11, none⟩) hg1).trans r11
      have fr12 := (hSw.cell (p := ⟨g1, k * 14 + 12, none⟩) hg1).trans r12
      have fr13 := (hSw.cell (p := ⟨g1, k * 14 + 13, none⟩) hg1).trans r13
      go_simp
      try (with_reducible rfl)
    try simp only [lay]
    refine tk 4 ?_ rfl ⟨by rfl, ?_⟩ ?_
    rotate_left 1
    · intro w' hSw
      have fe0 := (hSw.cell (p := ⟨w.heap.size, 0, none⟩) l2).trans e0
      have fe1 := (hSw.cell (p := ⟨w.heap.size, 1, none⟩) l2).trans e1
      have fe2 := (hSw.cell (p := ⟨w.heap.size, 2, none⟩) l2).trans e2
      have fe3 := (hSw.cell (p := ⟨w.heap.size, 3, none⟩) l2).trans e3
      have fe4 := (hSw.cell (p := ⟨w.heap.size, 4, none⟩) l2).trans e4
      have fp8 := (hSw.cell (p := ⟨b8, 0, none⟩) l8).trans p8
      have fpk := (hSw.cell (p := ⟨kb, 0, none⟩) lk).trans pk
      have fp1 := (hSw.cell (p := ⟨S, 1, none⟩) lS).trans p1
      have fd0 := (hSw.cell (p := ⟨LB, 0, none⟩) lL).trans d0
      have fd1 := (hSw.cell (p := ⟨LB, 1, none⟩) lL).trans d1
      have fr0 := (hSw.cell (p := ⟨g1, k * 14, none⟩) hg1).trans r0
      have fr1 := (hSw.cell (p := ⟨g1, k * 14 + 1, none⟩) hg1).trans r1
      have fr2 := (hSw.cell (p := ⟨g1, k * 14 + 2, none⟩) hg1).trans r2
      have fr3 := (hSw.cell (p := ⟨g1, k * 14 + 3, none⟩) hg1).trans r3
      have fr4 := (hSw.cell (p := ⟨g1, k * 14 + 4, none⟩) hg1).trans r4
      have fr5 := (hSw.cell (p := ⟨g1, k * 14 + 5, none⟩) hg1).trans r5
      have fr6 := (hSw.cell (p := ⟨g1, k * 14 + 6, none⟩) hg1).trans r6
      have fr7 := (hSw.cell (p := ⟨g1, k * 14 + 7, none⟩) hg1).trans r7
      have fr8 := (hSw.cell (p := ⟨g1, k * 14 + 8, none⟩) hg1).trans r8
      have fr9 := (hSw.cell (p := ⟨g1, k * 14 + 9, none⟩) hg1).trans r9
      have fr10 := (hSw.cell (p := ⟨g1, k * 14 + 10, none⟩) hg1).trans r10
      have fr11 := (hSw.cell (p := ⟨g1, k * 14 + 11, none⟩) hg1).trans r11
      have fr12 := (hSw.cell (p := ⟨g1, k * 14 + 12, none⟩) hg1).trans r12
      have fr13 := (hSw.cell (p := ⟨g1, k * 14 + 13, none⟩) hg1).trans r13
      go_simp
      try (with_reducible rfl)
    try simp only [lay]
    refine tk 5 ?_ rfl ⟨by rfl, ?_⟩ ?_
    rotate_left 1
    · intro w' hSw
      have fe0 := (hSw.cell (p := ⟨w.heap.size, 0, none⟩) l2).trans e0
      have fe1 := (hSw.cell (p := ⟨w.heap.size, 1, none⟩) l2).trans e1
      have fe2 := (hSw.cell (p := ⟨w.heap.size, 2, none⟩) l2).trans e2
      have fe3 := (hSw.cell (p := ⟨w.heap.size, 3, none⟩) l2).trans e3
      have fe4 := (hSw.cell (p := ⟨w.heap.size, 4, none⟩) l2).trans e4
      have fp8 := (hSw.cell (p := ⟨b8, 0, none⟩) l8).trans p8
      have fpk := (hSw.cell (p := ⟨kb, 0, none⟩) lk).trans pk
      have fp1 := (hSw.cell (p := ⟨S, 1, none⟩) lS).trans p1
      have fd0 := (hSw.cell (p := ⟨LB, 0, none⟩) lL).trans d0
      have fd1 := (hSw.cell (p := ⟨LB, 1, none⟩) lL).trans d1
      have fr0 := (hSw.cell (p := ⟨g1, k * 14, none⟩) hg1).trans r0
      have fr1 := (hSw.cell (p := ⟨g1, k * 14 + 1, none⟩) hg1).trans r1
      have fr2 := (hSw.cell (p := ⟨g1, k * 14 + 2, none⟩) hg1).trans r2
      have fr3 := (hSw.cell (p := ⟨g1, k * 14 + 3, none⟩) hg1).trans r3
      have fr4 := (hSw.cell (p := ⟨g1, k * 14 + 4, none⟩) hg1).trans r4
      have fr5 := (hSw.cell (p := ⟨g1, k * 14 + 5, none⟩) hg1).trans r5
      have fr6 := (hSw.cell (p := ⟨g1, k * 14 + 6, none⟩) hg1).trans r6
      have fr7 := (hSw.cell (p := ⟨g1, k * 14 + 7, none⟩) hg1).trans r7
      have fr8 := (hSw.cell (p := ⟨g1, k * 14 + 8, none⟩) hg1).trans r8
      have fr9 := (hSw.cell (p := ⟨g1, k * 14 + 9, none⟩) hg1).trans r9
      have fr10 := (hSw.cell (p := ⟨g1, k * 14 + 10, none⟩) hg1).trans r10
      have fr11 := (hSw.cell (p := ⟨g1, k * 14 + 11, none⟩) hg1).trans r11
      have fr12 := (hSw.cell (p := ⟨g1, k * 14 + 12, none⟩) hg1).trans r12
      have fr13 := (hSw.cell (p := ⟨g1, k * 14 + 13, none⟩) hg1).trans r13
      go_simp
      try (with_reducible rfl)
    try simp only [lay]
    refine tk 6 ?_ rfl ⟨by rfl, ?_⟩ ?_
    rotate_left 1
    · intro w' hSw
      have fe0 := (hSw.cell (p := ⟨w.heap.size, 0, none⟩) l2).trans e0
      have fe1 := (hSw.cell (p := ⟨w.heap.size, 1, none⟩) l2).trans e1
      have fe2 := (hSw.cell (p := ⟨w.heap.size, 2, none⟩) l2).trans e2
      have fe3 := (hSw.cell (p := ⟨w.heap.size, 3, none⟩) l2).trans e3
      have fe4 := (hSw.cell (p := ⟨w.heap.size, 4, none⟩) l2).trans e4
      have fp8 := (hSw.cell (p := ⟨b8, 0, none⟩) l8).trans p8
      have fpk := (hSw.cell (p := ⟨kb, 0, none⟩) lk).trans pk
      have fp1 := (hSw.cell (p := ⟨S, 1, none⟩) lS).trans p1
      have fd0 := (hSw.cell (p := ⟨LB, 0, none⟩) lL).trans d0
      have fd1 := (hSw.cell (p := ⟨LB, 1, none⟩) lL).trans d1
      have fr0 := (hSw.cell (p := ⟨g1, k * 14, none⟩) hg1).trans r0
      have fr1 := (hSw.cell (p := ⟨g1, k * 14 + 1, none⟩) hg1).trans r1
      have fr2 := (hSw.cell (p := ⟨g1, k * 14 + 2, none⟩) hg1).trans r2
      have fr3 := (hSw.cell (p := ⟨g1, k * 14 + 3, none⟩) hg1).trans r3
      have fr4 := (hSw.cell (p := ⟨g1, k * 14 + 4, none⟩) hg1).trans r4
      have fr5 := (hSw.cell (p := ⟨g1, k * 14 + 5, none⟩) hg1).trans r5
      have fr6 := (hSw.cell (p := ⟨g1, k * 14 + 6, none⟩) hg1).trans r6
      have fr7 := (hSw.cell (p := ⟨g1, k * 14 + 7, none⟩) hg1).trans r7
      have fr8 := (hSw.cell (p := ⟨g1, k * 14 + 8, none⟩) hg1).trans r8
      have fr9 := (hSw.cell (p := ⟨g1, k * 14 + 9, none⟩) hg1).trans r9
      have fr10 := (hSw.cell (p := ⟨g1, k * 14 + 10, none⟩) hg1).trans r10
      have fr11 := (hSw.cell (p := ⟨g1, k * 14 + 11, none⟩) hg1).trans r11
      have fr12 := (hSw.cell (p := ⟨g1, k * 14 + 12, none⟩) hg1).trans r12
      have fr13 := (hSw.cell (p := ⟨g1, k * 14 + 13, none⟩) hg1).trans r13
      go_simp
      try (with_reducible rfl)
    try simp only [lay]
    refine tk 7 ?_ rfl ⟨by rfl, ?_⟩ ?_
    rotate_left 1
    · intro w' hSw
      have fe0 := (hSw.cell (p := ⟨w.heap.size, 0, none⟩) l2).trans e0
      have fe1 := (hSw.cell (p := ⟨w.heap.size, 1, none⟩) l2).trans e1
      have fe2 := (hSw.cell (p := ⟨w.heap.size, 2, none⟩) l2).trans e2
      have fe3 := (hSw.cell (p := ⟨w.heap.size, 3, none⟩) l2).trans e3
      have fe4 := (hSw.cell (p := ⟨w.heap.size, 4, none⟩) l2).trans e4
      have fp8 := (hSw.cell (p := ⟨b8, 0, none⟩) l8).trans p8
      have fpk := (hSw.cell (p := ⟨kb, 0, none⟩) lk).trans pk
      have fp1 := (hSw.cell (p := ⟨S, 1, none⟩) lS).trans p1
      have fd0 := (hSw.cell (p := ⟨LB, 0, none⟩) lL).trans d0
      have fd1 := (hSw.cell (p := ⟨LB, 1, none⟩) lL).trans d1
      have fr0 := (hSw.cell (p := ⟨g1, k * 14, none⟩) hg1).trans r0
      have fr1 := (hSw.cell (p := ⟨g1, k * 14 + 1, none⟩) hg1).trans r1
      have fr2 := (hSw.cell (p := ⟨g1, k * 14 + 2, none⟩) hg1).trans r2
      have fr3 := (hSw.cell (p := ⟨g1, k * 14 + 3, none⟩) hg1).trans r3
      have fr4 := (hSw.cell (p := ⟨g1, k * 14 + 4, none⟩) hg1).trans r4
      have fr5 := (hSw.cell (p := ⟨g1, k * 14 + 5, none⟩) hg1).trans r5
      have fr6 := (hSw.cell (p := ⟨g1, k * 14 + 6, none⟩) hg1).trans r6
      have fr7 := (hSw.cell (p := ⟨g1, k * 14 + 7, none⟩) hg1).trans r7
      have fr8 := (hSw.cell (p := ⟨g1, k * 14 + 8, none⟩) hg1).trans r8
      have fr9 := (hSw.cell (p := ⟨g1, k * 14 + 9, none⟩) hg1).trans r9
      have fr10 := (hSw.cell (p := ⟨g1, k * 14 + 10, none⟩) hg1).trans r10
      have fr11 := (hSw.cell (p := ⟨g1, k * 14 + 11, none⟩) hg1).trans r11
      have fr12 := (hSw.cell (p := ⟨g1, k * 14 + 12, none⟩) hg1).trans r12
      have fr13 := (hSw.cell (p := ⟨g1, k * 14 + 13, none⟩) hg1).trans r13
      go_simp
      try (with_reducible rfl)
    try simp only [lay]
    refine tk 8 ?_ rfl ⟨by rfl, ?_⟩ ?_
    rotate_left 1
    · intro w' hSw
      have fe0 := (hSw.cell (p := ⟨w.heap.size, 0, none⟩) l2).trans e0
      have fe1 := (hSw.cell (p := ⟨w.heap.size, 1, none⟩) l2).trans e1
      have fe2 := (hSw.cell (p := ⟨w.heap.size, 2, none⟩) l2).trans e2
      have fe3 := (hSw.cell (p := ⟨w.heap.size, 3, none⟩) l2).trans e3
      have fe4 := (hSw.cell (p := ⟨w.heap.size, 4, none⟩) l2).trans e4
      have fp8 := (hSw.cell (p := ⟨b8, 0, none⟩) l8).trans p8
      have fpk := (hSw.cell (p := ⟨kb, 0, none⟩) lk).trans pk
      have fp1 := (hSw.cell (p := ⟨S, 1, none⟩) lS).trans p1
      have fd0 := (hSw.cell (p := ⟨LB, 0, none⟩) lL).trans d0
      have fd1 := (hSw.cell (p := ⟨LB, 1, none⟩) lL).trans d1
      have fr0 := (hSw.cell (p := ⟨g1, k * 14, none⟩) hg1).trans r0
      have fr1 := (hSw.cell (p := ⟨g1, k * 14 + 1, none⟩) hg1).trans r1
      have fr2 := (hSw.cell (p := ⟨g1, k * 14 + 2, none⟩) hg1).trans r2
      have fr3 := (hSw.cell (p := ⟨g1, k * 14 + 3, none⟩) hg1).trans r3
      have fr4 := (hSw.cell (p := ⟨g1, k * 14 + 4, none⟩) hg1).trans r4
      have fr5 := (hSw.cell (p := ⟨g1, k * 14 + 5, none⟩) hg1).trans r5
      have fr6 := (hSw.cell (p := ⟨g1, k * 14 + 6, none⟩) hg1).trans r6
      have fr7 := (hSw.cell (p := ⟨g1, k * 14 + 7, none⟩) hg1).trans r7
      have fr8 := (hSw.cell (p := ⟨g1, k * 14 + 8, none⟩) hg1).trans r8
      have fr9 := (hSw.cell (p := ⟨g1, k * 14 + 9, none⟩) hg1).trans r9
      have fr10 := (hSw.cell (p := ⟨g1, k * 14 + 10, none⟩) hg1).trans r10
      have fr11 := (hSw.cell (p := ⟨g1, k * 14 + 11, none⟩) hg1).trans r11
      have fr12 := (hSw.cell (p := ⟨g1, k * 14 + 12, none⟩) hg1).trans r12
      have fr13 := (hSw.cell (p := ⟨g1, k * 14 + 13, none⟩) hg1).trans r13
      go_simp
      try (with_reducible rfl)
    try simp only [lay]
    clear e0 e1 e2 e3 e4 p8 pk p1 d0 d1 r0 r1 r2 r3 r4 r5 r6 r7 r8 r9 r10 r11 r12 r13
    generalize W.drew = w10 at *
    refine wpAnyH_ready (rs := [9, 14, 15]) (by kernel_rfl) (by simp) ?_
    refine AllReadyH.cons rfl (fun K hK => ?_) (AllReadyH.cons rfl (fun K hK => ?_) (AllReadyH.cons rfl (fun K hK => ?_) AllReadyH.nil))
    ·
      go_simp
      refine (step_go r s L0 L1 _ hr.out hsok.out hlate.out y HY q HQ6).mono ?_
      rintro e w' ⟨rfl, os, d, rfl⟩
      have hH' : Below W.heap.size W (w10.more os d) := hHeld.more hHeld.size os d
      clear hHeld
      have hz10 : w10.heap.size ≤ (w10.more os d).heap.size := by simp
      generalize w10.more os d = w11 at *
      refine hK.out _ _ ?_ (fun hHeld => ?_)
      · exact hH'
      clear hK K
      try simp only [lay]
      clear hH'
      refine tk0 10 rfl ?_; try simp only [lay]
      refine tk0 11 rfl ?_; try simp only [lay]
      refine tk0 12 rfl ?_; try simp only [lay]
      refine tk0 13 rfl ?_; try simp only [lay]
      refine wpAnyH_ready (rs := [14, 15]) (by kernel_rfl) (by simp) ?_
      refine AllReadyH.cons rfl (fun K hK => ?_) (AllReadyH.cons rfl (fun K hK => ?_) AllReadyH.nil)
      ·
        go_simp
        have hA := Blk.new w11 44 #[.int .i64 0, .int .i64 0, .int .i64 0, .int .i64 0, .int .i64 0, .int .i64 0, .int .i64 0, .int .i64 0, .int .i64 0, .int .i64 0, .int .i64 0, .int .i64 0, .int .i64 0, .int .i64 0]
        have hH' : Below W.heap.size W (w11.alloc (.cells #[.int .i64 0, .int .i64 0, .int .i64 0, .int .i64 0, .int .i64 0, .int .i64 0, .int .i64 0, .int .i64 0, .int .i64 0, .int .i64 0, .int .i64 0, .int .i64 0, .int .i64 0, .int .i64 0] 44)) := hHeld.alloc hHeld.size _
        have hA0 := hHeld.size
        have hA1 : w11.heap.size < (w11.alloc (.cells #[.int .i64 0, .int .i64 0, .int .i64 0, .int .i64 0, .int .i64 0, .int .i64 0, .int .i64 0, .int .i64 0, .int .i64 0, .int .i64 0, .int .i64 0, .int .i64 0, .int .i64 0, .int .i64 0] 44)).heap.size := by simp
        clear hHeld
        generalize w11.alloc (.cells #[.int .i64 0, .int .i64 0, .int .i64 0, .int .i64 0, .int .i64 0, .int .i64 0, .int .i64 0, .int .i64 0, .int .i64 0, .int .i64 0, .int .i64 0, .int .i64 0, .int .i64 0, .int .i64 0] 44) = w12 at *
        generalize w11.heap.size = A at *
        refine hK.out _ _ ?_ (fun hHeld => ?_)
        · exact hH'
        clear hK K
        try simp only [lay]
        clear hH'
        refine wpAnyH_ready (rs := [15]) (by kernel_rfl) (by simp) ?_
        refine AllReadyH.cons rfl (fun K hK => ?_) AllReadyH.nil
        go_simp
        have hC := Blk.new w12 93 #[.int .i64 0, .int .i64 0, .int .i64 0, .int .i64 0, .int .i64 0, .int .i64 0]
        have hA' := hA.alloc (.cells #[.int .i64 0, .int .i64 0, .int .i64 0, .int .i64 0, .int .i64 0, .int .i64 0] 93)
        clear hA
        have hA := hA'
        clear hA'
        have hH' : Below W.heap.size W (w12.alloc (.cells #[.int .i64 0, .int .i64 0, .int .i64 0, .int .i64 0, .int .i64 0, .int .i64 0] 93)) := hHeld.alloc hHeld.size _
        have hC0 := hHeld.size
        have hC1 : w12.heap.size < (w12.alloc (.cells #[.int .i64 0, .int .i64 0, .int .i64 0, .int .i64 0, .int .i64 0, .int .i64 0] 93)).heap.size := by simp
        clear hHeld
        generalize w12.alloc (.cells #[.int .i64 0, .int .i64 0, .int .i64 0, .int .i64 0, .int .i64 0, .int .i64 0] 93) = w13 at *
        generalize w12.heap.size = C at *
        refine hK.out _ _ ?_ (fun hHeld => ?_)
        · exact hH'
        clear hK K
        try simp only [lay]
        clear hH'
        have hne : A ≠ C := by omega
        refine wpAnyH_ready (rs := [16]) (by kernel_rfl) (by simp) ?_
        refine AllReadyH.cons rfl (fun K hK => ?_) AllReadyH.nil
        rw [if_pos (by rfl)]
        refine wp_store_row 44 _ _ rfl A #[.int .i64 y.a.c0, .int .i64 y.a.c1, .int .i64 y.a.c2, .int .i64 y.a.c3, .int .i64 y.a.c4, .int .i64 y.a.c5, .int .i64 y.b.c0, .int .i64 y.b.c1, .int .i64 y.b.c2, .int .i64 y.b.c3, .int .i64 y.b.c4, .int .i64 y.b.c5, .int .i64 y.w0, .int .i64 y.w1] rfl rfl 44 #[.int .i64 0, .int .i64 0, .int .i64 0, .int .i64 0, .int .i64 0, .int .i64 0, .int .i64 0, .int .i64 0, .int .i64 0, .int .i64 0, .int .i64 0, .int .i64 0, .int .i64 0, .int .i64 0] hA (by kernel_rfl) rfl (by simp [Value.oneCell']) ?_
        refine hK.out _ _ ?_ (fun hHeld => ?_)
        · exact below_setRow hHeld hA0 _
        clear hK K
        try simp only [lay]
        have hA2 := setRow_heap _ _ _ #[.int .i64 y.a.c0, .int .i64 y.a.c1, .int .i64 y.a.c2, .int .i64 y.a.c3, .int .i64 y.a.c4, .int .i64 y.a.c5, .int .i64 y.b.c0, .int .i64 y.b.c1, .int .i64 y.b.c2, .int .i64 y.b.c3, .int .i64 y.b.c4, .int .i64 y.b.c5, .int .i64 y.w0, .int .i64 y.w1] _ _ hA
        have hC2 := (setRow_other _ A C #[.int .i64 y.a.c0, .int .i64 y.a.c1, .int .i64 y.a.c2, .int .i64 y.a.c3, .int .i64 y.a.c4, .int .i64 y.a.c5, .int .i64 y.b.c0, .int .i64 y.b.c1, .int .i64 y.b.c2, .int .i64 y.b.c3, .int .i64 y.b.c4, .int .i64 y.b.c5, .int .i64 y.w0, .int .i64 y.w1] (fun e => hne e.symm)).trans hC
        clear hA hC
        generalize World.setRow _ A #[.int .i64 y.a.c0, .int .i64 y.a.c1, .int .i64 y.a.c2, .int .i64 y.a.c3, .int .i64 y.a.c4, .int .i64 y.a.c5, .int .i64 y.b.c0, .int .i64 y.b.c1, .int .i64 y.b.c2, .int .i64 y.b.c3, .int .i64 y.b.c4, .int .i64 y.b.c5, .int .i64 y.w0, .int .i64 y.w1] = wa at *
        refine wpAnyH_ready (rs := [17]) (by kernel_rfl) (by simp) ?_
        refine AllReadyH.cons rfl (fun K hK => ?_) AllReadyH.nil
        rw [if_pos (by rfl)]
        refine wp_store_row 93 _ _ rfl C #[.int .i64 (q 0), .int .i64 (q 1), .int .i64 (q 2), .int .i64 (q 3), .int .i64 (q 4), .int .i64 (q 5)] rfl rfl 93 #[.int .i64 0, .int .i64 0, .int .i64 0, .int .i64 0, .int .i64 0, .int .i64 0] hC2 (by kernel_rfl) rfl (by simp [Value.oneCell']) ?_
        refine hK.out _ _ ?_ (fun hHeld => ?_)
        · exact below_setRow hHeld hC0 _
        clear hK K
        try simp only [lay]
        have hA3 := (setRow_other _ C A #[.int .i64 (q 0), .int .i64 (q 1), .int .i64 (q 2), .int .i64 (q 3), .int .i64 (q 4), .int .i64 (q 5)] hne).trans hA2
        have hC3 := setRow_heap _ _ _ #[.int .i64 (q 0), .int .i64 (q 1), .int .i64 (q 2), .int .i64 (q 3), .int .i64 (q 4), .int .i64 (q 5)] _ _ hC2
        clear hA2 hC2
        generalize World.setRow _ C #[.int .i64 (q 0), .int .i64 (q 1), .int .i64 (q 2), .int .i64 (q 3), .int .i64 (q 4), .int .i64 (q 5)] = wb at *
        refine tk0 18 rfl ?_; try simp only [lay]
        refine wpAnyH_done (by kernel_rfl) ?_ _
        exact ⟨_, _, _, _, _, _, _, _, _, _, _, _, _, _, _, _, _, _, _, _, _, _, _, _, _, _, _, _, _, _, _, _, _, _, _, _, _, _, _, _, _, _, _, _, _, _, _, _, _, _, _, _, _, _, _, _, _, _, _, _, _, _, _, A, C, rfl, hA0, hC0, hHeld, hA3, hC3⟩
      ·
        go_simp
        have hC := Blk.new w11 93 #[.int .i64 0, .int .i64 0, .int .i64 0, .int .i64 0, .int .i64 0, .int .i64 0]
        have hH' : Below W.heap.size W (w11.alloc (.cells #[.int .i64 0, .int .i64 0, .int .i64 0, .int .i64 0, .int .i64 0, .int .i64 0] 93)) := hHeld.alloc hHeld.size _
        have hC0 := hHeld.size
        have hC1 : w11.heap.size < (w11.alloc (.cells #[.int .i64 0, .int .i64 0, .int .i64 0, .int .i64 0, .int .i64 0, .int .i64 0] 93)).heap.size := by simp
        clear hHeld
        generalize w11.alloc (.cells #[.int .i64 0, .int .i64 0, .int .i64 0, .int .i64 0, .int .i64 0, .int .i64 0] 93) = w12 at *
        generalize w11.heap.size = C at *
        refine hK.out _ _ ?_ (fun hHeld => ?_)
        · exact hH'
        clear hK K
        try simp only [lay]
        clear hH'
        refine wpAnyH_ready (rs := [14]) (by kernel_rfl) (by simp) ?_
        refine AllReadyH.cons rfl (fun K hK => ?_) AllReadyH.nil
        go_simp
        have hA := Blk.new w12 44 #[.int .i64 0, .int .i64 0, .int .i64 0, .int .i64 0, .int .i64 0, .int .i64 0, .int .i64 0, .int .i64 0, .int .i64 0, .int .i64 0, .int .i64 0, .int .i64 0, .int .i64 0, .int .i64 0]
        have hC' := hC.alloc (.cells #[.int .i64 0, .int .i64 0, .int .i64 0, .int .i64 0, .int .i64 0, .int .i64 0, .int .i64 0, .int .i64 0, .int .i64 0, .int .i64 0, .int .i64 0, .int .i64 0, .int .i64 0, .int .i64 0] 44)
        clear hC
        have hC := hC'
        clear hC'
        have hH' : Below W.heap.size W (w12.alloc (.cells #[.int .i64 0, .int .i64 0, .int .i64 0, .int .i64 0, .int .i64 0, .int .i64 0, .int .i64 0, .int .i64 0, .int .i64 0, .int .i64 0, .int .i64 0, .int .i64 0, .int .i64 0, .int .i64 0] 44)) := hHeld.alloc hHeld.size _
        have hA0 := hHeld.size
        have hA1 : w12.heap.size < (w12.alloc (.cells #[.int .i64 0, .int .i64 0, .int .i64 0, .int .i64 0, .int .i64 0, .int .i64 0, .int .i64 0, .int .i64 0, .int .i64 0, .int .i64 0, .int .i64 0, .int .i64 0, .int .i64 0, .int .i64 0] 44)).heap.size := by simp
        clear hHeld
        generalize w12.alloc (.cells #[.int .i64 0, .int .i64 0, .int .i64 0, .int .i64 0, .int .i64 0, .int .i64 0, .int .i64 0, .int .i64 0, .int .i64 0, .int .i64 0, .int .i64 0, .int .i64 0, .int .i64 0, .int .i64 0] 44) = w13 at *
        generalize w12.heap.size = A at *
        refine hK.out _ _ ?_ (fun hHeld => ?_)
        · exact hH'
        clear hK K
        try simp only [lay]
        clear hH'
        have hne : A ≠ C := by omega
        refine wpAnyH_ready (rs := [16]) (by kernel_rfl) (by simp) ?_
        refine AllReadyH.cons rfl (fun K hK => ?_) AllReadyH.nil
        rw [if_pos (by rfl)]
        refine wp_store_row 44 _ _ rfl A #[.int .i64 y.a.c0, .int .i64 y.a.c1, .int .i64 y.a.c2, .int .i64 y.a.c3, .int .i64 y.a.c4, .int .i64 y.a.c5, .int .i64 y.b.c0, .int .i64 y.b.c1, .int .i64 y.b.c2, .int .i64 y.b.c3, .int .i64 y.b.c4, .int .i64 y.b.c5, .int .i64 y.w0, .int .i64 y.w1] rfl rfl 44 #[.int .i64 0, .int .i64 0, .int .i64 0, .int .i64 0, .int .i64 0, .int .i64 0, .int .i64 0, .int .i64 0, .int .i64 0, .int .i64 0, .int .i64 0, .int .i64 0, .int .i64 0, .int .i64 0] hA (by kernel_rfl) rfl (by simp [Value.oneCell']) ?_
        refine hK.out _ _ ?_ (fun hHeld => ?_)
        · exact below_setRow hHeld hA0 _
        clear hK K
        try simp only [lay]
        have hA2 := setRow_heap _ _ _ #[.int .i64 y.a.c0, .int .i64 y.a.c1, .int .i64 y.a.c2, .int .i64 y.a.c3, .int .i64 y.a.c4, .int .i64 y.a.c5, .int .i64 y.b.c0, .int .i64 y.b.c1, .int .i64 y.b.c2, .int .i64 y.b.c3, .int .i64 y.b.c4, .int .i64 y.b.c5, .int .i64 y.w0, .int .i64 y.w1] _ _ hA
        have hC2 := (setRow_other _ A C #[.int .i64 y.a.c0, .int .i64 y.a.c1, .int .i64 y.a.c2, .int .i64 y.a.c3, .int .i64 y.a.c4, .int .i64 y.a.c5, .int .i64 y.b.c0, .int .i64 y.b.c1, .int .i64 y.b.c2, .int .i64 y.b.c3, .int .i64 y.b.c4, .int .i64 y.b.c5, .int .i64 y.w0, .int .i64 y.w1] (fun e => hne e.symm)).trans hC
        clear hA hC
        generalize World.setRow _ A #[.int .i64 y.a.c0, .int .i64 y.a.c1, .int .i64 y.a.c2, .int .i64 y.a.c3, .int .i64 y.a.c4, .int .i64 y.a.c5, .int .i64 y.b.c0, .int .i64 y.b.c1, .int .i64 y.b.c2, .int .i64 y.b.c3, .int .i64 y.b.c4, .int .i64 y.b.c5, .int .i64 y.w0, .int .i64 y.w1] = wa at *
        refine wpAnyH_ready (rs := [17]) (by kernel_rfl) (by simp) ?_
        refine AllReadyH.cons rfl (fun K hK => ?_) AllReadyH.nil
        rw [if_pos (by rfl)]
        refine wp_store_row 93 _ _ rfl C #[.int .i64 (q 0), .int .i64 (q 1), .int .i64 (q 2), .int .i64 (q 3), .int .i64 (q 4), .int .i64 (q 5)] rfl rfl 93 #[.int .i64 0, .int .i64 0, .int .i64 0, .int .i64 0, .int .i64 0, .int .i64 0] hC2 (by kernel_rfl) rfl (by simp [Value.oneCell']) ?_
        refine hK.out _ _ ?_ (fun hHeld => ?_)
        · exact below_setRow hHeld hC0 _
        clear hK K
        try simp only [lay]
        have hA3 := (setRow_other _ C A #[.int .i64 (q 0), .int .i64 (q 1), .int .i64 (q 2), .int .i64 (q 3), .int .i64 (q 4), .int .i64 (q 5)] hne).trans hA2
        have hC3 := setRow_heap _ _ _ #[.int .i64 (q 0), .int .i64 (q 1), .int .i64 (q 2), .int .i64 (q 3), .int .i64 (q 4), .int .i64 (q 5)] _ _ hC2
        clear hA2 hC2
        generalize World.setRow _ C #[.int .i64 (q 0), .int .i64 (q 1), .int .i64 (q 2), .int .i64 (q 3), .int .i64 (q 4), .int .i64 (q 5)] = wb at *
        refine tk0 18 rfl ?_; try simp only [lay]
        refine wpAnyH_done (by kernel_rfl) ?_ _
        exact ⟨_, _, _, _, _, _, _, _, _, _, _, _, _, _, _, _, _, _, _, _, _, _, _, _, _, _, _, _, _, _, _, _, _, _, _, _, _, _, _, _, _, _, _, _, _, _, _, _, _, _, _, _, _, _, _, _, _, _, _, _, _, _, _, A, C, rfl, hA0, hC0, hHeld, hA3, hC3⟩
    ·
      go_simp
      have hA := Blk.new w10 44 #[.int .i64 0, .int .i64 0, .int .i64 0, .int .i64 0, .int .i64 0, .int .i64 0, .int .i64 0, .int .i64 0, .int .i64 0, .int .i64 0, .int .i64 0, .int .i64 0, .int .i64 0, .int .i64 0]
      have hH' : Below W.heap.size W (w10.alloc (.cells #[.int .i64 0, .int .i64 0, .int .i64 0, .int .i64 0, .int .i64 0, .int .i64 0, .int .i64 0, .int .i64 0, .int .i64 0, .int .i64 0, .int .i64 0, .int .i64 0, .int .i64 0, .int .i64 0] 44)) := hHeld.alloc hHeld.size _
      have hA0 := hHeld.size
      have hA1 : w10.heap.size < (w10.alloc (.cells #[.int .i64 0, .int .i64 0, .int .i64 0, .int .i64 0, .int .i64 0, .int .i64 0, .int .i64 0, .int .i64 0, .int .i64 0, .int .i64 0, .int .i64 0, .int .i64 0, .int .i64 0, .int .i64 0] 44)).heap.size := by simp
      clear hHeld
      generalize w10.alloc (.cells #[.int .i64 0, .int .i64 0, .int .i64 0, .int .i64 0, .int .i64 0, .int .i64 0, .int .i64 0, .int .i64 0, .int .i64 0, .int .i64 0, .int .i64 0, .int .i64 0, .int .i64 0, .int .i64 0] 44) = w11 at *
      generalize w10.heap.size = A at *
      refine hK.out _ _ ?_ (fun hHeld => ?_)
      · exact hH'
      clear hK K
      try simp only [lay]
      clear hH'
      refine wpAnyH_ready (rs := [9, 15]) (by kernel_rfl) (by simp) ?_
      refine AllReadyH.cons rfl (fun K hK => ?_) (AllReadyH.cons rfl (fun K hK => ?_) AllReadyH.nil)
      ·
        go_simp
        refine (step_go r s L0 L1 _ hr.out hsok.out hlate.out y HY q HQ6).mono ?_
        rintro e w' ⟨rfl, os, d, rfl⟩
        have hA' := hA.more os d
        clear hA
        have hA := hA'
        clear hA'
        have hH' : Below W.heap.size W (w11.more os d) := hHeld.more hHeld.size os d
        clear hHeld
        have hz11 : w11.heap.size ≤ (w11.more os d).heap.size := by simp
        generalize w11.more os d = w12 at *
        refine hK.out _ _ ?_ (fun hHeld => ?_)
        · exact hH'
        clear hK K
        try simp only [lay]
        clear hH'
        refine tk0 10 rfl ?_; try simp only [lay]
        refine tk0 11 rfl ?_; try simp only [lay]
        refine tk0 12 rfl ?_; try simp only [lay]
        refine tk0 13 rfl ?_; try simp only [lay]
        refine wpAnyH_ready (rs := [15]) (by kernel_rfl) (by simp) ?_
        refine AllReadyH.cons rfl (fun K hK => ?_) AllReadyH.nil
        go_simp
        have hC := Blk.new w12 93 #[.int .i64 0, .int .i64 0, .int .i64 0, .int .i64 0, .int .i64 0, .int .i64 0]
        have hA' := hA.alloc (.cells #[.int .i64 0, .int .i64 0, .int .i64 0, .int .i64 0, .int .i64 0, .int .i64 0] 93)
        clear hA
        have hA := hA'
        clear hA'
        have hH' : Below W.heap.size W (w12.alloc (.cells #[.int .i64 0, .int .i64 0, .int .i64 0, .int .i64 0, .int .i64 0, .int .i64 0] 93)) := hHeld.alloc hHeld.size _
        have hC0 := hHeld.size
        have hC1 : w12.heap.size < (w12.alloc (.cells #[.int .i64 0, .int .i64 0, .int .i64 0, .int .i64 0, .int .i64 0, .int .i64 0] 93)).heap.size := by simp
        clear hHeld
        generalize w12.alloc (.cells #[.int .i64 0, .int .i64 0, .int .i64 0, .int .i64 0, .int .i64 0, .int .i64 0] 93) = w13 at *
        generalize w12.heap.size = C at *
        refine hK.out _ _ ?_ (fun hHeld => ?_)
        · exact hH'
        clear hK K
        try simp only [lay]
        clear hH'
        have hne : A ≠ C := by omega
        refine wpAnyH_ready (rs := [16]) (by kernel_rfl) (by simp) ?_
        refine AllReadyH.cons rfl (fun K hK => ?_) AllReadyH.nil
        rw [if_pos (by rfl)]
        refine wp_store_row 44 _ _ rfl A #[.int .i64 y.a.c0, .int .i64 y.a.c1, .int .i64 y.a.c2, .int .i64 y.a.c3, .int .i64 y.a.c4, .int .i64 y.a.c5, .int .i64 y.b.c0, .int .i64 y.b.c1, .int .i64 y.b.c2, .int .i64 y.b.c3, .int .i64 y.b.c4, .int .i64 y.b.c5, .int .i64 y.w0, .int .i64 y.w1] rfl rfl 44 #[.int .i64 0, .int .i64 0, .int .i64 0, .int .i64 0, .int .i64 0, .int .i64 0, .int .i64 0, .int .i64 0, .int .i64 0, .int .i64 0, .int .i64 0, .int .i64 0, .int .i64 0, .int .i64 0] hA (by kernel_rfl) rfl (by simp [Value.oneCell']) ?_
        refine hK.out _ _ ?_ (fun hHeld => ?_)
        · exact below_setRow hHeld hA0 _
        clear hK K
        try simp only [lay]
        have hA2 := setRow_heap _ _ _ #[.int .i64 y.a.c0, .int .i64 y.a.c1, .int .i64 y.a.c2, .int .i64 y.a.c3, .int .i64 y.a.c4, .int .i64 y.a.c5, .int .i64 y.b.c0, .int .i64 y.b.c1, .int .i64 y.b.c2, .int .i64 y.b.c3, .int .i64 y.b.c4, .int .i64 y.b.c5, .int .i64 y.w0, .int .i64 y.w1] _ _ hA
        have hC2 := (setRow_other _ A C #[.int .i64 y.a.c0, .int .i64 y.a.c1, .int .i64 y.a.c2, .int .i64 y.a.c3, .int .i64 y.a.c4, .int .i64 y.a.c5, .int .i64 y.b.c0, .int .i64 y.b.c1, .int .i64 y.b.c2, .int .i64 y.b.c3, .int .i64 y.b.c4, .int .i64 y.b.c5, .int .i64 y.w0, .int .i64 y.w1] (fun e => hne e.symm)).trans hC
        clear hA hC
        generalize World.setRow _ A #[.int .i64 y.a.c0, .int .i64 y.a.c1, .int .i64 y.a.c2, .int .i64 y.a.c3, .int .i64 y.a.c4, .int .i64 y.a.c5, .int .i64 y.b.c0, .int .i64 y.b.c1, .int .i64 y.b.c2, .int .i64 y.b.c3, .int .i64 y.b.c4, .int .i64 y.b.c5, .int .i64 y.w0, .int .i64 y.w1] = wa at *
        refine wpAnyH_ready (rs := [17]) (by kernel_rfl) (by simp) ?_
        refine AllReadyH.cons rfl (fun K hK => ?_) AllReadyH.nil
        rw [if_pos (by rfl)]
        refine wp_store_row 93 _ _ rfl C #[.int .i64 (q 0), .int .i64 (q 1), .int .i64 (q 2), .int .i64 (q 3), .int .i64 (q 4), .int .i64 (q 5)] rfl rfl 93 #[.int .i64 0, .int .i64 0, .int .i64 0, .int .i64 0, .int .i64 0, .int .i64 0] hC2 (by kernel_rfl) rfl (by simp [Value.oneCell']) ?_
        refine hK.out _ _ ?_ (fun hHeld => ?_)
        · exact below_setRow hHeld hC0 _
        clear hK K
        try simp only [lay]
        have hA3 := (setRow_other _ C A #[.int .i64 (q 0), .int .i64 (q 1), .int .i64 (q 2), .int .i64 (q 3), .int .i64 (q 4), .int .i64 (q 5)] hne).trans hA2
        have hC3 := setRow_heap _ _ _ #[.int .i64 (q 0), .int .i64 (q 1), .int .i64 (q 2), .int .i64 (q 3), .int .i64 (q 4), .int .i64 (q 5)] _ _ hC2
        clear hA2 hC2
        generalize World.setRow _ C #[.int .i64 (q 0), .int .i64 (q 1), .int .i64 (q 2), .int .i64 (q 3), .int .i64 (q 4), .int .i64 (q 5)] = wb at *
        refine tk0 18 rfl ?_; try simp only [lay]
        refine wpAnyH_done (by kernel_rfl) ?_ _
        exact ⟨_, _, _, _, _, _, _, _, _, _, _, _, _, _, _, _, _, _, _, _, _, _, _, _, _, _, _, _, _, _, _, _, _, _, _, _, _, _, _, _, _, _, _, _, _, _, _, _, _, _, _, _, _, _, _, _, _, _, _, _, _, _, _, A, C, rfl, hA0, hC0, hHeld, hA3, hC3⟩
      ·
        go_simp
        have hC := Blk.new w11 93 #[.int .i64 0, .int .i64 0, .int .i64 0, .int .i64 0, .int .i64 0, .int .i64 0]
        have hA' := hA.alloc (.cells #[.int .i64 0, .int .i64 0, .int .i64 0, .int .i64 0, .int .i64 0, .int .i64 0] 93)
        clear hA
        have hA := hA'
        clear hA'
        have hH' : Below W.heap.size W (w11.alloc (.cells #[.int .i64 0, .int .i64 0, .int .i64 0, .int .i64 0, .int .i64 0, .int .i64 0] 93)) := hHeld.alloc hHeld.size _
        have hC0 := hHeld.size
        have hC1 : w11.heap.size < (w11.alloc (.cells #[.int .i64 0, .int .i64 0, .int .i64 0, .int .i64 0, .int .i64 0, .int .i64 0] 93)).heap.size := by simp
        clear hHeld
        generalize w11.alloc (.cells #[.int .i64 0, .int .i64 0, .int .i64 0, .int .i64 0, .int .i64 0, .int .i64 0] 93) = w12 at *
        generalize w11.heap.size = C at *
        refine hK.out _ _ ?_ (fun hHeld => ?_)
        · exact hH'
        clear hK K
        try simp only [lay]
        clear hH'
        refine wpAnyH_ready (rs := [9]) (by kernel_rfl) (by simp) ?_
        refine AllReadyH.cons rfl (fun K hK => ?_) AllReadyH.nil
        go_simp
        refine (step_go r s L0 L1 _ hr.out hsok.out hlate.out y HY q HQ6).mono ?_
        rintro e w' ⟨rfl, os, d, rfl⟩
        have hA' := hA.more os d
        clear hA
        have hA := hA'
        clear hA'
        have hC' := hC.more os d
        clear hC
        have hC := hC'
        clear hC'
        have hH' : Below W.heap.size W (w12.more os d) := hHeld.more hHeld.size os d
        clear hHeld
        have hz12 : w12.heap.size ≤ (w12.more os d).heap.size := by simp
        generalize w12.more os d = w13 at *
        refine hK.out _ _ ?_ (fun hHeld => ?_)
        · exact hH'
        clear hK K
        try simp only [lay]
        clear hH'
        refine tk0 10 rfl ?_; try simp only [lay]
        refine tk0 11 rfl ?_; try simp only [lay]
        refine tk0 12 rfl ?_; try simp only [lay]
        refine tk0 13 rfl ?_; try simp only [lay]
        have hne : A ≠ C := by omega
        refine wpAnyH_ready (rs := [16]) (by kernel_rfl) (by simp) ?_
        refine AllReadyH.cons rfl (fun K hK => ?_) AllReadyH.nil
        rw [if_pos (by rfl)]
        refine wp_store_row 44 _ _ rfl A #[.int .i64 y.a.c0, .int .i64 y.a.c1, .int .i64 y.a.c2, .int .i64 y.a.c3, .int .i64 y.a.c4, .int .i64 y.a.c5, .int .i64 y.b.c0, .int .i64 y.b.c1, .int .i64 y.b.c2, .int .i64 y.b.c3, .int .i64 y.b.c4, .int .i64 y.b.c5, .int .i64 y.w0, .int .i64 y.w1] rfl rfl 44 #[.int .i64 0, .int .i64 0, .int .i64 0, .int .i64 0, .int .i64 0, .int .i64 0, .int .i64 0, .int .i64 0, .int .i64 0, .int .i64 0, .int .i64 0, .int .i64 0, .int .i64 0, .int .i64 0] hA (by kernel_rfl) rfl (by simp [Value.oneCell']) ?_
        refine hK.out _ _ ?_ (fun hHeld => ?_)
        · exact below_setRow hHeld hA0 _
        clear hK K
        try simp only [lay]
        have hA2 := setRow_heap _ _ _ #[.int .i64 y.a.c0, .int .i64 y.a.c1, .int .i64 y.a.c2, .int .i64 y.a.c3, .int .i64 y.a.c4, .int .i64 y.a.c5, .int .i64 y.b.c0, .int .i64 y.b.c1, .int .i64 y.b.c2, .int .i64 y.b.c3, .int .i64 y.b.c4, .int .i64 y.b.c5, .int .i64 y.w0, .int .i64 y.w1] _ _ hA
        have hC2 := (setRow_other _ A C #[.int .i64 y.a.c0, .int .i64 y.a.c1, .int .i64 y.a.c2, .int .i64 y.a.c3, .int .i64 y.a.c4, .int .i64 y.a.c5, .int .i64 y.b.c0, .int .i64 y.b.c1, .int .i64 y.b.c2, .int .i64 y.b.c3, .int .i64 y.b.c4, .int .i64 y.b.c5, .int .i64 y.w0, .int .i64 y.w1] (fun e => hne e.symm)).trans hC
        clear hA hC
        generalize World.setRow _ A #[.int .i64 y.a.c0, .int .i64 y.a.c1, .int .i64 y.a.c2, .int .i64 y.a.c3, .int .i64 y.a.c4, .int .i64 y.a.c5, .int .i64 y.b.c0, .int .i64 y.b.c1, .int .i64 y.b.c2, .int .i64 y.b.c3, .int .i64 y.b.c4, .int .i64 y.b.c5, .int .i64 y.w0, .int .i64 y.w1] = wa at *
        refine wpAnyH_ready (rs := [17]) (by kernel_rfl) (by simp) ?_
        refine AllReadyH.cons rfl (fun K hK => ?_) AllReadyH.nil
        rw [if_pos (by rfl)]
        refine wp_store_row 93 _ _ rfl C #[.int .i64 (q 0), .int .i64 (q 1), .int .i64 (q 2), .int .i64 (q 3), .int .i64 (q 4), .int .i64 (q 5)] rfl rfl 93 #[.int .i64 0, .int .i64 0, .int .i64 0, .int .i64 0, .int .i64 0, .int .i64 0] hC2 (by kernel_rfl) rfl (by simp [Value.oneCell']) ?_
        refine hK.out _ _ ?_ (fun hHeld => ?_)
        · exact below_setRow hHeld hC0 _
        clear hK K
        try simp only [lay]
        have hA3 := (setRow_other _ C A #[.int .i64 (q 0), .int .i64 (q 1), .int .i64 (q 2), .int .i64 (q 3), .int .i64 (q 4), .int .i64 (q 5)] hne).trans hA2
        have hC3 := setRow_heap _ _ _ #[.int .i64 (q 0), .int .i64 (q 1), .int .i64 (q 2), .int .i64 (q 3), .int .i64 (q 4), .int .i64 (q 5)] _ _ hC2
        clear hA2 hC2
        generalize World.setRow _ C #[.int .i64 (q 0), .int .i64 (q 1), .int .i64 (q 2), .int .i64 (q 3), .int .i64 (q 4), .int .i64 (q 5)] = wb at *
        refine tk0 18 rfl ?_; try simp only [lay]
        refine wpAnyH_done (by kernel_rfl) ?_ _
        exact ⟨_, _, _, _, _, _, _, _, _, _, _, _, _, _, _, _, _, _, _, _, _, _, _, _, _, _, _, _, _, _, _, _, _, _, _, _, _, _, _, _, _, _, _, _, _, _, _, _, _, _, _, _, _, _, _, _, _, _, _, _, _, _, _, A, C, rfl, hA0, hC0, hHeld, hA3, hC3⟩
    ·
      go_simp
      have hC := Blk.new w10 93 #[.int .i64 0, .int .i64 0, .int .i64 0, .int .i64 0, .int .i64 0, .int .i64 0]
      have hH' : Below W.heap.size W (w10.alloc (.cells #[.int .i64 0, .int .i64 0, .int .i64 0, .int .i64 0, .int .i64 0, .int .i64 0] 93)) := hHeld.alloc hHeld.size _
      have hC0 := hHeld.size
      have hC1 : w10.heap.size < (w10.alloc (.cells #[.int .i64 0, .int .i64 0, .int .i64 0, .int .i64 0, .int .i64 0, .int .i64 0] 93)).heap.size := by simp
      clear hHeld
      generalize w10.alloc (.cells #[.int .i64 0, .int .i64 0, .int .i64 0, .int .i64 0, .int .i64 0, .int .i64 0] 93) = w11 at *
      generalize w10.heap.size = C at *
      refine hK.out _ _ ?_ (fun hHeld => ?_)
      · exact hH'
      clear hK K
      try simp only [lay]
      clear hH'
      refine wpAnyH_ready (rs := [9, 14]) (by kernel_rfl) (by simp) ?_
      refine AllReadyH.cons rfl (fun K hK => ?_) (AllReadyH.cons rfl (fun K hK => ?_) AllReadyH.nil)
      ·
        go_simp
        refine (step_go r s L0 L1 _ hr.out hsok.out hlate.out y HY q HQ6).mono ?_
        rintro e w' ⟨rfl, os, d, rfl⟩
        have hC' := hC.more os d
        clear hC
        have hC := hC'
        clear hC'
        have hH' : Below W.heap.size W (w11.more os d) := hHeld.more hHeld.size os d
        clear hHeld
        have hz11 : w11.heap.size ≤ (w11.more os d).heap.size := by simp
        generalize w11.more os d = w12 at *
        refine hK.out _ _ ?_ (fun hHeld => ?_)
        · exact hH'
        clear hK K
        try simp only [lay]
        clear hH'
        refine tk0 10 rfl ?_; try simp only [lay]
        refine tk0 11 rfl ?_; try simp only [lay]
        refine tk0 12 rfl ?_; try simp only [lay]
        refine tk0 13 rfl ?_; try simp only [lay]
        refine wpAnyH_ready (rs := [14]) (by kernel_rfl) (by simp) ?_
        refine AllReadyH.cons rfl (fun K hK => ?_) AllReadyH.nil
        go_simp
        have hA := Blk.new w12 44 #[.int .i64 0, .int .i64 0, .int .i64 0, .int .i64 0, .int .i64 0, .int .i64 0, .int .i64 0, .int .i64 0, .int .i64 0, .int .i64 0, .int .i64 0, .int .i64 0, .int .i64 0, .int .i64 0]
        have hC' := hC.alloc (.cells #[.int .i64 0, .int .i64 0, .int .i64 0, .int .i64 0, .int .i64 0, .int .i64 0, .int .i64 0, .int .i64 0, .int .i64 0, .int .i64 0, .int .i64 0, .int .i64 0, .int .i64 0, .int .i64 0] 44)
        clear hC
        have hC := hC'
        clear hC'
        have hH' : Below W.heap.size W (w12.alloc (.cells #[.int .i64 0, .int .i64 0, .int .i64 0, .int .i64 0, .int .i64 0, .int .i64 0, .int .i64 0, .int .i64 0, .int .i64 0, .int .i64 0, .int .i64 0, .int .i64 0, .int .i64 0, .int .i64 0] 44)) := hHeld.alloc hHeld.size _
        have hA0 := hHeld.size
        have hA1 : w12.heap.size < (w12.alloc (.cells #[.int .i64 0, .int .i64 0, .int .i64 0, .int .i64 0, .int .i64 0, .int .i64 0, .int .i64 0, .int .i64 0, .int .i64 0, .int .i64 0, .int .i64 0, .int .i64 0, .int .i64 0, .int .i64 0] 44)).heap.size := by simp
        clear hHeld
        generalize w12.alloc (.cells #[.int .i64 0, .int .i64 0, .int .i64 0, .int .i64 0, .int .i64 0, .int .i64 0, .int .i64 0, .int .i64 0, .int .i64 0, .int .i64 0, .int .i64 0, .int .i64 0, .int .i64 0, .int .i64 0] 44) = w13 at *
        generalize w12.heap.size = A at *
        refine hK.out _ _ ?_ (fun hHeld => ?_)
        · exact hH'
        clear hK K
        try simp only [lay]
        clear hH'
        have hne : A ≠ C := by omega
        refine wpAnyH_ready (rs := [16]) (by kernel_rfl) (by simp) ?_
        refine AllReadyH.cons rfl (fun K hK => ?_) AllReadyH.nil
        rw [if_pos (by rfl)]
        refine wp_store_row 44 _ _ rfl A #[.int .i64 y.a.c0, .int .i64 y.a.c1, .int .i64 y.a.c2, .int .i64 y.a.c3, .int .i64 y.a.c4, .int .i64 y.a.c5, .int .i64 y.b.c0, .int .i64 y.b.c1, .int .i64 y.b.c2, .int .i64 y.b.c3, .int .i64 y.b.c4, .int .i64 y.b.c5, .int .i64 y.w0, .int .i64 y.w1] rfl rfl 44 #[.int .i64 0, .int .i64 0, .int .i64 0, .int .i64 0, .int .i64 0, .int .i64 0, .int .i64 0, .int .i64 0, .int .i64 0, .int .i64 0, .int .i64 0, .int .i64 0, .int .i64 0, .int .i64 0] hA (by kernel_rfl) rfl (by simp [Value.oneCell']) ?_
        refine hK.out _ _ ?_ (fun hHeld => ?_)
        · exact below_setRow hHeld hA0 _
        clear hK K
        try simp only [lay]
        have hA2 := setRow_heap _ _ _ #[.int .i64 y.a.c0, .int .i64 y.a.c1, .int .i64 y.a.c2, .int .i64 y.a.c3, .int .i64 y.a.c4, .int .i64 y.a.c5, .int .i64 y.b.c0, .int .i64 y.b.c1, .int .i64 y.b.c2, .int .i64 y.b.c3, .int .i64 y.b.c4, .int .i64 y.b.c5, .int .i64 y.w0, .int .i64 y.w1] _ _ hA
        have hC2 := (setRow_other _ A C #[.int .i64 y.a.c0, .int .i64 y.a.c1, .int .i64 y.a.c2, .int .i64 y.a.c3, .int .i64 y.a.c4, .int .i64 y.a.c5, .int .i64 y.b.c0, .int .i64 y.b.c1, .int .i64 y.b.c2, .int .i64 y.b.c3, .int .i64 y.b.c4, .int .i64 y.b.c5, .int .i64 y.w0, .int .i64 y.w1] (fun e => hne e.symm)).trans hC
        clear hA hC
        generalize World.setRow _ A #[.int .i64 y.a.c0, .int .i64 y.a.c1, .int .i64 y.a.c2, .int .i64 y.a.c3, .int .i64 y.a.c4, .int .i64 y.a.c5, .int .i64 y.b.c0, .int .i64 y.b.c1, .int .i64 y.b.c2, .int .i64 y.b.c3, .int .i64 y.b.c4, .int .i64 y.b.c5, .int .i64 y.w0, .int .i64 y.w1] = wa at *
        refine wpAnyH_ready (rs := [17]) (by kernel_rfl) (by simp) ?_
        refine AllReadyH.cons rfl (fun K hK => ?_) AllReadyH.nil
        rw [if_pos (by rfl)]
        refine wp_store_row 93 _ _ rfl C #[.int .i64 (q 0), .int .i64 (q 1), .int .i64 (q 2), .int .i64 (q 3), .int .i64 (q 4), .int .i64 (q 5)] rfl rfl 93 #[.int .i64 0, .int .i64 0, .int .i64 0, .int .i64 0, .int .i64 0, .int .i64 0] hC2 (by kernel_rfl) rfl (by simp [Value.oneCell']) ?_
        refine hK.out _ _ ?_ (fun hHeld => ?_)
        · exact below_setRow hHeld hC0 _
        clear hK K
        try simp only [lay]
        have hA3 := (setRow_other _ C A #[.int .i64 (q 0), .int .i64 (q 1), .int .i64 (q 2), .int .i64 (q 3), .int .i64 (q 4), .int .i64 (q 5)] hne).trans hA2
        have hC3 := setRow_heap _ _ _ #[.int .i64 (q 0), .int .i64 (q 1), .int .i64 (q 2), .int .i64 (q 3), .int .i64 (q 4), .int .i64 (q 5)] _ _ hC2
        clear hA2 hC2
        generalize World.setRow _ C #[.int .i64 (q 0), .int .i64 (q 1), .int .i64 (q 2), .int .i64 (q 3), .int .i64 (q 4), .int .i64 (q 5)] = wb at *
        refine tk0 18 rfl ?_; try simp only [lay]
        refine wpAnyH_done (by kernel_rfl) ?_ _
        exact ⟨_, _, _, _, _, _, _, _, _, _, _, _, _, _, _, _, _, _, _, _, _, _, _, _, _, _, _, _, _, _, _, _, _, _, _, _, _, _, _, _, _, _, _, _, _, _, _, _, _, _, _, _, _, _, _, _, _, _, _, _, _, _, _, A, C, rfl, hA0, hC0, hHeld, hA3, hC3⟩
      ·
        go_simp
        have hA := Blk.new w11 44 #[.int .i64 0, .int .i64 0, .int .i64 0, .int .i64 0, .int .i64 0, .int .i64 0, .int .i64 0, .int .i64 0, .int .i64 0, .int .i64 0, .int .i64 0, .int .i64 0, .int .i64 0, .int .i64 0]
        have hC' := hC.alloc (.cells #[.int .i64 0, .int .i64 0, .int .i64 0, .int .i64 0, .int .i64 0, .int .i64 0, .int .i64 0, .int .i64 0, .int .i64 0, .int .i64 0, .int .i64 0, .int .i64 0, .int .i64 0, .int .i64 0] 44)
        clear hC
        have hC := hC'
        clear hC'
        have hH' : Below W.heap.size W (w11.alloc (.cells #[.int .i64 0, .int .i64 0, .int .i64 0, .int .i64 0, .int .i64 0, .int .i64 0, .int .i64 0, .int .i64 0, .int .i64 0, .int .i64 0, .int .i64 0, .int .i64 0, .int .i64 0, .int .i64 0] 44)) := hHeld.alloc hHeld.size _
        have hA0 := hHeld.size
        have hA1 : w11.heap.size < (w11.alloc (.cells #[.int .i64 0, .int .i64 0, .int .i64 0, .int .i64 0, .int .i64 0, .int .i64 0, .int .i64 0, .int .i64 0, .int .i64 0, .int .i64 0, .int .i64 0, .int .i64 0, .int .i64 0, .int .i64 0] 44)).heap.size := by simp
        clear hHeld
        generalize w11.alloc (.cells #[.int .i64 0, .int .i64 0, .int .i64 0, .int .i64 0, .int .i64 0, .int .i64 0, .int .i64 0, .int .i64 0, .int .i64 0, .int .i64 0, .int .i64 0, .int .i64 0, .int .i64 0, .int .i64 0] 44) = w12 at *
        generalize w11.heap.size = A at *
        refine hK.out _ _ ?_ (fun hHeld => ?_)
        · exact hH'
        clear hK K
        try simp only [lay]
        clear hH'
        refine wpAnyH_ready (rs := [9]) (by kernel_rfl) (by simp) ?_
        refine AllReadyH.cons rfl (fun K hK => ?_) AllReadyH.nil
        go_simp
        refine (step_go r s L0 L1 _ hr.out hsok.out hlate.out y HY q HQ6).mono ?_
        rintro e w' ⟨rfl, os, d, rfl⟩
        have hA' := hA.more os d
        clear hA
        have hA := hA'
        clear hA'
        have hC' := hC.more os d
        clear hC
        have hC := hC'
        clear hC'
        have hH' : Below W.heap.size W (w12.more os d) := hHeld.more hHeld.size os d
        clear hHeld
        have hz12 : w12.heap.size ≤ (w12.more os d).heap.size := by simp
        generalize w12.more os d = w13 at *
        refine hK.out _ _ ?_ (fun hHeld => ?_)
        · exact hH'
        clear hK K
        try simp only [lay]
        clear hH'
        refine tk0 10 rfl ?_; try simp only [lay]
        refine tk0 11 rfl ?_; try simp only [lay]
        refine tk0 12 rfl ?_; try simp only [lay]
        refine tk0 13 rfl ?_; try simp only [lay]
        have hne : A ≠ C := by omega
        refine wpAnyH_ready (rs := [16]) (by kernel_rfl) (by simp) ?_
        refine AllReadyH.cons rfl (fun K hK => ?_) AllReadyH.nil
        rw [if_pos (by rfl)]
        refine wp_store_row 44 _ _ rfl A #[.int .i64 y.a.c0, .int .i64 y.a.c1, .int .i64 y.a.c2, .int .i64 y.a.c3, .int .i64 y.a.c4, .int .i64 y.a.c5, .int .i64 y.b.c0, .int .i64 y.b.c1, .int .i64 y.b.c2, .int .i64 y.b.c3, .int .i64 y.b.c4, .int .i64 y.b.c5, .int .i64 y.w0, .int .i64 y.w1] rfl rfl 44 #[.int .i64 0, .int .i64 0, .int .i64 0, .int .i64 0, .int .i64 0, .int .i64 0, .int .i64 0, .int .i64 0, .int .i64 0, .int .i64 0, .int .i64 0, .int .i64 0, .int .i64 0, .int .i64 0] hA (by kernel_rfl) rfl (by simp [Value.oneCell']) ?_
        refine hK.out _ _ ?_ (fun hHeld => ?_)
        · exact below_setRow hHeld hA0 _
        clear hK K
        try simp only [lay]
        have hA2 := setRow_heap _ _ _ #[.int .i64 y.a.c0, .int .i64 y.a.c1, .int .i64 y.a.c2, .int .i64 y.a.c3, .int .i64 y.a.c4, .int .i64 y.a.c5, .int .i64 y.b.c0, .int .i64 y.b.c1, .int .i64 y.b.c2, .int .i64 y.b.c3, .int .i64 y.b.c4, .int .i64 y.b.c5, .int .i64 y.w0, .int .i64 y.w1] _ _ hA
        have hC2 := (setRow_other _ A C #[.int .i64 y.a.c0, .int .i64 y.a.c1, .int .i64 y.a.c2, .int .i64 y.a.c3, .int .i64 y.a.c4, .int .i64 y.a.c5, .int .i64 y.b.c0, .int .i64 y.b.c1, .int .i64 y.b.c2, .int .i64 y.b.c3, .int .i64 y.b.c4, .int .i64 y.b.c5, .int .i64 y.w0, .int .i64 y.w1] (fun e => hne e.symm)).trans hC
        clear hA hC
        generalize World.setRow _ A #[.int .i64 y.a.c0, .int .i64 y.a.c1, .int .i64 y.a.c2, .int .i64 y.a.c3, .int .i64 y.a.c4, .int .i64 y.a.c5, .int .i64 y.b.c0, .int .i64 y.b.c1, .int .i64 y.b.c2, .int .i64 y.b.c3, .int .i64 y.b.c4, .int .i64 y.b.c5, .int .i64 y.w0, .int .i64 y.w1] = wa at *
        refine wpAnyH_ready (rs := [17]) (by kernel_rfl) (by simp) ?_
        refine AllReadyH.cons rfl (fun K hK => ?_) AllReadyH.nil
        rw [if_pos (by rfl)]
        refine wp_store_row 93 _ _ rfl C #[.int .i64 (q 0), .int .i64 (q 1), .int .i64 (q 2), .int .i64 (q 3), .int .i64 (q 4), .int .i64 (q 5)] rfl rfl 93 #[.int .i64 0, .int .i64 0, .int .i64 0, .int .i64 0, .int .i64 0, .int .i64 0] hC2 (by kernel_rfl) rfl (by simp [Value.oneCell']) ?_
        refine hK.out _ _ ?_ (fun hHeld => ?_)
        · exact below_setRow hHeld hC0 _
        clear hK K
        try simp only [lay]
        have hA3 := (setRow_other _ C A #[.int .i64 (q 0), .int .i64 (q 1), .int .i64 (q 2), .int .i64 (q 3), .int .i64 (q 4), .int .i64 (q 5)] hne).trans hA2
        have hC3 := setRow_heap _ _ _ #[.int .i64 (q 0), .int .i64 (q 1), .int .i64 (q 2), .int .i64 (q 3), .int .i64 (q 4), .int .i64 (q 5)] _ _ hC2
        clear hA2 hC2
        generalize World.setRow _ C #[.int .i64 (q 0), .int .i64 (q 1), .int .i64 (q 2), .int .i64 (q 3), .int .i64 (q 4), .int .i64 (q 5)] = wb at *
        refine tk0 18 rfl ?_; try simp only [lay]
        refine wpAnyH_done (by kernel_rfl) ?_ _
        exact ⟨_, _, _, _, _, _, _, _, _, _, _, _, _, _, _, _, _, _, _, _, _, _, _, _, _, _, _, _, _, _, _, _, _, _, _, _, _, _, _, _, _, _, _, _, _, _, _, _, _, _, _, _, _, _, _, _, _, _, _, _, _, _, _, A, C, rfl, hA0, hC0, hHeld, hA3, hC3⟩
  case rest =>
    rintro e a' W' h
    cases e with
    | normal =>
      obtain ⟨u14, u15, u16, u17, u18, u19, u20, u21, u22, u23, u24, u25, u26, u27, u28, u29, u30, u31, u32, u33, u34, u35, u36, u37, u38, u39, u40, u41, u42, u43, u44, u45, u46, u47, u48, u49, u50, u51, u52, u53, u54, u55, u56, u57, u58, u59, u60, u61, u62, u63, u64, u65, u66, u67, u68, u69, u70, u71, u72, u73, u74, u75, u76, A, C, rfl, hA0, hC0, hbw, hA, hC⟩ := h
      have HE2 : Hid (ES T X0 w r J M S M (C :: [BI, kb, w.heap.size, w.heap.size + 1, w.heap.size + 2, w.heap.size + 3, b8]) W' Q v1 v2 v3 X) := (HE.out.below hT.out hbw).boxes hT.out _ (fun g hg => (List.mem_cons.1 hg).elim (fun e => by rw [e]; exact hC.lt) (fun e => (HE.out.below hT.out hbw).bb g e)) (fun g hg => (List.mem_cons.1 hg).elim (fun e => .inr (by rw [e]; exact ⟨fun h => by have := (HE.out.spc.ge h).2; omega, fun h => by obtain ⟨o, ho, _⟩ := hT.out.cells _ _ _ _ HE.out.told h; have := (Array.getElem?_eq_some_iff.1 ho).1; omega⟩)) .inl)
      have HB2 := Lib.hid (HB.out.below hbw)
      have HKV2 := Lib.hid (HKV.out.below hbw lk)
      have HBI2 := Lib.hid (HBI.out.below hbw HBI.out.lt)
      have hLB2 := HLB.out.below hbw lL
      have HC2 := Lib.hid hC
      have HMK2 : Hid (∀ D ∈ Ds, W'.heap[D]? = some (.deferred (some []))) := fun D hD => (hbw.block D (Array.getElem?_eq_some_iff.1 (HMK.out D hD)).1).trans (HMK.out D hD)
      have KF1 : Hid (KeepsFrom BL W W') := kf_off (M := M) (Y := fun _ => False) (Off.of_below hbw) hM.out (fun g _ h => h.elim)
      have p8' : W'.cell? ⟨b8, 0, none⟩ = some (.pointer (some ⟨S, 0, none⟩)) := HB2.out.x8.cell 0
      have pk' : W'.cell? ⟨kb, 0, none⟩ = some (.int .i64 k) := HKV2.out.cell 0
      have d0' : W'.cell? ⟨LB, 0, none⟩ = some (.int .i64 L0) := hLB2.cell 0
      have d1' : W'.cell? ⟨LB, 1, none⟩ = some (.int .i64 L1) := hLB2.cell 1
      have a0 : W'.cell? ⟨A, 0, none⟩ = some (.int .i64 y.a.c0) := hA.cell 0
      have a1 : W'.cell? ⟨A, 1, none⟩ = some (.int .i64 y.a.c1) := hA.cell 1
      have a2 : W'.cell? ⟨A, 2, none⟩ = some (.int .i64 y.a.c2) := hA.cell 2
      have a3 : W'.cell? ⟨A, 3, none⟩ = some (.int .i64 y.a.c3) := hA.cell 3
      have a4 : W'.cell? ⟨A, 4, none⟩ = some (.int .i64 y.a.c4) := hA.cell 4
      have a5 : W'.cell? ⟨A, 5, none⟩ = some (.int .i64 y.a.c5) := hA.cell 5
      have a6 : W'.cell? ⟨A, 6, none⟩ = some (.int .i64 y.b.c0) := hA.cell 6
      have a7 : W'.cell? ⟨A, 7, none⟩ = some (.int .i64 y.b.c1) := hA.cell 7
      have a8 : W'.cell? ⟨A, 8, none⟩ = some (.int .i64 y.b.c2) := hA.cell 8
      have a9 : W'.cell? ⟨A, 9, none⟩ = some (.int .i64 y.b.c3) := hA.cell 9
      have a10 : W'.cell? ⟨A, 10, none⟩ = some (.int .i64 y.b.c4) := hA.cell 10
      have a11 : W'.cell? ⟨A, 11, none⟩ = some (.int .i64 y.b.c5) := hA.cell 11
      have a12 : W'.cell? ⟨A, 12, none⟩ = some (.int .i64 y.w0) := hA.cell 12
      have a13 : W'.cell? ⟨A, 13, none⟩ = some (.int .i64 y.w1) := hA.cell 13
      have hyI : y.inI := DSt.inI_of (r := r) hr.out (by rw [← HY.out]; exact DSt.go_ok hr.out hsok.out hlate.out)
      have HYI := Lib.hid hyI
      clear hyI hLB2 hC hbw
      clear e0 e1 e2 e3 e4 p8 pk p1 d0 d1 r0 r1 r2 r3 r4 r5 r6 r7 r8 r9 r10 r11 r12 r13 l2 l8 lk lS lL
      have HNX : Hid (dNx r J s x.val = y) := by show dGo r s _ _ = y; rw [HL0.out, HL1.out]; exact HY.out
      have hQ4 : Q.2.length < 4800 := by
        have h1 := HG2.out
        have h2 := hk.out.2.2.1
        have h3 := hlen.out
        have h4 := hk.out.2.2.2
        rw [List.length_map] at h1
        have h5 : k * ((J + 1) * (J + 1)) + ((J + 1) * (J + 1)) ≤ 300 * ((J + 1) * (J + 1)) := by have := Nat.mul_le_mul_right ((J + 1) * (J + 1)) (show k + 1 ≤ 300 by omega); rw [Nat.add_mul, Nat.one_mul] at this; exact this
        have h6 : ((J + 1) * (J + 1)) ≤ 16 := by have := Nat.mul_le_mul (show J + 1 ≤ 4 by omega) (show J + 1 ≤ 4 by omega); omega
        omega
      have hq6 : ∀ j, 0 ≤ q j ∧ q j ≤ 100 := fun j => by rw [← HQ6.out]; exact (pass_law hr.out hsok.out).1 j
      have HQ4 := Lib.hid hQ4
      have HQB := Lib.hid hq6
      clear hQ4 hq6
      by_cases hmem : y ∈ Q.1.l
      · obtain ⟨n, hn⟩ : ∃ n, Hid (Q.1.l.idxOf y = n) := ⟨_, rfl⟩
        have hnl : Q.1.l[n]? = some y := by rw [← hn.out]; have hi := List.idxOf_lt_length_of_mem hmem; rw [List.getElem?_eq_getElem hi, List.getElem_idxOf]
        have HN3 : Hid (n < 300) := by show n < 300; have := get_lt hnl; omega
        have HST : Hid (pStep (dNx r J) 300 (dRow r) k x.val Q = some (Q.1, Q.2 ++ [(k, n, q)])) := by show pStep _ _ _ _ _ _ = _; unfold pStep; rw [HS.out]; dsimp only; rw [HNX.out, if_pos hmem, hn.out, HQ6.out]
        have HNL := Lib.hid hnl
        clear hnl hmem
        gi_wp2
        refine ⟨trivial, ?_⟩
        refine (CallsIn.inRound l (callsIn_wide.2 (find_hit M S M J v1 v2 v3 Q.1 y k L0 L1 _ HE2.out.spc HYI.out n HNL.out))).mono ?_
        rintro e W3 ⟨rfl, hm3⟩
        have hb3 := hm3.below
        clear hm3
        have HE3 := Lib.hid (HE2.out.below hT.out hb3)
        have HB3 := Lib.hid (HB2.out.below hb3)
        have HKV3 := Lib.hid (HKV2.out.below hb3 HKV2.out.lt)
        have HBI3 := Lib.hid (HBI2.out.below hb3 HBI2.out.lt)
        have HC3 := Lib.hid (HC2.out.below hb3 HC2.out.lt)
        have HMK3 : Hid (∀ D ∈ Ds, W3.heap[D]? = some (.deferred (some []))) := fun D hD => (hb3.block D (Array.getElem?_eq_some_iff.1 (HMK2.out D hD)).1).trans (HMK2.out D hD)
        have KF3 : Hid (KeepsFrom BL W W3) := kf_trans KF1.out (kf_off (M := M) (Y := fun _ => False) (Off.of_below hb3) hM.out (fun g _ h => h.elim))
        clear p8' pk' d0' d1' hb3 a0 a1 a2 a3 a4 a5 a6 a7 a8 a9 a10 a11 a12 a13
        have c3 : W3.cell? ⟨w.heap.size + 1, 0, none⟩ = some (.func (.func tf) #[] tb) := HB3.out.x3.cell 0
        have ck : W3.cell? ⟨kb, 0, none⟩ = some (.int .i64 k) := HKV3.out.cell 0
        have b0_ : W3.cell? ⟨C, 0, none⟩ = some (.int .i64 (q 0)) := HC3.out.cell 0
        have b1_ : W3.cell? ⟨C, 1, none⟩ = some (.int .i64 (q 1)) := HC3.out.cell 1
        have b2_ : W3.cell? ⟨C, 2, none⟩ = some (.int .i64 (q 2)) := HC3.out.cell 2
        have b3_ : W3.cell? ⟨C, 3, none⟩ = some (.int .i64 (q 3)) := HC3.out.cell 3
        have b4_ : W3.cell? ⟨C, 4, none⟩ = some (.int .i64 (q 4)) := HC3.out.cell 4
        have b5_ : W3.cell? ⟨C, 5, none⟩ = some (.int .i64 (q 5)) := HC3.out.cell 5
        have hent := hT.out.enters
        gi_wp2
        clear hent
        refine ⟨trivial, ?_⟩
        refine (CallsIn.inRound l (callsIn_wide.2 (hT.out.call _ X _ k (n) q HE3.out.told (by omega) HN3.out HQB.out HQ4.out))).mono ?_
        rintro e W4 ⟨rfl, X', hT4, hO4, hF4⟩
        have HE4 := HE3.out.tell hT.out hT4 hO4 hF4
        have HX3 : Hid (∀ g ∈ (C :: [BI, kb, w.heap.size, w.heap.size + 1, w.heap.size + 2, w.heap.size + 3, b8]), ¬ X g) := fun g hg hx => HE3.out.xb g hx hg
        gi_wp2
        refine ⟨?_, ?_, ?_⟩
        · exact kf_trans KF3.out (kf_off hO4 hM.out (fun g _ hx => .inr (hT.out.cells _ _ _ _ HE3.out.told hx)))
        · exact Eq.trans (HBI3.out.off hO4 (HX3.out _ (by simp))) HBI.out.symm
        · refine ⟨(Q.1, Q.2 ++ [(k, n, q)]), _, _, _, X', ?_, HE4.boxes hT.out _ (fun g hg => HE4.bb g (List.mem_cons_of_mem _ hg)) (fun g hg => .inl (List.mem_cons_of_mem _ hg)), ?_, HKV3.out.off hO4 (HX3.out _ (by simp)), HBI3.out.off hO4 (HX3.out _ (by simp)), ?_⟩
          · rw [List.map_append, List.map_singleton, pmany_snoc, HQ.out]
            exact HST.out
          · exact HB3.out.keep hO4 (HX3.out _ (by simp)) (HX3.out _ (by simp)) (HX3.out _ (by simp)) (HX3.out _ (by simp)) (HX3.out _ (by simp))
          · exact fun D hD => (hO4.block D (Array.getElem?_eq_some_iff.1 (HMK3.out D hD)).1 (fun hx => by obtain ⟨o, ho, hc⟩ := hT.out.cells _ _ _ _ HE3.out.told hx; rw [HMK3.out D hD] at ho; cases ho; cases hc)).trans (HMK3.out D hD)
      · by_cases hfull : Q.1.l.length = 300
        · have HST : Hid (pStep (dNx r J) 300 (dRow r) k x.val Q = none) := by show pStep _ _ _ _ _ _ = _; unfold pStep; rw [HS.out]; dsimp only; rw [HNX.out, if_neg hmem, if_pos hfull]
          have HMEM := Lib.hid hmem
          have HFULL := Lib.hid hfull
          clear hmem hfull
          gi_wp2
          refine ⟨trivial, ?_⟩
          refine (CallsIn.inRound l (callsIn_wide.2 (find_full M S M J v1 v2 v3 Q.1 y k L0 L1 _ HE2.out.spc HYI.out HMEM.out HFULL.out))).mono ?_
          rintro e W3 ⟨rfl, hm3⟩
          have hb3 := hm3.below
          clear hm3
          have HE3 := Lib.hid (HE2.out.below hT.out hb3)
          have hB3 := HB2.out.below hb3
          have HMK3 : Hid (∀ D ∈ Ds, W3.heap[D]? = some (.deferred (some []))) := fun D hD => (hb3.block D (Array.getElem?_eq_some_iff.1 (HMK2.out D hD)).1).trans (HMK2.out D hD)
          have KF3 : Hid (KeepsFrom BL W W3) := kf_trans KF1.out (kf_off (M := M) (Y := fun _ => False) (Off.of_below hb3) hM.out (fun g _ h => h.elim))
          clear p8' pk' d0' d1' hb3 a0 a1 a2 a3 a4 a5 a6 a7 a8 a9 a10 a11 a12 a13
          have c4 : W3.cell? ⟨w.heap.size + 2, 0, none⟩ = some (.pointer none) := hB3.x4.cell 0
          have c5 : W3.cell? ⟨w.heap.size + 3, 0, none⟩ = some (.int .i64 0) := hB3.x5.cell 0
          have g4 : W3.frozen? ⟨w.heap.size + 2, 0, none⟩ = false := hB3.x4.frozen 0
          have g5 : W3.frozen? ⟨w.heap.size + 3, 0, none⟩ = false := hB3.x5.frozen 0
          have l4 := hB3.x4.lt
          have l5 := hB3.x5.lt
          gi_wp2
          refine ⟨kf_trans KF3.out (kf_trans ((KeepsOthers.setCell _ _ _).from _) ((KeepsOthers.setCell _ _ _).from _)), rfl, ?_, ?_, ?_, ?_, ?_⟩
          · rw [List.map_append, List.map_singleton, pmany_snoc, HQ.out]
            exact HST.out
          · exact (HE3.out.off.setCell (p := ⟨w.heap.size + 2, 0, none⟩) (fun h => absurd h (by dsimp only; omega)) _).setCell (p := ⟨w.heap.size + 3, 0, none⟩) (fun h => absurd h (by dsimp only; omega)) _
          · have hh := (hB3.x4.put 0 (.pointer none)).far (p := ⟨w.heap.size + 3, 0, none⟩) (by simp only [ne_eq]; omega) (.int .i64 4)
            simpa only [List.setIfInBounds_toArray, List.set_cons_zero] using hh
          · have hh := (hB3.x5.far (p := ⟨w.heap.size + 2, 0, none⟩) (by simp only [ne_eq]; omega) (.pointer none)).put 0 (.int .i64 4)
            simpa only [List.setIfInBounds_toArray, List.set_cons_zero] using hh
          · intro D hD
            have h1 := HMK3.out D hD
            have n4 : D ≠ w.heap.size + 2 := fun e => by have h2 := hB3.x4; unfold Blk at h2; rw [e] at h1; rw [h1] at h2; cases h2
            have n5 : D ≠ w.heap.size + 3 := fun e => by have h2 := hB3.x5; unfold Blk at h2; rw [e] at h1; rw [h1] at h2; cases h2
            exact ((Below.heap_setCell _ ⟨w.heap.size + 3, 0, none⟩ _ D n5).trans (Below.heap_setCell _ ⟨w.heap.size + 2, 0, none⟩ _ D n4)).trans h1
        · have HST : Hid (pStep (dNx r J) 300 (dRow r) k x.val Q = some (⟨Q.1.l ++ [y], Q.1.pr ++ [((k : Int), x.val)]⟩, Q.2 ++ [(k, Q.1.l.length, q)])) := by show pStep _ _ _ _ _ _ = _; unfold pStep; rw [HS.out]; dsimp only; rw [HNX.out, if_neg hmem, if_neg hfull, HQ6.out]
          have HMEM := Lib.hid hmem
          have HN3 : Hid (Q.1.l.length < 300) := by show _ < 300; omega
          have HG3 := Lib.hid (gi_step hr.out hJ.out x.2 HG1.out HST.out hkl).1
          clear hmem hfull
          gi_wp2
          refine ⟨trivial, ?_⟩
          refine (CallsIn.inRound l (callsIn_wide.2 (find_new M S M J v1 v2 v3 Q.1 y k L0 L1 _ HE2.out.spc HYI.out HMEM.out HN3.out HG1.out.len (fun z hz => DSt.inI_of hr.out (HG1.out.ok z hz)) x.val HL0.out.symm HL1.out.symm))).mono ?_
          rintro e W3 ⟨rfl, y1, y2, y3, hs3, ho3, hf3⟩
          have HE3 := Lib.hid (HE2.out.found hT.out hs3 ho3 hf3 HG3.out)
          have HO2 : Hid (∀ g ∈ (C :: [BI, kb, w.heap.size, w.heap.size + 1, w.heap.size + 2, w.heap.size + 3, b8]), ¬ SOwn S M v1 v2 v3 g) := fun g hg h => (HE2.out.sx g h).2 hg
          have HB3 := Lib.hid (HB2.out.keep ho3 (HO2.out _ (by simp)) (HO2.out _ (by simp)) (HO2.out _ (by simp)) (HO2.out _ (by simp)) (HO2.out _ (by simp)))
          have HKV3 := Lib.hid (HKV2.out.off ho3 (HO2.out _ (by simp)))
          have HBI3 := Lib.hid (HBI2.out.off ho3 (HO2.out _ (by simp)))
          have HC3 := Lib.hid (HC2.out.off ho3 (HO2.out _ (by simp)))
          have HMK3 : Hid (∀ D ∈ Ds, W3.heap[D]? = some (.deferred (some []))) := fun D hD => (ho3.block D (Array.getElem?_eq_some_iff.1 (HMK2.out D hD)).1 (fun h => mark_own HE2.out.spc h (HMK2.out D hD))).trans (HMK2.out D hD)
          have KF3 : Hid (KeepsFrom BL W W3) := kf_trans KF1.out (kf_off ho3 hM.out (fun g _ h => HE2.out.spc.cells h))
          clear p8' pk' d0' d1' hs3 ho3 hf3 a0 a1 a2 a3 a4 a5 a6 a7 a8 a9 a10 a11 a12 a13
          have c3 : W3.cell? ⟨w.heap.size + 1, 0, none⟩ = some (.func (.func tf) #[] tb) := HB3.out.x3.cell 0
          have ck : W3.cell? ⟨kb, 0, none⟩ = some (.int .i64 k) := HKV3.out.cell 0
          have b0_ : W3.cell? ⟨C, 0, none⟩ = some (.int .i64 (q 0)) := HC3.out.cell 0
          have b1_ : W3.cell? ⟨C, 1, none⟩ = some (.int .i64 (q 1)) := HC3.out.cell 1
          have b2_ : W3.cell? ⟨C, 2, none⟩ = some (.int .i64 (q 2)) := HC3.out.cell 2
          have b3_ : W3.cell? ⟨C, 3, none⟩ = some (.int .i64 (q 3)) := HC3.out.cell 3
          have b4_ : W3.cell? ⟨C, 4, none⟩ = some (.int .i64 (q 4)) := HC3.out.cell 4
          have b5_ : W3.cell? ⟨C, 5, none⟩ = some (.int .i64 (q 5)) := HC3.out.cell 5
          have hent := hT.out.enters
          gi_wp2
          clear hent
          refine ⟨trivial, ?_⟩
          refine (CallsIn.inRound l (callsIn_wide.2 (hT.out.call _ X _ k (Q.1.l.length) q HE3.out.told (by omega) HN3.out HQB.out HQ4.out))).mono ?_
          rintro e W4 ⟨rfl, X', hT4, hO4, hF4⟩
          have HE4 := HE3.out.tell hT.out hT4 hO4 hF4
          have HX3 : Hid (∀ g ∈ (C :: [BI, kb, w.heap.size, w.heap.size + 1, w.heap.size + 2, w.heap.size + 3, b8]), ¬ X g) := fun g hg hx => HE3.out.xb g hx hg
          gi_wp2
          refine ⟨?_, ?_, ?_⟩
          · exact kf_trans KF3.out (kf_off hO4 hM.out (fun g _ hx => .inr (hT.out.cells _ _ _ _ HE3.out.told hx)))
          · exact Eq.trans (HBI3.out.off hO4 (HX3.out _ (by simp))) HBI.out.symm
          · refine ⟨(⟨Q.1.l ++ [y], Q.1.pr ++ [((k : Int), x.val)]⟩, Q.2 ++ [(k, Q.1.l.length, q)]), _, _, _, X', ?_, HE4.boxes hT.out _ (fun g hg => HE4.bb g (List.mem_cons_of_mem _ hg)) (fun g hg => .inl (List.mem_cons_of_mem _ hg)), ?_, HKV3.out.off hO4 (HX3.out _ (by simp)), HBI3.out.off hO4 (HX3.out _ (by simp)), ?_⟩
            · rw [List.map_append, List.map_singleton, pmany_snoc, HQ.out]
              exact HST.out
            · exact HB3.out.keep hO4 (HX3.out _ (by simp)) (HX3.out _ (by simp)) (HX3.out _ (by simp)) (HX3.out _ (by simp)) (HX3.out _ (by simp))
            · exact fun D hD => (hO4.block D (Array.getElem?_eq_some_iff.1 (HMK3.out D hD)).1 (fun hx => by obtain ⟨o, ho, hc⟩ := hT.out.cells _ _ _ _ HE3.out.told hx; rw [HMK3.out D hD] at ho; cases ho; cases hc)).trans (HMK3.out D hD)
    | _ => exact h.elim
end Go.Proofs.YtgmljgcmfooniaaGreatDoor
