/- A map that holds states' numbers. Conditions: none. -/
import Derived.Test.YtgmljgcmfooniaaGreatDoorStEq
import Derived.Test.YtgmljgcmfooniaaGreatDoorStLaw
import Derived.Test.YtgmljgcmfooniaaGreatDoorDuelT
import Derived.Maps.OwnSet
import Derived.Maps.Own
import Derived.Maps.Views
set_option linter.unusedVariables false
set_option linter.unusedSimpArgs false
namespace Go.Proofs.YtgmljgcmfooniaaGreatDoor
open Go.RowKit Go.Tide
set_option linter.unusedVariables false
set_option linter.unusedSimpArgs false
instance : DecidableEq Ctl := fun a b => decidable_of_iff (a.c0 = b.c0 ∧ a.c1 = b.c1 ∧ a.c2 = b.c2 ∧ a.c3 = b.c3 ∧ a.c4 = b.c4 ∧ a.c5 = b.c5) (by cases a; cases b; simp)
instance : DecidableEq DSt := fun a b => decidable_of_iff (a.a = b.a ∧ a.b = b.b ∧ a.w0 = b.w0 ∧ a.w1 = b.w1) (by cases a; cases b; simp)
def Ctl.inI (c : Ctl) : Prop := InI64 c.c0 ∧ InI64 c.c1 ∧ InI64 c.c2 ∧ InI64 c.c3 ∧ InI64 c.c4 ∧ InI64 c.c5
def DSt.inI (s : DSt) : Prop := s.a.inI ∧ s.b.inI ∧ InI64 s.w0 ∧ InI64 s.w1
theorem Ctl.inI_of {k : Int} {c : Ctl} (hk : dKind k) (h : c.right k) : c.inI := by
  unfold Ctl.right CR at h
  unfold Ctl.inI InI64
  rcases hk with rfl | rfl | rfl
  · rw [if_pos rfl] at h
    have := of_decide_eq_true h
    omega
  · rw [if_neg (by omega), if_pos rfl] at h
    have := of_decide_eq_true h
    omega
  · rw [if_neg (by omega), if_neg (by omega)] at h
    have := of_decide_eq_true h
    omega
theorem DSt.inI_of {r : DRules} {s : DSt} (hr : r.ok) (h : s.ok r) : s.inI := by
  have hn := hr.2.2
  obtain ⟨n1, n2, n3, n4, n5, n6⟩ := hn
  have hw := h.2.2
  refine ⟨Ctl.inI_of hr.1 h.1, Ctl.inI_of hr.2.1 h.2.1, ?_, ?_⟩ <;> unfold InI64 <;> omega
def stKey (s : DSt) : Lit := .string (keyBytes [.int .i64 s.a.c0, .int .i64 s.a.c1, .int .i64 s.a.c2, .int .i64 s.a.c3, .int .i64 s.a.c4, .int .i64 s.a.c5, .int .i64 s.b.c0, .int .i64 s.b.c1, .int .i64 s.b.c2, .int .i64 s.b.c3, .int .i64 s.b.c4, .int .i64 s.b.c5, .int .i64 s.w0, .int .i64 s.w1])
theorem st_key (s : DSt) (h : s.inI) : keyOf Tryz.prog 44 (.agg #[.int .i64 s.a.c0, .int .i64 s.a.c1, .int .i64 s.a.c2, .int .i64 s.a.c3, .int .i64 s.a.c4, .int .i64 s.a.c5, .int .i64 s.b.c0, .int .i64 s.b.c1, .int .i64 s.b.c2, .int .i64 s.b.c3, .int .i64 s.b.c4, .int .i64 s.b.c5, .int .i64 s.w0, .int .i64 s.w1]) = some (stKey s) := by
  obtain ⟨⟨h0, h1, h2, h3, h4, h5⟩, ⟨g0, g1, g2, g3, g4, g5⟩, hx, hy⟩ := h
  exact key_state _ _ _ _ _ _ _ _ _ _ _ _ _ _ h0 h1 h2 h3 h4 h5 g0 g1 g2 g3 g4 g5 hx hy
theorem key_inj {s y : DSt} (hs : s.inI) (hy : y.inI) (h : stKey s = stKey y) : s = y := by
  have h1 := st_key s hs
  rw [h] at h1
  have h2 := keyOf_inj_deep (P := Tryz.prog) (m := Tryz.prog.types.size + 1) (tiled_of_laidOut (by kernel_rfl) _ _ (by kernel_rfl) (by kernel_rfl)) (by kernel_rfl) h1 (st_key y hy)
  obtain ⟨⟨a0, a1, a2, a3, a4, a5⟩, ⟨b0, b1, b2, b3, b4, b5⟩, x0, x1⟩ := s
  obtain ⟨⟨c0, c1, c2, c3, c4, c5⟩, ⟨d0, d1, d2, d3, d4, d5⟩, y0, y1⟩ := y
  simp at h2
  simp
  omega
theorem key_is (s : DSt) : WideAt.IsKeyLit (stKey s) := by simp [stKey, WideAt.IsKeyLit]
def SMap (w : World) (M : Nat) (l : List DSt) : Prop := ∃ D : DataW Unit, w.ownsMap Tryz.prog 44 (plainElem Tryz.prog 3) M l.length D ∧ (∀ s : DSt, s.inI → Maps.has D (stKey s) = decide (s ∈ l)) ∧ ∀ (n : Nat) (s : DSt), l[n]? = some s → D.atKey (stKey s) (.lit (.int .i64 0)) = .lit (.int .i64 n)
theorem zero_int (w : World) : (zeroValue 3).run Tryz.prog w = .ok (.int .i64 0) w := by kernel_rfl
section
variable {w w' : World} {M : Nat} {l : List DSt}
theorem SMap.kept {row : Option Nat} (h : SMap w M l) (hg : w.grownBy w' row) (hne : some M ≠ row) : SMap w' M l := by
  obtain ⟨D, h1, h2⟩ := h
  exact ⟨D, h1.kept hg hne, h2⟩
theorem SMap.alloc (h : SMap w M l) (o : Obj) : SMap (w.alloc o) M l := by
  obtain ⟨D, h1, h2⟩ := h
  exact ⟨D, h1.alloc o, h2⟩
theorem SMap.lt (h : SMap w M l) : M < w.heap.size := by
  obtain ⟨D, h1, h2⟩ := h
  exact h1.lt
set_option maxRecDepth 20000 in
theorem SMap.made (w : World) : SMap (w.alloc (.map #[] 0)) w.heap.size [] :=
  ⟨.map [], World.ownsMap_made _ _ _ _, fun s _ => by simp [Maps.has], fun n s h => by simp at h⟩
set_option maxRecDepth 20000 in
theorem SMap.hit {s : DSt} {n : Nat} (h : SMap w M l) (hs : s.inI) (hn : l[n]? = some s) : (Instr.lookup 118 (.map (some M)) (.agg #[.int .i64 s.a.c0, .int .i64 s.a.c1, .int .i64 s.a.c2, .int .i64 s.a.c3, .int .i64 s.a.c4, .int .i64 s.a.c5, .int .i64 s.b.c0, .int .i64 s.b.c1, .int .i64 s.b.c2, .int .i64 s.b.c3, .int .i64 s.b.c4, .int .i64 s.b.c5, .int .i64 s.w0, .int .i64 s.w1]) true).run Tryz.prog w = .ok (.tuple #[.int .i64 n, .bool true]) w := by
  obtain ⟨D, h1, h2, h3⟩ := h
  obtain ⟨v, ps, hr, hv⟩ := h1.look_ok state_law Tryz.underlying118 (zero_int w) (zd := .lit (.int .i64 0)) (zp := []) (plainElem_int Tryz.underlying3 (by decide)) (st_key s hs)
  rw [h3 n s hn] at hv
  rw [h2 s hs, decide_eq_true (List.mem_of_getElem? hn)] at hr
  obtain ⟨a, rfl, hz, _⟩ := plainElem_int_inv Tryz.underlying3 hv
  injection hz with hz _
  injection hz with hz
  injection hz with _ hz
  subst hz
  exact hr
theorem atKey_none {H : Type} {D : DataW H} {k : Lit} (h : Maps.has D k = false) (z : DataW H) : D.atKey k z = z := by
  cases D <;> try rfl
  rename_i es
  show (match es.find? (fun p => p.1.sameKey k) with | some p => p.2 | none => z) = z
  rw [List.find?_eq_none.2]
  intro p hp hk
  have h1 : es.any (fun p => p.1.sameKey k) = false := h
  rw [List.any_eq_false] at h1
  exact h1 p hp hk
set_option maxRecDepth 20000 in
theorem SMap.miss {s : DSt} (h : SMap w M l) (hs : s.inI) (hn : s ∉ l) : (Instr.lookup 118 (.map (some M)) (.agg #[.int .i64 s.a.c0, .int .i64 s.a.c1, .int .i64 s.a.c2, .int .i64 s.a.c3, .int .i64 s.a.c4, .int .i64 s.a.c5, .int .i64 s.b.c0, .int .i64 s.b.c1, .int .i64 s.b.c2, .int .i64 s.b.c3, .int .i64 s.b.c4, .int .i64 s.b.c5, .int .i64 s.w0, .int .i64 s.w1]) true).run Tryz.prog w = .ok (.tuple #[.int .i64 0, .bool false]) w := by
  obtain ⟨D, h1, h2, h3⟩ := h
  obtain ⟨v, ps, hr, hv⟩ := h1.look_ok state_law Tryz.underlying118 (zero_int w) (zd := .lit (.int .i64 0)) (zp := []) (plainElem_int Tryz.underlying3 (by decide)) (st_key s hs)
  have hh := h2 s hs
  rw [decide_eq_false hn] at hh
  rw [atKey_none hh] at hv
  rw [hh] at hr
  obtain ⟨a, rfl, hz, _⟩ := plainElem_int_inv Tryz.underlying3 hv
  injection hz with hz _
  injection hz with hz
  injection hz with _ hz
  subst hz
  exact hr
end
set_option maxRecDepth 20000 in
/-- A state that is not there yet is put there, by how many there are. -/
theorem SMap.put {w : World} {M : Nat} {l : List DSt} (h : SMap w M l) (y : DSt) (hin : ∀ s ∈ l, s.inI) (hy : y.inI) (hn : y ∉ l) (hl : l.length ≤ 1048576) :
    ∃ w', (Instr.mapUpdate 118 (.map (some M)) (.agg #[.int .i64 y.a.c0, .int .i64 y.a.c1, .int .i64 y.a.c2, .int .i64 y.a.c3, .int .i64 y.a.c4, .int .i64 y.a.c5, .int .i64 y.b.c0, .int .i64 y.b.c1, .int .i64 y.b.c2, .int .i64 y.b.c3, .int .i64 y.b.c4, .int .i64 y.b.c5, .int .i64 y.w0, .int .i64 y.w1]) (.int .i64 (l.length : Nat))).run Tryz.prog w = .ok () w' ∧ SMap w' M (l ++ [y]) ∧ w.grownBy w' (some M) := by
  obtain ⟨D, h1, h2, h3⟩ := h
  obtain ⟨w', hr, hw, hgr⟩ := h1.update state_law Tryz.underlying118 (by unfold maxLen; omega) (st_key y hy) (plainElem_int (H := Unit) Tryz.underlying3 (WalkArith.wf_i64 (n := ((l.length : Nat) : Int)) (by omega)))
  refine ⟨w', hr, ⟨_, by rw [List.length_append]; exact hw, fun s hs => ?_, fun n s hs => ?_⟩, hgr⟩
  · by_cases e : s = y
    · subst e
      rw [Maps.has_put_same (h1.isMap) (key_is _)]
      simp
    · rw [Maps.has_put_other (fun hk => e (key_inj hs hy hk)), h2 s hs]
      simp [e]
  · rcases snoc_some hs with ⟨c, d⟩ | ⟨c, d⟩
    · rw [Maps.atKey_put_other (fun hk => hn (by rw [← key_inj (hin s (List.mem_of_getElem? d)) hy hk]; exact List.mem_of_getElem? d))]
      exact h3 n s d
    · subst c d
      exact Maps.atKey_put_same (h1.isMap) (key_is _) _ _
end Go.Proofs.YtgmljgcmfooniaaGreatDoor
