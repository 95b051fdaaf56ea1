/- walker.visit: along tight edges. Conditions: numbers that fit. -/
import Derived.Test.YtnbjcohkkaijaaaVisLaw
import Derived.Test.YtnbjcohkkaijaaaMeG
import Derived.Test.YtnbjcohkkaijaaaRev
import Derived.Test.YtnbjcohkkaijaaaPotC
import Derived.Deep.OwnRows
set_option linter.unusedVariables false
set_option linter.unusedSimpArgs false
namespace Go.Proofs.Ytnbjcohkkaijaaa
open Go.RowKit Go.Tide
set_option linter.unusedVariables false
set_option linter.unusedSimpArgs false

/-- A walker lies at W, its rows at gh, gb, gs, its edges apart from what it writes. -/
structure Wkr (w : World) (W gh gb gs N : Nat) (ea : Option Addr) (n ec : Nat) (f : Nat → Nat → Int) (h : Nat → Int) (s : VSt) : Prop where
  head : Blk w W 49 #[.slice (some ⟨gh, 0, none⟩) N N, .slice ea n ec, .slice (some ⟨gb, 0, none⟩) N N, .slice (some ⟨gs, 0, none⟩) N N]
  high : Blk w gh 3 (cellsOf N h).toArray
  by_ : Blk w gb 3 (cellsOf N s.B).toArray
  state : Blk w gs 3 (cellsOf N s.S).toArray
  edges : RowC w 3 ea n f
  ne : W ≠ gb ∧ W ≠ gs ∧ gh ≠ gb ∧ gh ≠ gs ∧ gb ≠ gs
  apart : ∀ p : Addr, ea = some p → p.block ≠ gb ∧ p.block ≠ gs
section
variable {w w' : World} {W gh gb gs N : Nat} {ea : Option Addr} {n ec : Nat} {f : Nat → Nat → Int} {h : Nat → Int} {s : VSt}
theorem Wkr.keep (k : Wkr w W gh gb gs N ea n ec f h s) (o : Off (fun _ => False) w w') : Wkr w' W gh gb gs N ea n ec f h s :=
  ⟨k.head.off o id, k.high.off o id, k.by_.off o id, k.state.off o id, rowC_off k.edges o (fun _ _ => id), k.ne, k.apart⟩
theorem Wkr.alloc (k : Wkr w W gh gb gs N ea n ec f h s) (o : Obj) : Wkr (w.alloc o) W gh gb gs N ea n ec f h s := k.keep ((Off.refl _ _).alloc o)
theorem Wkr.drew (k : Wkr w W gh gb gs N ea n ec f h s) : Wkr w.drew W gh gb gs N ea n ec f h s := k.keep (Off.refl _ _).drew
theorem Wkr.drewN (k : Wkr w W gh gb gs N ea n ec f h s) (q : Nat) : Wkr (w.drewN q) W gh gb gs N ea n ec f h s := k.keep ((Off.refl _ _).drewN q)
theorem Wkr.setBy (k : Wkr w W gh gb gs N ea n ec f h s) (j : Nat) (x : Int) : Wkr (w.setCell ⟨gb, j, none⟩ (.int .i64 x)) W gh gb gs N ea n ec f h ⟨putAt s.B j x, s.S⟩ :=
  ⟨k.head.far k.ne.1 _, k.high.far k.ne.2.2.1 _, by have := k.by_.put j (.int .i64 x); rwa [cells_puts] at this, k.state.far (Ne.symm k.ne.2.2.2.2) _, rowC_off k.edges ((Off.refl (fun g => g = gb) w).setCell (p := ⟨gb, j, none⟩) (fun _ => rfl) _) (fun p hp e => (k.apart p hp).1 e), k.ne, k.apart⟩
theorem Wkr.setSt (k : Wkr w W gh gb gs N ea n ec f h s) (j : Nat) (x : Int) : Wkr (w.setCell ⟨gs, j, none⟩ (.int .i64 x)) W gh gb gs N ea n ec f h ⟨s.B, putAt s.S j x⟩ :=
  ⟨k.head.far k.ne.2.1 _, k.high.far k.ne.2.2.2.1 _, k.by_.far k.ne.2.2.2.2 _, by have := k.state.put j (.int .i64 x); rwa [cells_puts] at this, rowC_off k.edges ((Off.refl (fun g => g = gs) w).setCell (p := ⟨gs, j, none⟩) (fun _ => rfl) _) (fun p hp e => (k.apart p hp).2 e), k.ne, k.apart⟩
end
theorem visLoop_step {rec : Nat → VSt → VSt × List Nat} {f : Nat → Nat → Int} {h : Nat → Int} {N v n k : Nat} {s : VSt} (hk : k < n) : visLoop rec f h N v (n - k) k s =
    if f k 0 = (v : Int) ∧ h (f k 1).toNat = h v + f k 2 then
      if s.S (f k 1).toNat = 1 then (s, (k :: backL f s.B (f k 1).toNat N v).reverse)
      else if s.S (f k 1).toNat = 0 then
        if (rec (f k 1).toNat ⟨putAt s.B (f k 1).toNat k, s.S⟩).2 = [] then visLoop rec f h N v (n - (k + 1)) (k + 1) (rec (f k 1).toNat ⟨putAt s.B (f k 1).toNat k, s.S⟩).1
        else rec (f k 1).toNat ⟨putAt s.B (f k 1).toNat k, s.S⟩
      else visLoop rec f h N v (n - (k + 1)) (k + 1) s
    else visLoop rec f h N v (n - (k + 1)) (k + 1) s := by
  rw [show n - k = (n - (k + 1)) + 1 by omega, visLoop]
/-- Edges' numbers as cells. -/
def outL (l : List Nat) : List Value := l.map fun e => .int .i64 (e : Nat)
theorem outL_get (l : List Nat) {j : Nat} (hj : j < l.length) : (outL l)[j]? = some (.int .i64 ((l.getD j 0 : Nat) : Int)) := by
  unfold outL
  rw [List.getElem?_map, List.getElem?_eq_getElem hj, getD_at l hj]
  rfl
theorem getD_rev (l : List Nat) {j : Nat} (hj : j < l.length) : l.reverse.getD j 0 = l.getD (l.length - 1 - j) 0 := by
  rw [getD_at _ (by simpa using hj), getD_at _ (by omega), List.getElem_reverse]
/-- What a visit returns, and leaves. -/
def VEnd (w : World) (W gh gb gs N : Nat) (ea : Option Addr) (n ec : Nat) (f : Nat → Nat → Int) (h : Nat → Int) (r : VSt × List Nat) (e : Ending) (w' : World) : Prop :=
  ∃ ao co, e = .returned (.slice ao r.2.length co) ∧ Row w' ao r.2.length (fun i => ((r.2.getD i 0 : Nat) : Int)) ∧ Off (fun g => g = gb ∨ g = gs) w w' ∧ (r.2 = [] → Wkr w' W gh gb gs N ea n ec f h r.1)
theorem vend_nil {w w' : World} {W gh gb gs N : Nat} {ea : Option Addr} {n ec : Nat} {f : Nat → Nat → Int} {h : Nat → Int} {s : VSt} (ho : Off (fun g => g = gb ∨ g = gs) w w') (hk : Wkr w' W gh gb gs N ea n ec f h s) : VEnd w W gh gb gs N ea n ec f h (s, []) (.returned (.slice none 0 0)) w' :=
  ⟨none, 0, rfl, Row.nil, ho, fun _ => hk⟩

set_option maxRecDepth 20000 in
set_option maxHeartbeats 4000000 in
theorem visit_two (W gh gb gs N : Nat) (ea : Option Addr) (n ec : Nat) (f : Nat → Nat → Int) (h : Nat → Int) (v : Nat) (s : VSt) (w : World) (hv : v < N) (hN : N ≤ 300) (h2 : s.S v = 2) (hk : Wkr w W gh gb gs N ea n ec f h s) :
    Calls Try.prog 17 #[.pointer (some ⟨W, 0, none⟩), .int .i64 v] w fun e w' => VEnd w W gh gb gs N ea n ec f h (s, []) e w' := by
  have HK := Lib.hid hk
  have cW : w.cell? ⟨W, 3, none⟩ = some (.slice (some ⟨gs, 0, none⟩) N N) := hk.head.cell 3
  have cs : w.cell? ⟨gs, v, none⟩ = some (.int .i64 2) := by have := blkAt hk.state hv; rwa [h2] at this
  have t1 : (v : Int) < (N : Int) := by omega
  have t2 : (0 : Int) ≤ (v : Int) := by omega
  have lW := hk.head.lt
  have lS := hk.state.lt
  clear hk
  go_enter Try.func17, Try.ntmps17
  go_wp2
  go_ret
  exact vend_nil (Off.refl _ _) HK.out
set_option maxRecDepth 20000 in
set_option maxHeartbeats 8000000 in
theorem visit_any (W gh gb gs N : Nat) (ea : Option Addr) (n ec : Nat) (f : Nat → Nat → Int) (h : Nat → Int) (hG : GN N n f) (hN : N ≤ 300) (hn : n ≤ 4800) (hh : ∀ u, u < N → 0 ≤ h u ∧ h u ≤ 4000000000000000) (hf2 : ∀ k, k < n → -1073741824 ≤ f k 2 ∧ f k 2 ≤ 1073741824) :
    ∀ (F v : Nat) (s : VSt) (p : List Nat) (w : World), VI f h n N s p → v < N → s.S v ≠ 1 → zer s.S N ≤ F → (∀ b l, p = b :: l → s.S v = 0 → Link f h n s.B v b) → Wkr w W gh gb gs N ea n ec f h s →
    Calls Try.prog 17 #[.pointer (some ⟨W, 0, none⟩), .int .i64 v] w fun e w' => VEnd w W gh gb gs N ea n ec f h (vis f h n N F v s) e w' := by
  have HG := Lib.hid hG
  have HH := Lib.hid hh
  have HF := Lib.hid hf2
  clear hG hh hf2
  intro F
  induction F with
  | zero =>
    intro v s p w hi hv h1 hz hl hk
    have h2 : s.S v = 2 := by
      rcases hi.vals v hv with h | h | h
      · have := zer_pos N hv h; omega
      · exact absurd h h1
      · exact h
    exact visit_two W gh gb gs N ea n ec f h v s w hv hN h2 hk
  | succ F ih =>
    intro v s p w hi hv h1 hz hl hk
    have IH := Lib.hid ih
    clear ih
    by_cases h2 : s.S v = 2
    · have hr : vis f h n N (F + 1) v s = (s, []) := by rw [vis, if_pos h2]
      rw [hr]
      exact visit_two W gh gb gs N ea n ec f h v s w hv hN h2 hk
    have h0 : s.S v = 0 := by
      rcases hi.vals v hv with h | h | h
      · exact h
      · exact absurd h h1
      · exact absurd h h2
    have HI1 := Lib.hid (hi.push hv h0 hl)
    have hz1 : zer (putAt s.S v 1) N < zer s.S N := zer_lt N (fun q _ hq => by
      by_cases e : q = v
      · subst e; exact h0
      · rwa [putAt_ne _ _ e] at hq) hv h0 (by rw [putAt_same]; decide)
    obtain ⟨R, hR⟩ : ∃ R, Hid (vis f h n N (F + 1) v s = R) := ⟨_, rfl⟩
    have HR : Hid (visLoop (vis f h n N F) f h N v n 0 ⟨s.B, putAt s.S v 1⟩ = R) := by
      show _ = _
      rw [← hR.out, vis, if_neg h2]
    rw [hR.out]
    have HZ1 : Hid (zer (putAt s.S v 1) N ≤ F) := by show _ ≤ _; omega
    have HK1 := Lib.hid (hk.setSt v 1)
    have cW : w.cell? ⟨W, 3, none⟩ = some (.slice (some ⟨gs, 0, none⟩) N N) := hk.head.cell 3
    have cs : w.cell? ⟨gs, v, none⟩ = some (.int .i64 0) := by have := blkAt hk.state hv; rwa [h0] at this
    have fs : w.frozen? ⟨gs, v, none⟩ = false := hk.state.frozen v
    have t1 : (v : Int) < (N : Int) := by omega
    have t2 : (0 : Int) ≤ (v : Int) := by omega
    have lW := hk.head.lt
    have lS := hk.state.lt
    clear hi h1 hz hl hk h2 h0 hz1 hR
    go_enter Try.func17, Try.ntmps17
    go_upto_region 4 with fail
    have hO1 : Off (fun g => g = gb ∨ g = gs) w (w.setCell ⟨gs, v, none⟩ (.int .i64 1)) := (Off.refl _ _).setCell (p := ⟨gs, v, none⟩) (fun _ => .inr rfl) _
    have HO1 := Lib.hid hO1
    clear hO1 cW cs fs lW lS
    generalize w.setCell ⟨gs, v, none⟩ (.int .i64 1) = w1 at *
    have cW1 : w1.cell? ⟨W, 1, none⟩ = some (.slice ea n ec) := HK1.out.head.cell 1
    have lW1 := HK1.out.head.lt
    go_wp2_with fail
    clear cW1 lW1
    go_loopw [29] (fun i wr => ∃ (k : Nat) (s' : VSt), i = .int .i64 k ∧ k ≤ n ∧ Hid (visLoop (vis f h n N F) f h N v (n - k) k s' = R) ∧ Hid (VI f h n N s' (v :: p)) ∧ Hid (zer s'.S N ≤ F) ∧ Hid (Wkr wr W gh gb gs N ea n ec f h s') ∧ Hid (Off (fun g => g = gb ∨ g = gs) w wr)) (fun i _ => n - (intOf i).toNat)
    case atStart => exact ⟨0, ⟨s.B, putAt s.S v 1⟩, rfl, Nat.zero_le _, HR, HI1, HZ1, HK1, HO1⟩
    case round =>
      clear HR HI1 HZ1 HK1 HO1
      obtain ⟨k, s', rfl, hkn, HR, HI, HZ, HK, HO⟩ := hrel
      by_cases hlt : k < n
      · have t3 : (k : Int) < (n : Int) := by omega
        have HS := Lib.hid (visLoop_step (rec := vis f h n N F) (f := f) (h := h) (N := N) (v := v) (s := s') hlt)
        obtain ⟨b, off, x, y, z, hea, hb, hcx, hcy, hcz, hx, hy, hz⟩ := HK.out.edges.at3 hlt
        have hap := HK.out.apart ⟨b, off, none⟩ hea
        subst hea
        have hff := HG.out k hlt
        have hfz := HF.out k hlt
        rw [← hx.out, ← hy.out] at hff
        rw [← hz.out] at hfz
        obtain ⟨⟨f1, f2⟩, f3, f4⟩ := hff
        obtain ⟨X, rfl⟩ : ∃ X : Nat, x = X := ⟨x.toNat, by omega⟩
        obtain ⟨Y, rfl⟩ : ∃ Y : Nat, y = Y := ⟨y.toNat, by omega⟩
        have hX : X < N := by omega
        have hY : Y < N := by omega
        have HS2 : Hid (R = if X = v ∧ h Y = h v + z then
            if s'.S Y = 1 then (s', (k :: backL f s'.B Y N v).reverse)
            else if s'.S Y = 0 then
              if (vis f h n N F Y ⟨putAt s'.B Y k, s'.S⟩).2 = [] then visLoop (vis f h n N F) f h N v (n - (k + 1)) (k + 1) (vis f h n N F Y ⟨putAt s'.B Y k, s'.S⟩).1
              else vis f h n N F Y ⟨putAt s'.B Y k, s'.S⟩
            else visLoop (vis f h n N F) f h N v (n - (k + 1)) (k + 1) s'
          else visLoop (vis f h n N F) f h N v (n - (k + 1)) (k + 1) s') := by
          show R = _
          rw [← HR.out, HS.out, ← hx.out, ← hy.out, ← hz.out, Int.toNat_natCast]
          simp only [Int.natCast_inj]
        go_upto_region 7 with fail
        have HK2 := Lib.hid (HK.out.alloc (.cells #[.int .i64 X, .int .i64 Y, .int .i64 z] 32))
        have HO2 := Lib.hid (HO.out.alloc (.cells #[.int .i64 X, .int .i64 Y, .int .i64 z] 32))
        have hE : Blk (wr.alloc (.cells #[.int .i64 X, .int .i64 Y, .int .i64 z] 32)) wr.heap.size 32 #[.int .i64 X, .int .i64 Y, .int .i64 z] := Blk.new _ _ _
        have hgt : Hid (gb < wr.heap.size ∧ gs < wr.heap.size) := ⟨HK.out.by_.lt, HK.out.state.lt⟩
        clear hcx hcy hcz HK HO
        generalize wr.alloc (.cells #[.int .i64 X, .int .i64 Y, .int .i64 z] 32) = we at *
        generalize wr.heap.size = E at *
        have e0 : we.cell? ⟨E, 0, none⟩ = some (.int .i64 X) := hE.cell 0
        have e1 : we.cell? ⟨E, 1, none⟩ = some (.int .i64 Y) := hE.cell 1
        have e2 : we.cell? ⟨E, 2, none⟩ = some (.int .i64 z) := hE.cell 2
        have lE := hE.lt
        have cW0 : we.cell? ⟨W, 0, none⟩ = some (.slice (some ⟨gh, 0, none⟩) N N) := HK2.out.head.cell 0
        have cW2 : we.cell? ⟨W, 2, none⟩ = some (.slice (some ⟨gb, 0, none⟩) N N) := HK2.out.head.cell 2
        have cW3 : we.cell? ⟨W, 3, none⟩ = some (.slice (some ⟨gs, 0, none⟩) N N) := HK2.out.head.cell 3
        have lW := HK2.out.head.lt
        have lH := HK2.out.high.lt
        have lS := HK2.out.state.lt
        have lB := HK2.out.by_.lt
        have h1 := HH.out v hv
        have h2 := HH.out Y hY
        have ch : we.cell? ⟨gh, v, none⟩ = some (.int .i64 (h v)) := blkAt HK2.out.high hv
        have ch2 : we.cell? ⟨gh, Y, none⟩ = some (.int .i64 (h Y)) := blkAt HK2.out.high hY
        have cs : we.cell? ⟨gs, Y, none⟩ = some (.int .i64 (s'.S Y)) := blkAt HK2.out.state hY
        obtain ⟨hv1, hhv⟩ : ∃ a, Hid (h v = a) := ⟨_, rfl⟩
        obtain ⟨hy1, hhy⟩ : ∃ a, Hid (h Y = a) := ⟨_, rfl⟩
        obtain ⟨sy, hsy⟩ : ∃ a, Hid (s'.S Y = a) := ⟨_, rfl⟩
        rw [hhv.out] at ch h1
        rw [hhy.out] at ch2 h2
        rw [hsy.out] at cs
        rw [hhv.out, hhy.out, hsy.out] at HS2
        have t4 : (Y : Int) < (N : Int) := by omega
        have t5 : (0 : Int) ≤ (Y : Int) := by omega
        have wz : IntKind.i64.wrap (hv1 + z) = hv1 + z := IntWalk.i64_in _ (by omega)
        have HE := Lib.hid hE
        clear hE
        have skip : ¬ (X = v ∧ hy1 = hv1 + z) → Hid (visLoop (vis f h n N F) f h N v (n - (k + 1)) (k + 1) s' = R) := fun hc => by
          show _ = R
          rw [HS2.out, if_neg hc]
        by_cases hXv : X = v
        · subst hXv
          have d0 : ((X : Int) != (X : Int)) = false := by simp
          by_cases hti : hy1 = hv1 + z
          · have d1 : (hy1 != hv1 + z) = false := by simpa using hti
            have HS3 : Hid (R = if sy = 1 then (s', (k :: backL f s'.B Y N X).reverse)
              else if sy = 0 then
                if (vis f h n N F Y ⟨putAt s'.B Y k, s'.S⟩).2 = [] then visLoop (vis f h n N F) f h N X (n - (k + 1)) (k + 1) (vis f h n N F Y ⟨putAt s'.B Y k, s'.S⟩).1
                else vis f h n N F Y ⟨putAt s'.B Y k, s'.S⟩
              else visLoop (vis f h n N F) f h N X (n - (k + 1)) (k + 1) s') := by
              show R = _
              rw [HS2.out, if_pos ⟨rfl, hti⟩]
            have HTI := Lib.hid hti
            clear hti skip
            go_wp2_with fail
            go_quiet (fail)
            have HK5 := Lib.hid (HK2.out.drewN nq)
            have HO5 := Lib.hid (HO2.out.drewN nq)
            have HE5 : Hid (Blk (we.drewN nq) E 32 #[.int .i64 X, .int .i64 Y, .int .i64 z]) := HE.out
            clear e0 e1 e2 cW0 cW2 cW3 ch ch2 cs HK2 HO2 HE lE lW lH lS lB
            generalize we.drewN nq = wh at *
            have e1 : wh.cell? ⟨E, 1, none⟩ = some (.int .i64 Y) := HE5.out.cell 1
            have lE := HE5.out.lt
            have cW3 : wh.cell? ⟨W, 3, none⟩ = some (.slice (some ⟨gs, 0, none⟩) N N) := HK5.out.head.cell 3
            have lW := HK5.out.head.lt
            have lS := HK5.out.state.lt
            have cs : wh.cell? ⟨gs, Y, none⟩ = some (.int .i64 sy) := by rw [← hsy.out]; exact blkAt HK5.out.state hY
            by_cases hs1 : sy = 1
            · have d2 : (sy == 1) = true := by rw [hs1]; rfl
              have HRb : Hid (R = (s', (k :: backL f s'.B Y N X).reverse)) := by
                show R = _
                rw [HS3.out, if_pos hs1]
              go_wp2_with fail
              go_quiet (fail)
              go_upto_region 9 with fail
              have HK3 := Lib.hid (HK5.out.drewN nq)
              have HO3 := Lib.hid (HO5.out.drewN nq)
              have HE3 : Hid (Blk (wh.drewN nq) E 32 #[.int .i64 X, .int .i64 Y, .int .i64 z]) := HE5.out
              clear e1 lE cW3 lW lS cs HK5 HO5 HE5
              generalize wh.drewN nq = wf at *
              have hown0 : (wf.alloc (.cells #[.int .i64 k] 3)).ownsRow wf.heap.size 3 1 (.slice (some ⟨wf.heap.size, 0, none⟩) 1 1) 1 (outL [k]) := ⟨rfl, .inr ⟨wf.heap.size, 1, _, rfl, Nat.le_refl _, Blk.new _ _ _, Nat.le_refl _, by unfold maxLen; omega, rfl, rfl⟩⟩
              have hbe0 : Below wf.heap.size wf (wf.alloc (.cells #[.int .i64 k] 3)) := (Below.refl _ _).alloc (Nat.le_refl _) _
              have HCH : Hid (Chn f h n s'.B (X :: p) ∧ Y ∈ X :: p ∧ p.length < N ∧ X < N ∧ ([] : List Nat).length + N = N) := by
                have hl := path_len (N := N) HI.out.nodes HI.out.dup
                exact ⟨HI.out.chain, (HI.out.on Y hY).1 (by rw [hsy.out]; exact hs1), by simp at hl; omega, hv, by simp⟩
              have hlbf : b < wf.heap.size := by
                obtain ⟨b9, o9, _, _, _, e9, l9, _⟩ := HK3.out.edges.at3 hlt
                injection e9 with e9
                injection e9 with e8 e7
                rw [e8]
                exact l9
              go_wp2_with fail
              obtain ⟨i0_, hi, hz0, hz1, hz2⟩ := info_parts intInfo
              obtain ⟨wo, rfl⟩ : ∃ wo : World, wo = wr := ⟨_, rfl⟩
              generalize wf.alloc (.cells #[.int .i64 k] 3) = wf1 at *
              go_loopw [7, 8] (fun o xv wr => ∃ (dn : List Nat) (xx F' : Nat) (q : List Nat), xv = .int .i64 xx ∧ wr.ownsRow wf.heap.size 3 1 o (dn.length + 1) (outL (k :: dn)) ∧ Hid (dn ++ backL f s'.B Y F' xx = backL f s'.B Y N X) ∧ Hid (Chn f h n s'.B (xx :: q) ∧ Y ∈ xx :: q ∧ q.length < F' ∧ xx < N ∧ dn.length + F' = N) ∧ Below wf.heap.size wf wr) (fun o _ _ => N + 1 - (match o with | .slice _ l _ => l | _ => 0))
              case atStart => exact ⟨[], X, N, p, rfl, hown0, rfl, HCH, hbe0⟩
              case round =>
                clear hown0 hbe0 HCH
                obtain ⟨dn, xx, F', q, rfl, hown, HD, HC, hbe⟩ := hrel
                have hbs := hbe.size
                have HKr := Lib.hid (HK3.out.keep (Off.of_below hbe))
                have e1 : wr.cell? ⟨E, 1, none⟩ = some (.int .i64 Y) := (hbe.cell (p := ⟨E, 1, none⟩) HE3.out.lt).trans (HE3.out.cell 1)
                have lE : E < wr.heap.size := by have := HE3.out.lt; omega
                have cW1 : wr.cell? ⟨W, 1, none⟩ = some (.slice (some ⟨b, off, none⟩) n ec) := HKr.out.head.cell 1
                have cW2 : wr.cell? ⟨W, 2, none⟩ = some (.slice (some ⟨gb, 0, none⟩) N N) := HKr.out.head.cell 2
                have lW := HKr.out.head.lt
                have lB := HKr.out.by_.lt
                have hln : dn.length < N := by have := HC.out.2.2; omega
                obtain ⟨oa, oc, hov, -⟩ := own_slice hown
                subst hov
                by_cases hxY : xx = Y
                · subst hxY
                  have hF : ∃ F2, F' = F2 + 1 := ⟨F' - 1, by have := HC.out.2.2.1; omega⟩
                  obtain ⟨F2, rfl⟩ := hF
                  have HDN : Hid (dn = backL f s'.B xx N X) := by
                    have h9 := HD.out
                    rw [backL, if_pos rfl, List.append_nil] at h9
                    exact h9
                  have HRl : Hid (R = (s', (k :: dn).reverse)) := by
                    show R = _
                    rw [HRb.out, ← HDN.out]
                  obtain ⟨g, cap, hov, hcap, hglt⟩ := hown.form (by omega)
                  obtain ⟨rfl, rfl⟩ : oa = some ⟨g, 0, none⟩ ∧ oc = cap := by
                    injection hov with q1 q2 q3
                    exact ⟨q1, q3⟩
                  have hcc : Hid (∀ j, j < dn.length + 1 → wr.cell? ⟨g, 0 + j, none⟩ = some (.int .i64 (((k :: dn).getD j 0 : Nat) : Int))) := fun j hj => by
                    have h9 := hown.cells (g := g) rfl j (.int .i64 (((k :: dn).getD j 0 : Nat) : Int)) (outL_get _ (by simpa using hj))
                    rwa [Addr.add_lit] at h9
                  have hfz9 : Hid (∀ j, wr.frozen? ⟨g, j, none⟩ = false) := fun j => ownsRow_frozen hown j
                  have hdl : dn.length + 1 ≤ 1048576 := by omega
                  have HBE := Lib.hid hbe
                  have g0 : ((xx : Int) != (xx : Int)) = false := by simp
                  clear hbe hown HC HD hov
                  go_wp2_with (go_at_call 19; refine (reverse_any wf.heap.size g 0 (dn.length + 1) _ (fun j => (((k :: dn).getD j 0 : Nat) : Int)) _ ⟨by omega, hdl⟩ hcc.out hfz9.out hcap hglt).mono ?_; rintro e w9 ⟨rfl, hcr, hb9, hg9⟩)
                  go_ret
                  rw [HRl.out]
                  refine ⟨some ⟨g, 0, none⟩, oc, by simp, ?_, HO3.out.trans (Off.of_below (HBE.out.trans hb9)), fun hn => absurd hn (by simp)⟩
                  intro _
                  refine ⟨g, 0, rfl, hg9, fun j hj => ?_⟩
                  have hj2 : j < dn.length + 1 := by simpa using hj
                  rw [hcr j hj2]
                  congr 2
                  show (((k :: dn).getD (dn.length + 1 - 1 - j) 0 : Nat) : Int) = (((k :: dn).reverse.getD j 0 : Nat) : Int)
                  rw [getD_rev (k :: dn) (by simpa using hj2)]
                  rfl
                · obtain ⟨b2, q2, rfl⟩ : ∃ b2 q2, q = b2 :: q2 := by
                    cases q with
                    | nil =>
                      have h9 := HC.out.2.1
                      rw [List.mem_singleton] at h9
                      exact absurd h9.symm hxY
                    | cons b2 q2 => exact ⟨b2, q2, rfl⟩
                  obtain ⟨F2, rfl⟩ : ∃ F2, F' = F2 + 1 := ⟨F' - 1, by have := HC.out.2.2.1; omega⟩
                  obtain ⟨k2, hk2, hB2, hf0, hf1, hth⟩ := HC.out.1.1
                  have hxN : xx < N := HC.out.2.2.2.1
                  have hb2N := (HG.out k2 hk2).1
                  rw [hf0] at hb2N
                  have HC2 : Hid (Chn f h n s'.B (b2 :: q2) ∧ Y ∈ b2 :: q2 ∧ q2.length < F2 ∧ b2 < N ∧ (dn ++ [k2]).length + F2 = N) := by
                    obtain ⟨c1, c2, c3, c4, c5⟩ := HC.out
                    refine ⟨c1.2, ?_, by simp at c3; omega, by omega, by simp; omega⟩
                    rcases List.mem_cons.1 c2 with h9 | h9
                    · exact absurd h9.symm hxY
                    · exact h9
                  have HD2 : Hid ((dn ++ [k2]) ++ backL f s'.B Y F2 b2 = backL f s'.B Y N X) := by
                    have h9 := HD.out
                    rw [backL, if_neg hxY, hB2, Int.toNat_natCast, hf0, Int.toNat_natCast] at h9
                    rw [List.append_assoc]
                    exact h9
                  have cB : wr.cell? ⟨gb, xx, none⟩ = some (.int .i64 (k2 : Nat)) := by rw [← hB2]; exact blkAt HKr.out.by_ hxN
                  obtain ⟨b', off', x2, y2, z2, he2, hbb, hc0, -, -, hx2, -, -⟩ := HKr.out.edges.at3 hk2
                  obtain ⟨rfl, rfl⟩ : b' = b ∧ off' = off := by
                    injection he2 with he2
                    injection he2 with q1 q2
                    exact ⟨q1.symm, q2.symm⟩
                  have hx3 : x2 = (b2 : Int) := by rw [hx2.out, hf0]
                  subst hx3
                  have t6 : (xx : Int) < (N : Int) := by omega
                  have t7 : (0 : Int) ≤ (xx : Int) := by omega
                  have t8 : (k2 : Int) < (n : Int) := by omega
                  have t9 : (0 : Int) ≤ (k2 : Int) := by omega
                  have g0 : ((xx : Int) != (Y : Int)) = true := by simp; omega
                  have hnew : ∀ j u, ([.int .i64 (k2 : Nat)] : List Value)[j]? = some u → (wr.alloc (.cells #[.int .i64 (k2 : Nat)] 3)).cell? ((⟨wr.heap.size, 0, none⟩ : Addr).add j) = some u := (Blk.new wr 3 #[.int .i64 (k2 : Nat)]).news
                  have HNW := Lib.hid hnew
                  clear hnew HC HD hB2 hf0 hf1 hth
                  go_wp2_with (at_builtin; refine wpList_append_own _ rfl (.tmp 89) (.tmp 97) 35 rfl wf.heap.size 3 i0_ (.int .i64 0) 1 8 Try.underlying35 hi hz0 hz1 hz2 rfl (by decide) (.slice oa (dn.length + 1) oc) (dn.length + 1) (outL (k :: dn)) rfl (hown.alloc _) ⟨wr.heap.size, 0, none⟩ 1 1 [.int .i64 (k2 : Nat)] rfl rfl HNW.out (by simp [Value.oneCell']) (by simp only [maxLen]; omega) (by omega) (by simp; omega) ?_; intro v' w5 hown5 hgrow5 hnil; clear hnil; have hb5 : Below wf.heap.size wf w5 := (hbe.alloc hbs _).grown hgrow5 (by simp; omega) (fun y e => own_base hown y e); have hlo := Lib.hid (fun y (e : (Value.slice oa (dn.length + 1) oc).ownBlock = some y) => own_base hown y e); have hk5 := Lib.hid (HK3.out.keep (Off.of_below hb5)); have s1 : w5.cell? ⟨W, 1, none⟩ = some (.slice (some ⟨b', off', none⟩) n ec) := hk5.out.head.cell 1; have s2 : w5.cell? ⟨W, 2, none⟩ = some (.slice (some ⟨gb, 0, none⟩) N N) := hk5.out.head.cell 2; have s3 : w5.cell? ⟨gb, xx, none⟩ = some (.int .i64 (k2 : Nat)) := ((hb5.cell (p := ⟨gb, xx, none⟩) HK3.out.by_.lt).trans ((hbe.cell (p := ⟨gb, xx, none⟩) HK3.out.by_.lt).symm)).trans cB; have l1 := hk5.out.head.lt; have l2 := hk5.out.by_.lt; have s4 : w5.cell? ⟨b', off' + k2 * 3, none⟩ = some (.int .i64 (b2 : Nat)) := ((hb5.cell (p := ⟨b', off' + k2 * 3, none⟩) hlbf).trans ((hbe.cell (p := ⟨b', off' + k2 * 3, none⟩) hlbf).symm)).trans hc0; have l3 : b' < w5.heap.size := by have := hb5.size; omega)
                  go_quiet (fail)
                  have hown6 : (w5.drewN nq).ownsRow wf.heap.size 3 1 v' ((dn ++ [k2]).length + 1) (outL (k :: (dn ++ [k2]))) := by
                    rw [List.length_append, show outL (k :: (dn ++ [k2])) = outL (k :: dn) ++ [.int .i64 (k2 : Nat)] by simp [outL]]
                    exact own_off hown5 ((Off.refl (fun _ => False) w5).drewN nq) (fun _ _ h => h)
                  have hb6 : Below wf.heap.size wf (w5.drewN nq) := hb5.drewN nq
                  clear hown hown5 hgrow5 hlo hk5 hbe hb5 s1 s2 s3 s4 HKr e1 lE cW1 cW2 lW lB cB hc0
                  go_wp2
                  go_roundw
                  case rel => exact ⟨dn ++ [k2], b2, F2, q2, rfl, hown6, HD2, HC2, hb6⟩
                  case measure => (obtain ⟨ao, co, rfl, hco⟩ := own_slice hown6; simp; omega)
            · have d2 : (sy == 1) = false := by simpa using hs1
              go_wp2_with fail
              go_quiet (fail)
              have HK3 := Lib.hid (HK5.out.drewN nq)
              have HO3 := Lib.hid (HO5.out.drewN nq)
              have HE3 : Hid (Blk (wh.drewN nq) E 32 #[.int .i64 X, .int .i64 Y, .int .i64 z]) := HE5.out
              clear e1 lE cW3 lW lS cs HK5 HO5 HE5
              generalize wh.drewN nq = wi at *
              have e1 : wi.cell? ⟨E, 1, none⟩ = some (.int .i64 Y) := HE3.out.cell 1
              have lE := HE3.out.lt
              have cW3 : wi.cell? ⟨W, 3, none⟩ = some (.slice (some ⟨gs, 0, none⟩) N N) := HK3.out.head.cell 3
              have lW := HK3.out.head.lt
              have lS := HK3.out.state.lt
              have cs : wi.cell? ⟨gs, Y, none⟩ = some (.int .i64 sy) := by rw [← hsy.out]; exact blkAt HK3.out.state hY
              by_cases hs0 : sy = 0
              · have d3 : (sy == 0) = true := by rw [hs0]; rfl
                obtain ⟨Q, hQ⟩ : ∃ Q, Hid (vis f h n N F Y ⟨putAt s'.B Y k, s'.S⟩ = Q) := ⟨_, rfl⟩
                have HRq : Hid (R = if Q.2 = [] then visLoop (vis f h n N F) f h N X (n - (k + 1)) (k + 1) Q.1 else Q) := by
                  show R = _
                  rw [HS3.out, if_neg hs1, if_pos hs0, hQ.out]
                have hsY0 : s'.S Y = 0 := by rw [hsy.out]; exact hs0
                have HI4 : Hid (VI f h n N ⟨putAt s'.B Y k, s'.S⟩ (X :: p)) := HI.out.stay (v := X) hsY0 hY
                have HL4 : Hid (∀ b l, X :: p = b :: l → s'.S Y = 0 → Link f h n (putAt s'.B Y k) Y b) := fun b l he _ => by
                  obtain ⟨rfl, rfl⟩ := List.cons.inj he
                  refine ⟨k, hlt, putAt_same _ _ _, hx.out.symm, hy.out.symm, ?_⟩
                  rw [hhy.out, hhv.out, ← hz.out]
                  exact HTI.out
                have HV4 : Hid (VRes f h n N Y ⟨putAt s'.B Y k, s'.S⟩ (X :: p) Q) := by
                  show VRes f h n N Y ⟨putAt s'.B Y k, s'.S⟩ (X :: p) Q
                  rw [← hQ.out]
                  exact vis_ok HG.out F Y _ _ HI4.out hY (by show s'.S Y ≠ 1; omega) HZ.out HL4.out
                have HIH := Lib.hid (fun W' hk' => IH.out Y ⟨putAt s'.B Y k, s'.S⟩ (X :: p) W' HI4.out hY (by show s'.S Y ≠ 1; omega) HZ.out HL4.out hk')
                rw [hQ.out] at HIH
                go_wp2_with fail
                go_quiet (fail)
                have HK6 := Lib.hid (HK3.out.drewN nq)
                have HO6 := Lib.hid (HO3.out.drewN nq)
                have HE6 : Hid (Blk (wi.drewN nq) E 32 #[.int .i64 X, .int .i64 Y, .int .i64 z]) := HE3.out
                clear e1 lE cW3 lW lS cs HK3 HO3 HE3
                generalize wi.drewN nq = wf at *
                have e1 : wf.cell? ⟨E, 1, none⟩ = some (.int .i64 Y) := HE6.out.cell 1
                have lE := HE6.out.lt
                have cW2 : wf.cell? ⟨W, 2, none⟩ = some (.slice (some ⟨gb, 0, none⟩) N N) := HK6.out.head.cell 2
                have lW := HK6.out.head.lt
                have lB := HK6.out.by_.lt
                have cb : wf.cell? ⟨gb, Y, none⟩ = some (.int .i64 (s'.B Y)) := blkAt HK6.out.by_ hY
                have fb : ∀ i, wf.frozen? ⟨gb, i, none⟩ = false := fun i => HK6.out.by_.frozen i
                go_upto_region 17 with fail
                refine wp_region_two (S := (fun w' => Below wf.heap.size wf w')) 8 (by kernel_rfl) ?_ (fun hHeld => ?_)
                · exact (Below.refl _ _).drew
                refine two_take (i := 0) (v := ?_) rfl (by kernel_rfl) (by kernel_rfl) (fun _ _ _ h => h) (Or.inl ⟨by rfl, ?_⟩) (by assumption) ?_
                rotate_left 1
                · intro w' hSw
                  have hl0 := (hSw.cell (p := ⟨E, 1, none⟩) lE).trans e1
                  have hl1 := (hSw.cell (p := ⟨W, 2, none⟩) lW).trans cW2
                  clear hSw
                  go_simp
                  try (with_reducible rfl)
                try simp only [List.getElem_toArray, List.getElem_cons_zero, List.getElem_cons_succ, Act.put, List.setIfInBounds_toArray, List.set_cons_zero, List.set_cons_succ]
                refine two_take (i := 1) (v := ?_) rfl (by kernel_rfl) (by kernel_rfl) (fun _ _ _ h => h) (Or.inl ⟨by rfl, ?_⟩) (by assumption) ?_
                rotate_left 1
                · intro w' hSw
                  have hl0 := (hSw.cell (p := ⟨E, 1, none⟩) lE).trans e1
                  have hl1 := (hSw.cell (p := ⟨W, 2, none⟩) lW).trans cW2
                  clear hSw
                  go_simp
                  try (with_reducible rfl)
                try simp only [List.getElem_toArray, List.getElem_cons_zero, List.getElem_cons_succ, Act.put, List.setIfInBounds_toArray, List.set_cons_zero, List.set_cons_succ]
                refine two_take (i := 2) (v := ?_) rfl (by kernel_rfl) (by kernel_rfl) (fun _ _ _ h => h) (Or.inl ⟨by rfl, ?_⟩) (by assumption) ?_
                rotate_left 1
                · intro w' hSw
                  have hl0 := (hSw.cell (p := ⟨E, 1, none⟩) lE).trans e1
                  have hl1 := (hSw.cell (p := ⟨W, 2, none⟩) lW).trans cW2
                  clear hSw
                  go_simp
                  try (with_reducible rfl)
                try simp only [List.getElem_toArray, List.getElem_cons_zero, List.getElem_cons_succ, Act.put, List.setIfInBounds_toArray, List.set_cons_zero, List.set_cons_succ]
                refine two_take (i := 3) (v := ?_) rfl (by kernel_rfl) (by kernel_rfl) (fun _ _ _ h => h) (Or.inl ⟨by rfl, ?_⟩) (by assumption) ?_
                rotate_left 1
                · intro w' hSw
                  have hl0 := (hSw.cell (p := ⟨E, 1, none⟩) lE).trans e1
                  have hl1 := (hSw.cell (p := ⟨W, 2, none⟩) lW).trans cW2
                  clear hSw
                  go_simp
                  try (with_reducible rfl)
                try simp only [List.getElem_toArray, List.getElem_cons_zero, List.getElem_cons_succ, Act.put, List.setIfInBounds_toArray, List.set_cons_zero, List.set_cons_succ]
                refine two_take (i := 4) (v := ?_) rfl (by kernel_rfl) (by kernel_rfl) (fun _ _ _ h => h) (Or.inl ⟨by rfl, ?_⟩) (by assumption) ?_
                rotate_left 1
                · intro w' hSw
                  have hl0 := (hSw.cell (p := ⟨E, 1, none⟩) lE).trans e1
                  have hl1 := (hSw.cell (p := ⟨W, 2, none⟩) lW).trans cW2
                  clear hSw
                  go_simp
                  try (with_reducible rfl)
                try simp only [List.getElem_toArray, List.getElem_cons_zero, List.getElem_cons_succ, Act.put, List.setIfInBounds_toArray, List.set_cons_zero, List.set_cons_succ]
                refine two_take (i := 5) (v := ?_) rfl (by kernel_rfl) (by kernel_rfl) (fun _ _ _ h => h) (Or.inl ⟨by rfl, ?_⟩) (by assumption) ?_
                rotate_left 1
                · intro w' hSw
                  have hl0 := (hSw.cell (p := ⟨E, 1, none⟩) lE).trans e1
                  have hl1 := (hSw.cell (p := ⟨W, 2, none⟩) lW).trans cW2
                  clear hSw
                  go_simp
                  try (with_reducible rfl)
                try simp only [List.getElem_toArray, List.getElem_cons_zero, List.getElem_cons_succ, Act.put, List.setIfInBounds_toArray, List.set_cons_zero, List.set_cons_succ]
                refine two_take (i := 6) (v := ?_) rfl (by kernel_rfl) (by kernel_rfl) (fun _ _ _ h => h) (Or.inl ⟨by rfl, ?_⟩) (by assumption) ?_
                rotate_left 1
                · intro w' hSw
                  have hl0 := (hSw.cell (p := ⟨E, 1, none⟩) lE).trans e1
                  have hl1 := (hSw.cell (p := ⟨W, 2, none⟩) lW).trans cW2
                  clear hSw
                  go_simp
                  try (with_reducible rfl)
                try simp only [List.getElem_toArray, List.getElem_cons_zero, List.getElem_cons_succ, Act.put, List.setIfInBounds_toArray, List.set_cons_zero, List.set_cons_succ]
                refine two_take (i := 7) (v := ?_) rfl (by kernel_rfl) (by kernel_rfl) (fun _ _ _ h => h) (Or.inl ⟨by rfl, ?_⟩) (by assumption) ?_
                rotate_left 1
                · intro w' hSw
                  have hl0 := (hSw.cell (p := ⟨E, 1, none⟩) lE).trans e1
                  have hl1 := (hSw.cell (p := ⟨W, 2, none⟩) lW).trans cW2
                  clear hSw
                  go_simp
                  try (with_reducible rfl)
                try simp only [List.getElem_toArray, List.getElem_cons_zero, List.getElem_cons_succ, Act.put, List.setIfInBounds_toArray, List.set_cons_zero, List.set_cons_succ]
                refine two_ready (rs := [8]) (by kernel_rfl) (by kernel_rfl) (by simp) ?_
                refine AllReadyB.last rfl (fun K hK => ?_)
                go_simp
                refine hK.out _ _ ?_
                clear hK K
                try simp only [List.getElem_toArray, List.getElem_cons_zero, List.getElem_cons_succ, Act.put, List.setIfInBounds_toArray, List.set_cons_zero, List.set_cons_succ]
                refine two_late (by kernel_rfl) ?_
                refine wpAny_done (by kernel_rfl) ?_ _
                have HK7 := Lib.hid ((HK6.out.setBy Y k).drew)
                have HO7 : Hid (Off (fun g => g = gb ∨ g = gs) w (wf.setCell ⟨gb, Y, none⟩ (.int .i64 (k : Nat))).drew) := (HO6.out.setCell (p := ⟨gb, Y, none⟩) (fun _ => .inl rfl) _).drew
                have HE7 : Hid (Blk (wf.setCell ⟨gb, Y, none⟩ (.int .i64 (k : Nat))).drew E 32 #[.int .i64 X, .int .i64 Y, .int .i64 z]) := HE6.out.far (p := ⟨gb, Y, none⟩) (by have := hgt.out; show E ≠ gb; omega) _
                clear e1 lE cW2 lW lB cb fb HK6 HO6 HE6
                generalize (wf.setCell ⟨gb, Y, none⟩ (.int .i64 (k : Nat))).drew = wg at *
                have e1 : wg.cell? ⟨E, 1, none⟩ = some (.int .i64 Y) := HE7.out.cell 1
                have lE := HE7.out.lt
                go_wp2_with fail
                refine (HIH.out _ HK7.out).mono ?_
                rintro e w9 ⟨ao, co, rfl, hrow, hoo, hkk⟩
                have HO9 : Hid (Off (fun g => g = gb ∨ g = gs) w w9) := HO7.out.trans hoo
                have HKK := Lib.hid hkk
                have HRW := Lib.hid hrow
                clear hrow hoo hkk e1 lE
                by_cases hq0 : Q.2 = []
                · have hl0 : Q.2.length = 0 := by rw [hq0]; rfl
                  rw [hl0]
                  have HR2 : Hid (visLoop (vis f h n N F) f h N X (n - (k + 1)) (k + 1) Q.1 = R) := by
                    show _ = R
                    rw [HRq.out, if_pos hq0]
                  have HV5 := Lib.hid (HV4.out.1 hq0)
                  have HI5 : Hid (VI f h n N Q.1 (X :: p)) := HV5.out.1
                  have HZ5 : Hid (zer Q.1.S N ≤ F) := Nat.le_trans (zer_le N HV5.out.2.2.2) HZ.out
                  have HK9 : Hid (Wkr w9 W gh gb gs N (some ⟨b, off, none⟩) n ec f h Q.1) := HKK.out hq0
                  clear hq0 hl0
                  go_wp2
                  go_roundw
                  case rel => exact ⟨k + 1, Q.1, by go_num, by omega, HR2, HI5, HZ5, HK9, HO9⟩
                  case measure => simp [intOf]; omega
                · have HR2 : Hid (R = Q) := by
                    show R = _
                    rw [HRq.out, if_neg hq0]
                  have hl0 : 0 < Q.2.length := List.length_pos_iff.2 hq0
                  obtain ⟨ql, hql⟩ : ∃ ql, Hid (Q.2.length = ql) := ⟨_, rfl⟩
                  rw [hql.out] at hl0 ⊢
                  have t6 : (0 : Int) < (ql : Int) := by omega
                  have HQ0 := Lib.hid hq0
                  clear hq0
                  go_wp2
                  go_ret
                  rw [HR2.out]
                  exact ⟨ao, co, by rw [hql.out]; rfl, HRW.out, HO9.out, fun hn => absurd hn HQ0.out⟩
              · have d3 : (sy == 0) = false := by simpa using hs0
                have HR2 : Hid (visLoop (vis f h n N F) f h N X (n - (k + 1)) (k + 1) s' = R) := by
                  show _ = R
                  rw [HS3.out, if_neg hs1, if_neg hs0]
                go_wp2_with fail
                go_quiet (fail)
                have HK4 := Lib.hid (HK3.out.drewN nq)
                have HO4 := Lib.hid (HO3.out.drewN nq)
                clear e1 lE cW3 lW lS cs HK3 HO3 HE3
                go_wp2
                go_roundw
                case rel => exact ⟨k + 1, s', by go_num, by omega, HR2, HI, HZ, HK4, HO4⟩
                case measure => simp [intOf]; omega
          · have d1 : (hy1 != hv1 + z) = true := by simpa using hti
            have HR2 := skip (fun hc => hti hc.2)
            clear skip hti
            go_wp2_with fail
            go_quiet (fail)
            have HK3 := Lib.hid (HK2.out.drewN nq)
            have HO3 := Lib.hid (HO2.out.drewN nq)
            clear e0 e1 e2 cW0 cW2 cW3 ch ch2 cs
            go_wp2
            go_roundw
            case rel => exact ⟨k + 1, s', by go_num, by omega, HR2, HI, HZ, HK3, HO3⟩
            case measure => simp [intOf]; omega
        · have d0 : ((X : Int) != (v : Int)) = true := by simp; omega
          have HR2 := skip (fun hc => hXv hc.1)
          clear skip
          go_wp2_with fail
          go_quiet (fail)
          have HK3 := Lib.hid (HK2.out.drewN nq)
          have HO3 := Lib.hid (HO2.out.drewN nq)
          clear e0 e1 e2 cW0 cW2 cW3 ch ch2 cs
          go_wp2
          go_roundw
          case rel => exact ⟨k + 1, s', by go_num, by omega, HR2, HI, HZ, HK3, HO3⟩
          case measure => simp [intOf]; omega
      · obtain rfl : n = k := by omega
        have HR2 : Hid (R = (⟨s'.B, putAt s'.S v 2⟩, [])) := by
          show R = _
          rw [← HR.out, Nat.sub_self, visLoop]
        have HK3 := Lib.hid (HK.out.setSt v 2)
        have cW : wr.cell? ⟨W, 3, none⟩ = some (.slice (some ⟨gs, 0, none⟩) N N) := HK.out.head.cell 3
        have cs : wr.cell? ⟨gs, v, none⟩ = some (.int .i64 (s'.S v)) := blkAt HK.out.state hv
        have fs : wr.frozen? ⟨gs, v, none⟩ = false := HK.out.state.frozen v
        have lW := HK.out.head.lt
        have lS := HK.out.state.lt
        go_wp2_with fail
        go_ret
        rw [HR2.out]
        exact vend_nil (HO.out.setCell (p := ⟨gs, v, none⟩) (fun _ => .inr rfl) _) HK3.out
end Go.Proofs.Ytnbjcohkkaijaaa
