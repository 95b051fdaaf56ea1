/- steady.Lead. Conditions: none. -/
import Derived.Test.YtgmljgcmfooniaaGreatDoorStStates
import Derived.Test.YtgmljgcmfooniaaGreatDoorRev2
set_option linter.unusedVariables false
set_option linter.unusedSimpArgs false
namespace Go.Proofs.YtgmljgcmfooniaaGreatDoor
open Go.RowKit Go.Shelf Go.Tide
set_option linter.unusedVariables false
set_option linter.unusedSimpArgs false
/-- Draws as pairs. -/
def drF (J : Nat) (d : List Nat) (k j : Nat) : Int := if j = 0 then ((d.getD k 0 / (J + 1) : Nat) : Int) else ((d.getD k 0 % (J + 1) : Nat) : Int)
theorem dr_snoc (J : Nat) (d : List Nat) (i : Nat) : cellsC 2 (d.length + 1) (drF J (d ++ [i])) = cellsC 2 d.length (drF J d) ++ [.int .i64 ((i / (J + 1) : Nat) : Int), .int .i64 ((i % (J + 1) : Nat) : Int)] := by
  rw [cellsC_succ]
  congr 1
  · exact cellsC_congr fun k j hk _ => by simp [drF, List.getD, List.getElem?_append_left hk]
  · simp [drF, List.getD, List.range_succ]
theorem dr_rev (J : Nat) (d : List Nat) {k : Nat} (hk : k < d.length) (j : Nat) : drF J d (d.length - 1 - k) j = drF J d.reverse k j := by
  have e : d.reverse[k]? = d[d.length - 1 - k]? := List.getElem?_reverse hk
  unfold drF
  simp only [List.getD, e]
theorem lead_len {nx : DSt → Nat → DSt} {m : Nat} {s0 : DSt} {t : Nat} {s : Fnd DSt} (h : FInv nx m 300 s0 t s) : ∀ f n, n < s.l.length → (leadAt s f n).length ≤ n := by
  intro f
  induction f with
  | zero => intro n _; simp [leadAt]
  | succ f ih =>
    intro n hn
    by_cases h0 : n = 0
    · subst h0; simp [lead_zero]
    · obtain ⟨k, i, x, hp, hi, hk, _⟩ := h.par n (s.l[n]) (by omega) (List.getElem?_eq_getElem hn)
      rw [lead_succ (by omega) hp]
      have := ih k (by omega)
      simp only [List.length_cons]
      omega
theorem frozen2 {w : World} {base : Nat} {e : TypeId} {C g n cap : Nat} {xs : List Value} (h : w.ownsRow base e C (.slice (some ⟨g, 0, none⟩) n cap) n xs) (k : Nat) : w.frozen? ⟨g, k, none⟩ = false := by
  rcases h.2 with ⟨hv, _⟩ | ⟨g', cap', cur, hv, hb, hg, hc, hm, hs, ht⟩
  · cases hv
  · injection hv with h1 h2 h3
    injection h1 with h1
    injection h1 with h4 h5
    subst h4 h3
    simp [World.frozen?, hg]
theorem addr_add0 (g j : Nat) : (⟨g, 0, none⟩ : Addr).add j = ⟨g, j, none⟩ := by
  rcases j with _ | j <;> simp [Addr.add]
def LeadPost (r : DRules) (J : Nat) (n : Int) (w : World) (e : Ending) (w' : World) : Prop :=
  Below w.heap.size w w' ∧ ((∃ s a c, dFin r J = some s ∧ 0 ≤ n ∧ n < s.l.length ∧ e = .returned (.tuple #[.slice a (leadAt s 300 n.toNat).length c, .int .i64 0]) ∧ RowC w' 2 a (leadAt s 300 n.toNat).length (drF J (leadAt s 300 n.toNat).reverse) ∧ ∀ p : Addr, a = some p → w.heap.size ≤ p.block) ∨
    (∃ s, dFin r J = some s ∧ (n < 0 ∨ (s.l.length : Int) ≤ n) ∧ e = .returned (.tuple #[.slice none 0 0, .int .i64 3])) ∨ (dFin r J = none ∧ e = .returned (.tuple #[.slice none 0 0, .int .i64 4])))
set_option maxRecDepth 20000 in
theorem lead_w (k0 k1 rate buf jit er n : Int) (w : World) (he : Hid (er ≠ 0)) (hc : ∀ W, Calls Tryz.prog 52 #[.agg #[.int .i64 k0, .int .i64 k1, .int .i64 rate, .int .i64 buf, .int .i64 jit]] W fun e w' => e = .returned (.int .i64 er) ∧ More W w') :
    Calls Tryz.prog 39 #[.agg #[.int .i64 k0, .int .i64 k1, .int .i64 rate, .int .i64 buf, .int .i64 jit], .int .i64 n] w fun e w' => e = .returned (.tuple #[.slice none 0 0, .int .i64 er]) ∧ More w w' := by
  have g : (er != 0) = true := by simpa using he.out
  have HC := Lib.hid hc
  clear hc
  go_enter Tryz.func39, Tryz.ntmps39
  go_wp2_with fail
  refine (each_w k0 k1 rate buf jit er (.func (.func 66) #[] #[]) _ he HC.out (by show Value.oneCell' _ = true; simp [Value.oneCell'])).mono ?_
  rintro e w' ⟨rfl, os, d, rfl⟩
  go_wp2
  go_ret2
  exact ⟨rfl, (by repeat (first | (with_reducible assumption) | (with_reducible exact More.refl _) | (with_reducible refine More.alloc ?_ _) | (with_reducible refine More.more ?_ _ _) | (with_reducible refine More.drewN ?_ _) | (with_reducible refine More.drew ?_)))⟩
set_option maxRecDepth 20000 in
set_option maxHeartbeats 2000000 in
theorem lead_any (r : DRules) (J : Nat) (hJ : Hid (r.jit = J)) (hr : r.ok) (n : Int) (w : World) :
    Calls Tryz.prog 39 #[.agg #[.int .i64 r.k0, .int .i64 r.k1, .int .i64 r.rate, .int .i64 r.buf, .int .i64 r.jit], .int .i64 n] w (LeadPost r J n w) := by
  obtain ⟨i0_, hi, hz0, hz1, hz2⟩ := info_parts twoInfo
  have HR := Lib.hid hr
  clear hr
  go_enter Tryz.func39, Tryz.ntmps39
  go_wp2_with fail
  refine (each_nop r J hJ HR.out 66 (tell_none _ (enters_of Tryz.func66 (by kernel_rfl) rfl) lead1_any) _).mono ?_
  rintro e w' (⟨s, S, M, v1, v2, v3, hF, rfl, hS, hG, hm, hM⟩ | ⟨hF, rfl, hm⟩)
  · obtain ⟨a1, c1, hv1, _⟩ := own_sliceC hS.r1
    obtain ⟨a2, c2, hv2, _⟩ := own_slice hS.r2
    obtain ⟨a3, c3, hv3, _⟩ := own_sliceC hS.r3
    have hr2 := hS.r2
    have hr3 := hS.r3
    have p1 : w'.cell? ⟨S, 1, none⟩ = some (.slice a1 s.l.length c1) := by rw [← hv1]; exact hS.blk.cell 1
    have p2 : w'.cell? ⟨S, 2, none⟩ = some (.slice a2 s.l.length c2) := by rw [← hv2]; exact hS.blk.cell 2
    have p3 : w'.cell? ⟨S, 3, none⟩ = some (.slice a3 s.l.length c3) := by rw [← hv3]; exact hS.blk.cell 3
    rw [hv2] at hr2
    rw [hv3] at hr3
    have hF2 : Hid (Row w' a2 s.l.length (frF s)) := Row.of_own hr2
    have hB3 : Hid (RowC w' 2 a3 s.l.length (byF J s)) := RowC.of_own (by omega) hr3
    have HI : Hid (FInv (dNx r J) ((J + 1) * (J + 1)) 300 (dBegin r) (300 * ((J + 1) * (J + 1))) s) := finv_run (m_pos J) (by omega) _ _ hF
    have lS := hS.blk.lt
    have hle : s.l.length ≤ 300 := hG.le
    have HF := Lib.hid hF
    have HM : Hid (Below w.heap.size w w') := (More.trans (((More.refl w).alloc _)) hm).below
    have hws := HM.out.size
    clear hF hv1 hv2 hv3 hr2 hr3 hS hm hG
    by_cases h0 : n < 0
    · have d0 : decide (n < 0) = true := by simpa using h0
      go_wp2
      go_ret2
      exact ⟨HM.out, .inr (.inl ⟨s, HF.out, .inl h0, rfl⟩)⟩
    by_cases h1 : (s.l.length : Int) ≤ n
    · have d0 : decide (n < 0) = false := by simpa using h0
      have d1 : decide ((s.l.length : Int) ≤ n) = true := by simpa using h1
      go_wp2
      go_ret2
      exact ⟨HM.out, .inr (.inl ⟨s, HF.out, .inr h1, rfl⟩)⟩
    have d0 : decide (n < 0) = false := by simpa using h0
    have d1 : decide ((s.l.length : Int) ≤ n) = false := by simpa using h1
    obtain ⟨N, hN⟩ : ∃ N : Nat, n = N := ⟨n.toNat, by omega⟩
    subst hN
    have hNl : N < s.l.length := by omega
    go_wp2_with fail
    have d2 : decide (s.l.length ≤ N) = false := by simpa using hNl
    simp only [d2]
    go_loopw [1, 8] (fun nv ov wr => ∃ (n' : Nat) (d : List Nat), nv = .int .i64 n' ∧ n' < s.l.length ∧ leadAt s 300 N = d ++ leadAt s 300 n' ∧ (d = [] → ov = .slice none 0 0) ∧ wr.ownsRow w'.heap.size 30 2 ov d.length (cellsC 2 d.length (drF J d)) ∧ Below w'.heap.size w' wr) (fun nv _ _ => (intOf nv).toNat)
    case atStart => exact ⟨N, [], rfl, hNl, rfl, fun _ => rfl, World.ownsRow_nil _ _ _ _, Below.refl _ _⟩
    case round =>
      obtain ⟨n', d, rfl, hn', hd, hnil, hown, hbw⟩ := hrel
      obtain ⟨ao, co, hv, hco⟩ := own_sliceC hown
      subst hv
      have hsz := hbw.size
      have hdl : d.length ≤ N := by
        have h1 := lead_len HI.out 300 N hNl
        rw [hd, List.length_append] at h1
        omega
      have q1 : wr.cell? ⟨S, 1, none⟩ = some (.slice a1 s.l.length c1) := (hbw.cell (p := ⟨S, 1, none⟩) lS).trans p1
      have q2 : wr.cell? ⟨S, 2, none⟩ = some (.slice a2 s.l.length c2) := (hbw.cell (p := ⟨S, 2, none⟩) lS).trans p2
      have q3 : wr.cell? ⟨S, 3, none⟩ = some (.slice a3 s.l.length c3) := (hbw.cell (p := ⟨S, 3, none⟩) lS).trans p3
      by_cases hlt : 0 < n'
      · obtain ⟨k, i, x, hp, hi', hk, hx, -, -⟩ := HI.out.par n' (s.l[n']) hlt (List.getElem?_eq_getElem hn')
        have HD : Hid (leadAt s 300 N = (d ++ [i]) ++ leadAt s 300 k) := by
          show _ = _
          rw [hd, lead_fuel HI.out n' hn' 300 (300 + 1) (by omega) (by omega), lead_succ hlt hp]
          simp
        obtain ⟨b, off, y, rfl, hb, hcy0, hy⟩ := hF2.out.at_ hn'
        have hcy : wr.cell? ⟨b, off + n', none⟩ = some (.int .i64 y) := (hbw.cell (p := ⟨b, off + n', none⟩) hb).trans hcy0
        obtain ⟨b2, off2, z0, z1, rfl, hb2, hcz0, hcz1, hz_0, hz_1⟩ := (hB3.out.below hbw (Nat.le_refl _)).at2 hn'
        have ey : y = (k : Int) := by rw [hy.out]; simp [frF, hp]
        have e0 : z0 = ((i / (J + 1) : Nat) : Int) := by rw [hz_0.out]; simp [byF, hp]
        have e1 : z1 = ((i % (J + 1) : Nat) : Int) := by rw [hz_1.out]; simp [byF, hp]
        subst ey
        have HC : Hid (cellsC 2 (d.length + 1) (drF J (d ++ [i])) = cellsC 2 d.length (drF J d) ++ [.int .i64 z0, .int .i64 z1]) := by
          show _ = _
          rw [dr_snoc, e0, e1]
        have hkl : k < s.l.length := by omega
        have t0 : (0 : Int) < (n' : Int) := by omega
        have t1 : (0 : Int) ≤ (n' : Int) := by omega
        have t2 : (n' : Int) < (s.l.length : Int) := by omega
        clear e0 e1 hz_0 hz_1 hy hp hi' hx hd hnil
        go_wp2_with (at_builtin; refine wpList_append_own _ rfl (.tmp 37) (.tmp 45) 29 rfl w'.heap.size 30 i0_ (.agg #[.int .i64 0, .int .i64 0]) 2 16 Tryz.underlying29 hi hz0 hz1 hz2 rfl (by decide) (.slice ao d.length co) d.length (cellsC 2 d.length (drF J d)) rfl (hown.alloc _) _ 1 1 [.int .i64 z0, .int .i64 z1] rfl rfl (Blk.news (cs := #[.int .i64 z0, .int .i64 z1]) (t := 30) (by repeat (first | (with_reducible assumption) | ((with_reducible refine Blk.new' ?_); (simp [Nat.add_assoc]; done)) | (with_reducible refine Blk.alloc ?_ _) | (with_reducible refine Blk.more ?_ _ _) | (with_reducible refine Blk.drew ?_) | (with_reducible refine Blk.drewN ?_ _)))) (by simp [Value.oneCell']) (by simp only [maxLen]; omega) (by omega) (by simp; omega) ?_; intro v' w5 hown5 hgrow5 hnil5; have hbw5 := (hbw.alloc hsz (.cells #[.int .i64 z0, .int .i64 z1] 30)).grown hgrow5 (by simp; omega) (own_base hown); have s2 : w5.cell? ⟨S, 2, none⟩ = some (.slice (some ⟨b, off, none⟩) s.l.length c2) := (hbw5.cell (p := ⟨S, 2, none⟩) lS).trans p2; have s3 : w5.cell? ⟨b, off + n', none⟩ = some (.int .i64 (k : Int)) := (hbw5.cell (p := ⟨b, off + n', none⟩) hb).trans hcy0; clear hnil5)
        go_roundw
        case rel =>
          have hoF : w5.ownsRow w'.heap.size 30 2 v' (d ++ [i]).length (cellsC 2 (d ++ [i]).length (drF J (d ++ [i]))) := by
            rw [List.length_append, List.length_singleton, HC.out]
            exact hown5
          exact ⟨k, d ++ [i], rfl, hkl, HD.out, fun e => absurd e (by simp), hoF, hbw5⟩
        case measure => simp [intOf]; omega
      · obtain rfl : n' = 0 := by omega
        rw [lead_zero, List.append_nil] at hd
        have HD := Lib.hid hd
        have HB : Hid (Below w.heap.size w wr) := HM.out.trans (hbw.mono hws)
        have hws2 := HB.out.size
        clear hd hlt q1 q2 q3 p1 p2 p3
        by_cases h00 : d = []
        · have hv := hnil h00
          subst h00
          cases hv
          go_wp2_with fail
          refine (rev2_nil _).mono ?_
          rintro e w5 ⟨rfl, rfl⟩
          go_wp2
          go_ret2
          refine ⟨HB.out, .inl ⟨s, none, 0, HF.out, by omega, by omega, ?_, ?_, fun p hp => by cases hp⟩⟩
          · rw [Int.toNat_natCast, HD.out]; rfl
          · rw [Int.toNat_natCast, HD.out]; exact RowC.nil
        · have hd1 : 1 ≤ d.length := by
            rcases d with _ | ⟨x, xs⟩
            · exact absurd rfl h00
            · simp
          obtain ⟨g, cap, hv', hcap, hglt⟩ := hown.form (by omega)
          injection hv' with hv1 hv2 hv3
          subst hv1 hv3
          have hcc : RC2 wr g d.length (drF J d) := fun j hj => by
            have x0 := hown.cells (g := g) rfl (j * 2 + 0) _ (cellsC_get _ hj (by omega))
            have x1 := hown.cells (g := g) rfl (j * 2 + 1) _ (cellsC_get _ hj (by omega))
            rw [addr_add0] at x0 x1
            exact ⟨x0, x1⟩
          have hff : ∀ j, wr.frozen? ⟨g, j, none⟩ = false := fun j => frozen2 hown j
          have hgb : w'.heap.size ≤ g := (own_lt hown rfl).1
          have HCC := Lib.hid hcc
          have HFF := Lib.hid hff
          clear hcc hff hown hnil
          go_wp2_with fail
          refine (rev2_any w.heap.size g d.length co (drF J d) wr ⟨hd1, by omega⟩ HCC.out HFF.out (by omega) hglt).mono ?_
          rintro e w5 ⟨rfl, hc5, hbe5, hg5⟩
          have HC5 := Lib.hid hc5
          have HB5 : Hid (Below w.heap.size w w5) := HB.out.trans hbe5
          clear hc5 hbe5
          go_wp2
          go_ret2
          refine ⟨HB5.out, .inl ⟨s, some ⟨g, 0, none⟩, co, HF.out, by omega, by omega, ?_, ?_, fun p hp => by cases hp; show w.heap.size ≤ g; omega⟩⟩
          · rw [Int.toNat_natCast, HD.out]; rfl
          · rw [Int.toNat_natCast, HD.out]
            intro _
            refine ⟨g, 0, rfl, hg5, fun k j hk hj => ?_⟩
            have h2 := HC5.out k hk
            rw [← dr_rev J d hk j]
            rcases (by omega : j = 0 ∨ j = 1) with rfl | rfl
            · rw [Nat.zero_add, Nat.add_zero]; exact h2.1
            · rw [Nat.zero_add]; exact h2.2
  · have HF := Lib.hid hF
    have HM := Lib.hid (More.trans (((More.refl w).alloc _)) hm)
    clear hF hm
    go_wp2
    go_ret2
    exact ⟨HM.out.below, .inr (.inr ⟨HF.out, rfl⟩)⟩
end Go.Proofs.YtgmljgcmfooniaaGreatDoor
