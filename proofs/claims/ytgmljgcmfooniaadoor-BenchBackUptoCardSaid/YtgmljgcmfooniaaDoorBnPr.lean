/- bench.name and bench.Print. Conditions: what the package-level variables hold (BTabs). -/
import Derived.Test.YtgmljgcmfooniaaDoorBnWrong
import Derived.Test.YtgmljgcmfooniaaDoorBnTabs
import Derived.Test.YtgmljgcmfooniaaDoorBnShelf
import Derived.Test.YtgmljgcmfooniaaDoorBnLaw
import Derived.Test.YtgmljgcmfooniaaDoorKitC
import Derived.Deep.RegionHeld3
import Derived.Shelf.Strings.PiecesUse
set_option linter.unusedVariables false
set_option linter.unusedSimpArgs false
namespace Go.Proofs.YtgmljgcmfooniaaDoor
open Go.RowKit Go.Shelf Go.Tide
set_option linter.unusedVariables false
set_option linter.unusedSimpArgs false
theorem BTabs.more {w w' : World} (h : BTabs w) (hm : More w w') : BTabs w' := h.below hm.below
abbrev namesS : ByteArray := ⟨#[118, 101, 103, 97, 115, 32, 99, 111, 112, 97, 32, 108, 101, 100, 98, 97, 116]⟩
abbrev nameV (l : List UInt8) : Value := .string ⟨l.toArray⟩
/-- strings.Fields of the names. -/
theorem fields_names (w : World) (hT : BTabs w) : Calls Tryd.prog 12 #[.string namesS] w fun e w' => e = .returned (.slice (some ⟨w.heap.size, 0, none⟩) 3 3) ∧ w' = w.alloc (.cells #[nameV bVegas, nameV bCopa, nameV bLedbat] 9) := by
  have c := Tryd.strings_Fields_laid namesS w (by decide) (by
    intro j b hb
    have : ∀ x ∈ bNames, x.toNat < 128 := by decide
    exact this b (List.mem_of_getElem? hb)) hT.sp
  have e : namesS.data.toList = bNames := rfl
  rw [e, bFields] at c
  exact c
theorem name_ok (k : Int) (hk : Hid (dKind k)) (w : World) (hT : Hid (BTabs w)) : Calls Tryd.prog 8 #[.int .i64 k] w fun e w' => e = .returned (nameV (bnName k)) ∧ More w w' := by
  have c := fields_names w hT.out
  clear hT
  have hb := Blk.new w 9 #[nameV bVegas, nameV bCopa, nameV bLedbat]
  have x0 : (w.alloc (.cells #[nameV bVegas, nameV bCopa, nameV bLedbat] 9)).cell? ⟨w.heap.size, 0, none⟩ = some (nameV bVegas) := hb.cell 0
  have x1 : (w.alloc (.cells #[nameV bVegas, nameV bCopa, nameV bLedbat] 9)).cell? ⟨w.heap.size, 1, none⟩ = some (nameV bCopa) := hb.cell 1
  have x2 : (w.alloc (.cells #[nameV bVegas, nameV bCopa, nameV bLedbat] 9)).cell? ⟨w.heap.size, 2, none⟩ = some (nameV bLedbat) := hb.cell 2
  have hm : More w (w.alloc (.cells #[nameV bVegas, nameV bCopa, nameV bLedbat] 9)) := (by repeat (first | (with_reducible assumption) | (with_reducible exact More.refl _) | (with_reducible refine More.alloc ?_ _) | (with_reducible refine More.more ?_ _ _) | (with_reducible refine More.drewN ?_ _) | (with_reducible refine More.drew ?_)))
  clear hb
  have C := Lib.hid c
  clear c
  go_enter Tryd.func8, Tryd.ntmps8
  go_wp2_with fail
  refine C.out.mono ?_
  rintro e w' ⟨rfl, rfl⟩
  clear C
  generalize (w.alloc (.cells #[nameV bVegas, nameV bCopa, nameV bLedbat] 9)) = w1 at *
  rcases hk.out with rfl | rfl | rfl
  · go_wp2
    go_ret
    exact ⟨rfl, hm⟩
  · go_wp2
    go_ret
    exact ⟨rfl, hm⟩
  · go_wp2
    go_ret
    exact ⟨rfl, hm⟩
theorem strInfo : (Tryd.prog.info? 9).map (fun i => (i.zero, i.size, i.bytes)) = some (some (.string ByteArray.empty), 1, 16) := by kernel_rfl
def nm (rate buf jit : Nat) (j : Nat) : Nat := if j = 0 then rate else if j = 1 then buf else jit
/-- The words that lie there before round j. -/
def wl (k0 k1 : Int) (rate buf jit : Nat) (j : Nat) : List Value := ((bnParts k0 k1 rate buf jit).take (2 + j)).map nameV
theorem wl_next (k0 k1 : Int) (rate buf jit : Nat) {j : Nat} (h : j < 3) : wl k0 k1 rate buf jit j ++ [nameV (Lib.decDigits (nm rate buf jit j))] = wl k0 k1 rate buf jit (j + 1) := by
  rcases (show j = 0 ∨ j = 1 ∨ j = 2 by omega) with rfl | rfl | rfl <;> rfl
theorem More.cell' {w w' : World} {b i : Nat} (h : More w w') (hb : b < w.heap.size) : w'.cell? ⟨b, i, none⟩ = w.cell? ⟨b, i, none⟩ := by
  obtain ⟨os, n, rfl⟩ := h
  exact World.cell?_more w os n b i hb
theorem More.two' {w w' : World} {b : Nat} {u v : Value} (hg : b < w.heap.size) (h0 : w.cell? ⟨b, 0, none⟩ = some u) (h1 : w.cell? ⟨b, 1, none⟩ = some v) (h : More w w') :
    w'.cell? ⟨b, 0, none⟩ = some u ∧ w'.cell? ⟨b, 1, none⟩ = some v ∧ More w w' := ⟨(More.cell' h hg).trans h0, (More.cell' h hg).trans h1, h⟩
/-- A row of another type stands where one's own grows. -/
theorem Blk.apart {w w1 : World} {b base n : Nat} {t e : TypeId} {cs : Array Value} {v : Value} {xs : List Value} (h : Blk w b t cs) (ho : w.ownsRow base e 1 v n xs) (hne : t ≠ e) (hg : w.grownBy w1 v.ownBlock) : Blk w1 b t cs := by
  refine h.grown hg fun he => ?_
  rcases ho.2 with ⟨rfl, _⟩ | ⟨g, cap, cur, rfl, _, hb, _⟩
  · cases he
  · simp only [Value.ownBlock, Option.some.injEq] at he
    subst he
    have h' := h
    unfold Blk at h'
    rw [hb] at h'
    injection h' with h'
    injection h' with _ h'
    exact hne h'.symm
set_option maxRecDepth 20000 in
set_option maxHeartbeats 4000000 in
theorem print_ok (k0 k1 : Int) (rate buf jit : Nat) (hk0 : Hid (dKind k0)) (hk1 : Hid (dKind k1)) (hn : Hid (dNums rate buf jit)) (w : World) (hT : Hid (BTabs w)) :
    Calls Tryd.prog 5 #[.agg #[.int .i64 k0, .int .i64 k1, .int .i64 rate, .int .i64 buf, .int .i64 jit]] w fun e w' => e = .returned (.tuple #[nameV (bnText k0 k1 rate buf jit), .int .i64 0]) ∧ More w w' := by
  have hE : Hid (wErr k0 k1 rate buf jit = 0) := wErr_ok hk0.out hk1.out hn.out
  go_enter Tryd.func5, Tryd.ntmps5
  go_wp2_with fail
  refine (wrong_fn k0 k1 rate buf jit _).mono ?_
  rintro e w' ⟨rfl, os1, d1, rfl⟩
  rw [hE.out]
  go_wp2_with fail
  have hB : Blk ((w.alloc (.cells #[.int .i64 k0, .int .i64 k1, .int .i64 rate, .int .i64 buf, .int .i64 jit] 24)).more os1 d1) w.heap.size 24 #[.int .i64 k0, .int .i64 k1, .int .i64 rate, .int .i64 buf, .int .i64 jit] := (by repeat (first | (with_reducible assumption) | ((with_reducible refine Blk.new' ?_); (simp [Nat.add_assoc]; done)) | (with_reducible refine Blk.alloc ?_ _) | (with_reducible refine Blk.more ?_ _ _) | (with_reducible refine Blk.drew ?_) | (with_reducible refine Blk.drewN ?_ _)))
  have hm : More w ((w.alloc (.cells #[.int .i64 k0, .int .i64 k1, .int .i64 rate, .int .i64 buf, .int .i64 jit] 24)).more os1 d1) := (by repeat (first | (with_reducible exact More.refl _) | (with_reducible refine More.alloc ?_ _) | (with_reducible refine More.more ?_ _ _) | (with_reducible refine More.drewN ?_ _) | (with_reducible refine More.drew ?_)))
  generalize ((w.alloc (.cells #[.int .i64 k0, .int .i64 k1, .int .i64 rate, .int .i64 buf, .int .i64 jit] 24)).more os1 d1) = wb at *
  have hTb : Hid (BTabs wb) := hT.out.more hm
  have hg := hB.lt
  have hc0 : wb.cell? ⟨w.heap.size, 0, none⟩ = some (.int .i64 k0) := hB.cell 0
  have hc1 : wb.cell? ⟨w.heap.size, 1, none⟩ = some (.int .i64 k1) := hB.cell 1
  go_region_held (fun w' => w'.cell? ⟨w.heap.size, 0, none⟩ = some (.int .i64 k0) ∧ w'.cell? ⟨w.heap.size, 1, none⟩ = some (.int .i64 k1) ∧ More wb w') (exact More.two' hg hc0 hc1 (by repeat (first | (with_reducible assumption) | (with_reducible exact More.refl _) | (with_reducible refine More.alloc ?_ _) | (with_reducible refine More.more ?_ _ _) | (with_reducible refine More.drewN ?_ _) | (with_reducible refine More.drew ?_)))) (first
    | (go_at_call 8; refine (name_ok k0 hk0 _ (hTb.out.more (by repeat (first | (with_reducible assumption) | (with_reducible exact More.refl _) | (with_reducible refine More.alloc ?_ _) | (with_reducible refine More.more ?_ _ _) | (with_reducible refine More.drewN ?_ _) | (with_reducible refine More.drew ?_))))).mono ?_; rintro e w' ⟨rfl, os5, d5, rfl⟩)
    | (go_at_call 8; refine (name_ok k1 hk1 _ (hTb.out.more (by repeat (first | (with_reducible assumption) | (with_reducible exact More.refl _) | (with_reducible refine More.alloc ?_ _) | (with_reducible refine More.more ?_ _ _) | (with_reducible refine More.drewN ?_ _) | (with_reducible refine More.drew ?_))))).mono ?_; rintro e w' ⟨rfl, os6, d6, rfl⟩))
  have hm2 : More w ((wb.more os5 d5).more os6 d6) := hm.trans (by repeat (first | (with_reducible exact More.refl _) | (with_reducible refine More.alloc ?_ _) | (with_reducible refine More.more ?_ _ _) | (with_reducible refine More.drewN ?_ _) | (with_reducible refine More.drew ?_)))
  have hB2 : Blk ((wb.more os5 d5).more os6 d6) w.heap.size 24 #[.int .i64 k0, .int .i64 k1, .int .i64 rate, .int .i64 buf, .int .i64 jit] := (by repeat (first | (with_reducible assumption) | ((with_reducible refine Blk.new' ?_); (simp [Nat.add_assoc]; done)) | (with_reducible refine Blk.alloc ?_ _) | (with_reducible refine Blk.more ?_ _ _) | (with_reducible refine Blk.drew ?_) | (with_reducible refine Blk.drewN ?_ _)))
  have hD : ((wb.more os5 d5).more os6 d6).heap.size = wb.heap.size + (os5.size + os6.size) := by simp [Nat.add_assoc]
  generalize wb.heap.size + (os5.size + os6.size) = D at *
  generalize ((wb.more os5 d5).more os6 d6) = wy at *
  subst hD
  clear hB hc0 hc1 hm hg hTb hT
  have hown0 : (wy.alloc (.cells #[nameV (bnName k0), nameV (bnName k1)] 9)).ownsRow wy.heap.size 9 1 (.slice (some ⟨wy.heap.size, 0, none⟩) 2 2) 2 (wl k0 k1 rate buf jit 0) := World.ownsRow_lit wy #[nameV (bnName k0), nameV (bnName k1)] 2 (Nat.le_refl _) (by decide) (by simp)
  have hbl0 : Below wy.heap.size wy (wy.alloc (.cells #[nameV (bnName k0), nameV (bnName k1)] 9)) := (Below.refl _ _).alloc (Nat.le_refl _) _
  replace hB2 := hB2.alloc (.cells #[nameV (bnName k0), nameV (bnName k1)] 9)
  generalize (wy.alloc (.cells #[nameV (bnName k0), nameV (bnName k1)] 9)) = wx at *
  have c2 : wx.cell? ⟨w.heap.size, 2, none⟩ = some (.int .i64 rate) := hB2.cell 2
  have c3 : wx.cell? ⟨w.heap.size, 3, none⟩ = some (.int .i64 buf) := hB2.cell 3
  have c4 : wx.cell? ⟨w.heap.size, 4, none⟩ = some (.int .i64 jit) := hB2.cell 4
  have hlt := hB2.lt
  clear hB2
  have HO := Lib.hid hown0
  clear hown0
  go_wp2_with fail
  have hI : Blk (wx.alloc (.cells #[.int .i64 rate, .int .i64 buf, .int .i64 jit] 3)) wx.heap.size 3 #[.int .i64 rate, .int .i64 buf, .int .i64 jit] := Blk.new _ _ _
  have hown1 := HO.out.alloc (.cells #[.int .i64 rate, .int .i64 buf, .int .i64 jit] 3)
  have hbl1 : Below wy.heap.size wy (wx.alloc (.cells #[.int .i64 rate, .int .i64 buf, .int .i64 jit] 3)) := hbl0.alloc hbl0.size _
  clear c2 c3 c4 hlt hbl0 HO
  generalize (wx.alloc (.cells #[.int .i64 rate, .int .i64 buf, .int .i64 jit] 3)) = wz at *
  generalize wx.heap.size = X at *
  go_loopw [5, 30] (fun l i wr => ∃ j : Nat, i = .int .i64 j ∧ j ≤ 3 ∧ wr.ownsRow wy.heap.size 9 1 l (2 + j) (wl k0 k1 rate buf jit j) ∧ Blk wr X 3 #[.int .i64 rate, .int .i64 buf, .int .i64 jit] ∧ Below wy.heap.size wy wr) (fun _ i _ => 3 - (intOf i).toNat)
  case atStart => exact ⟨0, rfl, by omega, hown1, hI, hbl1⟩
  case round =>
    obtain ⟨j, rfl, hj, hown, hI, hbl⟩ := hrel
    by_cases hlt : j < 3
    · have hcell : wr.cell? ⟨X, j, none⟩ = some (.int .i64 (nm rate buf jit j : Nat)) := by
        rw [hI.cell]
        rcases (show j = 0 ∨ j = 1 ∨ j = 2 by omega) with rfl | rfl | rfl <;> rfl
      have hlI := hI.lt
      have hj3 : decide ((j : Int) < 3) = true := by simp; omega
      have hN : nm rate buf jit j < 17 := by
        have h := hn.out
        unfold dNums at h
        unfold nm
        split
        · omega
        · split <;> omega
      have hnext := wl_next k0 k1 rate buf jit hlt
      have hlen : 2 + (j + 1) = 2 + j + 1 := by omega
      obtain ⟨i0, hi, hz0, hz1, hz2⟩ := info_parts strInfo
      have HNX := Lib.hid hnext
      have HIs := Lib.hid hI
      clear hnext hI
      go_wp2_with (first
        | (go_at_call 9; refine (Tryd.strconv_Itoa_small (nm rate buf jit j) (by omega) _).mono ?_; rintro e w' ⟨rfl, rfl⟩)
        | (at_builtin; refine wpList_append_own _ rfl _ _ 34 rfl wy.heap.size 9 i0 (.string ByteArray.empty) 1 16 Tryd.underlying34 hi hz0 hz1 hz2 rfl (by decide) _ _ _ rfl (hown.alloc _) _ _ _ [nameV (Lib.decDigits (nm rate buf jit j))] rfl rfl (cell_one _ _ _) (by simp [Value.oneCell']) (by simp only [maxLen]; omega) (by omega) (Nat.le_trans hbl.size (by simp)) ?_; intro v' w1 hown' hgrow hnil; clear hnil))
      go_roundw
      case rel =>
        rw [HNX.out] at hown'
        refine ⟨j + 1, by go_num, by omega, hown', ?_, ?_⟩
        · exact Blk.apart (Blk.alloc HIs.out _) (hown.alloc _) (by decide) hgrow
        · exact (hbl.alloc hbl.size _).grown hgrow (Nat.le_trans hbl.size (by simp)) fun k hk => (hown.lt k hk).1
      case measure => simp [intOf]; omega
    · obtain rfl : j = 3 := by omega
      have hform : ∃ g cap, u5 = .slice (some ⟨g, 0, none⟩) 5 cap ∧ 5 ≤ cap ∧ g < wr.heap.size := by
        rcases hown.2 with ⟨_, h⟩ | ⟨g, cap, cur, h1, h2, h3, h4, _⟩
        · omega
        · exact ⟨g, cap, h1, h4, by rcases Nat.lt_or_ge g wr.heap.size with h' | h'; exact h'; simp [Array.getElem?_eq_none h'] at h3⟩
      obtain ⟨g, cap, rfl, hcap, hgl⟩ := hform
      have hcs : ∀ (j : Nat) x, ((bnParts k0 k1 rate buf jit).map fun l => (⟨l.toArray⟩ : ByteArray))[j]? = some x → wr.cell? ⟨g, 0 + j, none⟩ = some (.string x) := by
        intro j x hx
        have := hown.cells (g := g) rfl j (.string x) (by
          show (((bnParts k0 k1 rate buf jit).take 5).map nameV)[j]? = _
          rw [List.take_of_length_le (by simp [bnParts])]
          simp only [List.getElem?_map, Option.map_eq_some_iff] at hx ⊢
          obtain ⟨y, hy, rfl⟩ := hx
          exact ⟨y, hy, rfl⟩)
        rw [Addr.add_lit] at this
        exact this
      have cJ := Tryd.strings_Join g 0 cap ((bnParts k0 k1 rate buf jit).map fun l => (⟨l.toArray⟩ : ByteArray)) ⟨#[32]⟩ wr hcs hgl (by simp [bnParts]) (by simpa [bnParts] using hcap) (by
        have h := hn.out
        unfold dNums at h
        have := bnText_len (k0 := k0) (k1 := k1) (rate := rate) (buf := buf) (jit := jit) (by omega) (by omega) (by omega)
        have e : ((bnParts k0 k1 rate buf jit).map fun l => (⟨l.toArray⟩ : ByteArray)).map (·.data.toList) = bnParts k0 k1 rate buf jit := by simp [Function.comp_def]
        rw [e]
        exact Nat.le_trans this (by decide))
      have e : ((bnParts k0 k1 rate buf jit).map fun l => (⟨l.toArray⟩ : ByteArray)).map (·.data.toList) = bnParts k0 k1 rate buf jit := by simp [Function.comp_def]
      rw [e] at cJ
      have e2 : ((bnParts k0 k1 rate buf jit).map fun l => (⟨l.toArray⟩ : ByteArray)).length = 5 := rfl
      rw [e2] at cJ
      have CJ := Lib.hid cJ
      clear cJ hcs hown e e2
      go_wp2_with (go_at_call 10; refine CJ.out.mono ?_; rintro e w' ⟨rfl, hbj⟩)
      go_ret2
      exact ⟨rfl, hm2.trans (More.of_below (hbl.trans (hbj.mono hbl.size)))⟩
/-- The rules are right. -/
def BOk (k0 k1 rate buf jit : Int) : Prop := dKind k0 ∧ dKind k1 ∧ dNums rate buf jit
set_option maxRecDepth 20000 in
theorem print_bad (k0 k1 rate buf jit : Int) (h : Hid (¬ BOk k0 k1 rate buf jit)) (w : World) :
    Calls Tryd.prog 5 #[.agg #[.int .i64 k0, .int .i64 k1, .int .i64 rate, .int .i64 buf, .int .i64 jit]] w fun e w' => e = .returned (.tuple #[.string ⟨#[]⟩, .int .i64 (wErr k0 k1 rate buf jit)]) ∧ More w w' := by
  obtain ⟨er, hE⟩ : ∃ er, Hid (wErr k0 k1 rate buf jit = er ∧ er ≠ 0) := ⟨_, rfl, by rcases wErr_no h.out with h | h <;> rw [h] <;> decide⟩
  have g : (er != 0) = true := by simpa using hE.out.2
  rw [hE.out.1]
  go_enter Tryd.func5, Tryd.ntmps5
  go_wp2_with fail
  refine (wrong_fn k0 k1 rate buf jit _).mono ?_
  rintro e w' ⟨rfl, os1, d1, rfl⟩
  rw [hE.out.1]
  go_wp2
  go_ret2
  exact ⟨rfl, (by repeat (first | (with_reducible exact More.refl _) | (with_reducible refine More.alloc ?_ _) | (with_reducible refine More.more ?_ _ _) | (with_reducible refine More.drewN ?_ _) | (with_reducible refine More.drew ?_)))⟩
/-- What Print answers. -/
def PPr (k0 k1 rate buf jit : Int) (t : ByteArray) (er : Int) : Prop :=
  (∃ a b c : Nat, rate = a ∧ buf = b ∧ jit = c ∧ BOk k0 k1 rate buf jit ∧ t = ⟨(bnText k0 k1 a b c).toArray⟩ ∧ er = 0) ∨ (¬ BOk k0 k1 rate buf jit ∧ t = ⟨#[]⟩ ∧ er = wErr k0 k1 rate buf jit ∧ er ≠ 0)
theorem print_any (k0 k1 rate buf jit : Int) (w : World) (hT : Hid (BTabs w)) :
    Calls Tryd.prog 5 #[.agg #[.int .i64 k0, .int .i64 k1, .int .i64 rate, .int .i64 buf, .int .i64 jit]] w fun e w' => ∃ t er, e = .returned (.tuple #[.string t, .int .i64 er]) ∧ Hid (PPr k0 k1 rate buf jit t er) ∧ More w w' := by
  by_cases h : BOk k0 k1 rate buf jit
  · have hn := h.2.2
    unfold dNums at hn
    obtain ⟨a, rfl⟩ : ∃ n : Nat, rate = n := ⟨rate.toNat, by omega⟩
    obtain ⟨b, rfl⟩ : ∃ n : Nat, buf = n := ⟨buf.toNat, by omega⟩
    obtain ⟨c, rfl⟩ : ∃ n : Nat, jit = n := ⟨jit.toNat, by omega⟩
    exact (print_ok k0 k1 a b c h.1 h.2.1 h.2.2 w hT).mono fun e w' ⟨h1, h2⟩ => ⟨_, _, h1, .inl ⟨a, b, c, rfl, rfl, rfl, h, rfl, rfl⟩, h2⟩
  · exact (print_bad k0 k1 rate buf jit h w).mono fun e w' ⟨h1, h2⟩ => ⟨_, _, h1, .inr ⟨h, rfl, rfl, by rcases wErr_no h with h | h <;> rw [h] <;> decide⟩, h2⟩
end Go.Proofs.YtgmljgcmfooniaaDoor
