/- bench.Tell. Conditions: what the package-level variables hold (BTabs); a text of less than 4294967281 bytes. -/
import Derived.Test.YtgmljgcmfooniaaGreatDoorBnM
import Derived.Test.YtgmljgcmfooniaaGreatDoorVdM
import Derived.Lib.ItoaLen
set_option linter.unusedVariables false
set_option linter.unusedSimpArgs false
namespace Go.Proofs.YtgmljgcmfooniaaGreatDoor
open Go.RowKit Go.Shelf Go.Tide
set_option linter.unusedVariables false
set_option linter.unusedSimpArgs false
/-- verdict.Judge, with how great Most may be. -/
theorem judge_b (k0 k1 rate buf jit who ratio : Int) (w : World) :
    Calls Tryz.prog 12 #[.agg #[.int .i64 k0, .int .i64 k1, .int .i64 rate, .int .i64 buf, .int .i64 jit], .int .i64 who, .int .i64 ratio] w fun e w' => Below w.heap.size w w' ∧ ∃ (kd mo : Int) (sa : Option Addr) (sn sc : Nat) (ta : Option Addr) (tn tc : Nat) (er : Int),
      e = .returned (.tuple #[.agg #[.int .i64 kd, .int .i64 mo, .slice sa sn sc, .slice ta tn tc], .int .i64 er]) ∧ Hid (JFacts k0 k1 rate buf jit who ratio kd mo er ∧ 0 ≤ mo ∧ mo ≤ 2000000000000) := by
  by_cases h : VdOk k0 k1 rate buf jit who ratio
  · have hK := h
    obtain ⟨⟨hk0, hk1, hn⟩, ⟨hw0, hw1⟩, hr0, hr1⟩ := hK
    have hnn := hn
    obtain ⟨n1, n2, n3, n4, n5, n6⟩ := hnn
    obtain ⟨rate, rfl⟩ : ∃ n : Nat, rate = n := ⟨rate.toNat, by omega⟩
    obtain ⟨buf, rfl⟩ : ∃ n : Nat, buf = n := ⟨buf.toNat, by omega⟩
    obtain ⟨J, rfl⟩ : ∃ n : Nat, jit = n := ⟨jit.toNat, by omega⟩
    obtain ⟨who, rfl⟩ : ∃ n : Nat, who = n := ⟨who.toNat, by omega⟩
    refine (judge_any ⟨k0, k1, rate, buf, (J : Nat)⟩ J rfl ⟨hk0, hk1, hn⟩ who ratio (by omega) ⟨hr0, hr1⟩ w).mono ?_
    rintro e w' ⟨hb, ⟨hF, rfl⟩ | ⟨M, hF, hV, hM0, hM1, rfl⟩ | ⟨ld, lf, a, c, m, rf, a2, c2, hF, hS, _, _, rfl, _, _⟩⟩
    · exact ⟨hb, 0, 0, none, 0, 0, none, 0, 0, 4, rfl, .inr (.inl ⟨rfl, h, hF⟩), by omega, by omega⟩
    · exact ⟨hb, 1, M, none, 0, 0, none, 0, 0, 0, rfl, .inl ⟨rfl, h, hF, .inl ⟨rfl, hV⟩⟩, hM0, hM1⟩
    · exact ⟨hb, 2, 0, a, ld, c, a2, m, c2, 0, rfl, .inl ⟨rfl, h, hF, .inr ⟨rfl, fun ⟨M, hM⟩ => starve_not hS hM⟩⟩, by omega, by omega⟩
  · refine (judge_bad k0 k1 rate buf jit who ratio w h).mono ?_
    rintro e w' ⟨er, he, rfl, hb⟩
    exact ⟨hb, 0, 0, none, 0, 0, none, 0, 0, er, rfl, .inr (.inr ⟨he, h⟩), by omega, by omega⟩
theorem below_grows (w : World) (k : Nat) (os : Array Obj) : Below w.heap.size w (Sort.grow (w.drewN k) os) :=
  ⟨rfl, rfl, rfl, by simp [Sort.grow, World.drewN], fun i hi => by simp [Sort.grow, World.drewN, Array.getElem?_append, hi]⟩
/-- strconv.Itoa of a number that is not great. -/
theorem itoa_any (n : Int) (h0 : 0 ≤ n) (h1 : n ≤ 2000000000000) (w : World) (hT : BTabs w) :
    Calls Tryz.prog 30 #[.int .i64 n] w fun e w' => e = .returned (.string ⟨(Lib.itoa n).toArray⟩) ∧ More w w' :=
  (Tryz.strconv_Itoa n (by omega) (by omega) w hT.pw).mono fun e w' ⟨h1, k, os, h2⟩ => ⟨h1, More.of_below (by rw [h2]; exact below_grows _ _ _)⟩
/-- A line. -/
def lineS (who kd mo : Int) : ByteArray := if kd = 2 then ⟨(Lib.itoa who ++ [32, 115, 116, 97, 114, 118, 101, 115]).toArray⟩ else ⟨((Lib.itoa who ++ [32, 98, 111, 117, 110, 100, 101, 100, 32]) ++ Lib.itoa mo).toArray⟩
theorem own_below {w w' : World} {base n size : Nat} {e : TypeId} {v : Value} {xs : List Value} (h : w.ownsRow base e size v n xs) (hb : Below w.heap.size w w') : w'.ownsRow base e size v n xs := by
  refine ⟨h.1, ?_⟩
  rcases h.2 with h | ⟨g, cap, cur, h1, h2, h3, h4⟩
  · exact .inl h
  · have hg : g < w.heap.size := by
      rcases Nat.lt_or_ge g w.heap.size with h' | h'
      · exact h'
      · simp [Array.getElem?_eq_none h'] at h3
    exact .inr ⟨g, cap, cur, h1, h2, (hb.block g hg).trans h3, h4⟩
/-- The lines so far. -/
def lnL (KD MO : Nat → Int) (j : Nat) : List Value := (List.range j).map fun a => .string (lineS (a : Nat) (KD a) (MO a))
theorem lnL_next (KD MO : Nat → Int) (j : Nat) : lnL KD MO j ++ [.string (lineS (j : Nat) (KD j) (MO j))] = lnL KD MO (j + 1) := by simp [lnL, List.range_succ]
theorem lnL_congr {KD MO KD' MO' : Nat → Int} {j : Nat} (h : ∀ a, a < j → KD a = KD' a ∧ MO a = MO' a) : lnL KD MO j = lnL KD' MO' j := by
  unfold lnL
  refine List.map_congr_left fun a ha => ?_
  obtain ⟨h1, h2⟩ := h a (List.mem_range.1 ha)
  rw [h1, h2]
theorem bytes_app (a b : List UInt8) : (⟨a.toArray⟩ : ByteArray) ++ ⟨b.toArray⟩ = ⟨(a ++ b).toArray⟩ := by
  apply ByteArray.ext
  simp
theorem itoa_nat (j : Nat) : Lib.itoa (j : Int) = Lib.decDigits j := by
  unfold Lib.itoa
  rw [if_neg (by omega)]
  simp
theorem line_starves (j : Nat) (mo : Int) : (⟨(Lib.decDigits j).toArray⟩ : ByteArray) ++ ⟨#[32, 115, 116, 97, 114, 118, 101, 115]⟩ = lineS (j : Nat) 2 mo := by
  rw [lineS, if_pos rfl, itoa_nat]
  exact bytes_app _ _
theorem line_bounded (j : Nat) (kd mo : Int) (h : ¬ kd = 2) : ((⟨(Lib.decDigits j).toArray⟩ : ByteArray) ++ ⟨#[32, 98, 111, 117, 110, 100, 101, 100, 32]⟩) ++ ⟨(Lib.itoa mo).toArray⟩ = lineS (j : Nat) kd mo := by
  rw [lineS, if_neg h, itoa_nat, bytes_app (Lib.decDigits j) [32, 98, 111, 117, 110, 100, 101, 100, 32], bytes_app]
theorem ln_step (KD MO : Nat → Int) (j : Nat) (kd mo : Int) : lnL KD MO j ++ [.string (lineS (j : Nat) kd mo)] = lnL (fun i => if i < j then KD i else kd) (fun i => if i < j then MO i else mo) (j + 1) := by
  rw [← lnL_next]
  have e := lnL_congr (KD := KD) (MO := MO) (KD' := fun i => if i < j then KD i else kd) (MO' := fun i => if i < j then MO i else mo) (j := j) (fun a ha => by simp [ha])
  rw [e]
  simp
/-- What Tell's lines say: of each of both. -/
def TOk (k0 k1 a b c ratio : Int) (KD MO : Nat → Int) (j : Nat) : Prop := ∀ i : Nat, i < j → JFacts k0 k1 a b c (i : Nat) ratio (KD i) (MO i) 0
theorem tok_next {k0 k1 a b c ratio : Int} {KD MO : Nat → Int} {j : Nat} {kd mo : Int} (h : TOk k0 k1 a b c ratio KD MO j) (hj : JFacts k0 k1 a b c (j : Nat) ratio kd mo 0) :
    TOk k0 k1 a b c ratio (fun i => if i < j then KD i else kd) (fun i => if i < j then MO i else mo) (j + 1) := by
  intro i hi
  by_cases h1 : i < j
  · have := h i h1
    simpa [h1] using this
  · obtain rfl : i = j := by omega
    simpa using hj
/-- Why Tell has no lines. -/
def TBad (s : ByteArray) (ratio er : Int) : Prop :=
  (∃ k0 k1 a b c, PPa s k0 k1 a b c er) ∨ ∃ (k0 k1 a b c : Int) (j : Nat) (kd mo : Int), PPa s k0 k1 a b c 0 ∧ j < 2 ∧ JFacts k0 k1 a b c (j : Nat) ratio kd mo er
set_option maxRecDepth 20000 in
set_option maxHeartbeats 4000000 in
theorem tell_any (s : ByteArray) (hs : s.size < 4294967281) (ratio : Int) (w : World) (hT : Hid (BTabs w)) :
    Calls Tryz.prog 8 #[.string s, .int .i64 ratio] w fun e w' => Below w.heap.size w w' ∧ ((∃ er : Int, er ≠ 0 ∧ e = .returned (.tuple #[.slice none 0 0, .int .i64 er]) ∧ TBad s ratio er) ∨
      (∃ k0 k1 a b c KD MO g cap, PPa s k0 k1 a b c 0 ∧ TOk k0 k1 a b c ratio KD MO 2 ∧ w'.ownsRow w.heap.size 9 1 (.slice (some ⟨g, 0, none⟩) 2 cap) 2 (lnL KD MO 2) ∧ e = .returned (.tuple #[.slice (some ⟨g, 0, none⟩) 2 cap, .int .i64 0]))) := by
  go_enter Tryz.func8, Tryz.ntmps8
  go_wp2_with fail
  refine (parse_any s hs _ (hT.out.more (by repeat (first | (with_reducible exact More.refl _) | (with_reducible refine More.alloc ?_ _) | (with_reducible refine More.more ?_ _ _) | (with_reducible refine More.drewN ?_ _) | (with_reducible refine More.drew ?_))))).mono ?_
  rintro e w' ⟨k0, k1, a, b, c, er, rfl, HP, os, d, rfl⟩
  by_cases h0 : er = 0
  · subst h0
    have hM0 : More w ((w.more os d).alloc (.cells #[.int .i64 k0, .int .i64 k1, .int .i64 a, .int .i64 b, .int .i64 c] 32)) := (by repeat (first | (with_reducible exact More.refl _) | (with_reducible refine More.alloc ?_ _) | (with_reducible refine More.more ?_ _ _) | (with_reducible refine More.drewN ?_ _) | (with_reducible refine More.drew ?_)))
    go_wp2_with fail
    have hR : Blk ((w.more os d).alloc (.cells #[.int .i64 k0, .int .i64 k1, .int .i64 a, .int .i64 b, .int .i64 c] 32)) (w.heap.size + os.size) 32 #[.int .i64 k0, .int .i64 k1, .int .i64 a, .int .i64 b, .int .i64 c] := Blk.new' (by simp)
    have hB : Below w.heap.size w ((w.more os d).alloc (.cells #[.int .i64 k0, .int .i64 k1, .int .i64 a, .int .i64 b, .int .i64 c] 32)) := More.below hM0
    clear hM0
    have hG : w.heap.size ≤ w.heap.size + os.size := by omega
    generalize ((w.more os d).alloc (.cells #[.int .i64 k0, .int .i64 k1, .int .i64 a, .int .i64 b, .int .i64 c] 32)) = wz at *
    generalize w.heap.size + os.size = R at *
    go_loopw [8, 20] (fun out i wr => ∃ (j : Nat) (KD MO : Nat → Int), i = .int .i64 j ∧ j ≤ 2 ∧ Hid (TOk k0 k1 a b c ratio KD MO j) ∧ wr.ownsRow w.heap.size 9 1 out j (lnL KD MO j) ∧ Blk wr R 32 #[.int .i64 k0, .int .i64 k1, .int .i64 a, .int .i64 b, .int .i64 c] ∧ Below w.heap.size w wr) (fun _ i _ => 2 - (intOf i).toNat)
    case atStart => exact ⟨0, fun _ => 0, fun _ => 0, rfl, by omega, (fun i hi => by omega), World.ownsRow_nil _ _ _ _, hR, hB⟩
    case round =>
      clear hR hB
      obtain ⟨j, KD, MO, rfl, hj, HK, hown, hR, hB⟩ := hrel
      by_cases hlt : j < 2
      · have q1 : decide ((j : Int) < 2) = true := by simp; omega
        have r0 : wr.cell? ⟨R, 0, none⟩ = some (.int .i64 k0) := hR.cell 0
        have r1 : wr.cell? ⟨R, 1, none⟩ = some (.int .i64 k1) := hR.cell 1
        have r2 : wr.cell? ⟨R, 2, none⟩ = some (.int .i64 a) := hR.cell 2
        have r3 : wr.cell? ⟨R, 3, none⟩ = some (.int .i64 b) := hR.cell 3
        have r4 : wr.cell? ⟨R, 4, none⟩ = some (.int .i64 c) := hR.cell 4
        have lR := hR.lt
        have HR := Lib.hid hR
        have HO := Lib.hid hown
        clear hR hown
        go_wp2_with fail
        refine (judge_b k0 k1 a b c (j : Nat) ratio _).mono ?_
        rintro e wj ⟨hbj, kd, mo, sa, sn, sc, ta, tn, tc, er, rfl, HJ⟩
        have hown := own_below HO.out hbj
        have hR := HR.out.below hbj lR
        have hB2 : Below w.heap.size w wj := hB.trans (hbj.mono hB.size)
        clear r0 r1 r2 r3 r4 lR HR HO hbj hB
        go_upto_region 10 with (refine wpList_store_row rfl _ _ _ rfl wj.heap.size #[.int .i64 kd, .int .i64 mo, .slice sa sn sc, .slice ta tn tc] rfl rfl 36 #[.int .i64 0, .int .i64 0, .slice none 0 0, .slice none 0 0] (Blk.new wj _ _) (by kernel_rfl) rfl (by simp [Value.oneCell']) ?_)
        have hV : Blk ((wj.alloc (.cells #[.int .i64 0, .int .i64 0, .slice none 0 0, .slice none 0 0] 36)).setRow wj.heap.size #[.int .i64 kd, .int .i64 mo, .slice sa sn sc, .slice ta tn tc]) wj.heap.size 36 #[.int .i64 kd, .int .i64 mo, .slice sa sn sc, .slice ta tn tc] := newRow
        have hn : Below wj.heap.size wj ((wj.alloc (.cells #[.int .i64 0, .int .i64 0, .slice none 0 0, .slice none 0 0] 36)).setRow wj.heap.size #[.int .i64 kd, .int .i64 mo, .slice sa sn sc, .slice ta tn tc]) := newRow_below
        replace hown := own_below hown hn
        replace hR := hR.below hn hR.lt
        replace hB2 := hB2.trans (hn.mono hB2.size)
        generalize ((wj.alloc (.cells #[.int .i64 0, .int .i64 0, .slice none 0 0, .slice none 0 0] 36)).setRow wj.heap.size #[.int .i64 kd, .int .i64 mo, .slice sa sn sc, .slice ta tn tc]) = w1 at *
        clear hn
        generalize wj.heap.size = V at *
        by_cases h1 : er = 0
        · subst h1
          have x0 : w1.cell? ⟨V, 0, none⟩ = some (.int .i64 kd) := hV.cell 0
          have x1 : w1.cell? ⟨V, 1, none⟩ = some (.int .i64 mo) := hV.cell 1
          have lV := hV.lt
          have HV := Lib.hid hV
          have HR := Lib.hid hR
          have HO := Lib.hid hown
          clear hV hR hown
          by_cases h2 : kd = 2
          · subst h2
            obtain ⟨i0, hi, hz0, hz1, hz2⟩ := info_parts strInfo
            have hown := HO.out
            have ql : ¬ 9223372036854775807 < (Lib.decDigits j).length + 8 := by have := dec_len (n := j) (by omega); omega
            clear HO
            go_wp2_with fail
            refine (Tryz.strconv_Itoa_small j (by omega) _).mono ?_
            rintro e w' ⟨rfl, rfl⟩
            go_wp2_with (at_builtin; refine wpList_append_own _ rfl _ _ 23 rfl w.heap.size 9 i0 (.string ByteArray.empty) 1 16 Tryz.underlying23 hi hz0 hz1 hz2 rfl (by decide) _ _ _ rfl (hown.alloc _) _ _ _ [.string _] rfl rfl (cell_one _ _ _) (by simp [Value.oneCell']) (by simp only [maxLen]; omega) (by omega) (Nat.le_trans hB2.size (by simp)) ?_; intro v' w2 hown' hgrow hnil; clear hnil)
            go_roundw
            case rel =>
              rw [line_starves j mo, ln_step] at hown'
              exact ⟨j + 1, _, _, by go_num, by omega, tok_next HK.out HJ.out.1, hown', Blk.apart (Blk.alloc HR.out _) (hown.alloc _) (by decide) hgrow, (hB2.alloc hB2.size _).grown hgrow (Nat.le_trans hB2.size (by simp)) fun k hk => (hown.lt k hk).1⟩
            case measure => simp [intOf]; omega
          · have q2 : (kd == 2) = false := by simpa using h2
            obtain ⟨i0, hi, hz0, hz1, hz2⟩ := info_parts strInfo
            have hown := HO.out
            have hil : (Lib.itoa mo).length ≤ 21 := by have := HJ.out.2; exact Lib.itoa_length_le mo (by omega) (by omega)
            have ql : ¬ 9223372036854775807 < (Lib.decDigits j).length + 9 := by have := dec_len (n := j) (by omega); omega
            have ql2 : ¬ 9223372036854775807 < (Lib.decDigits j).length + 9 + (Lib.itoa mo).length := by have := dec_len (n := j) (by omega); omega
            have ql3 : ¬ 9223372036854775807 < (Lib.decDigits j).length + (9 + (Lib.itoa mo).length) := by omega
            have hJ2 := HJ.out.2
            clear HO hil
            have HT := Lib.hid (hT.out.below hB2)
            go_wp2_with fail
            go_region_held3 (fun w' => w'.cell? ⟨V, 1, none⟩ = some (.int .i64 mo)) (first | exact x1 | exact (Blk.apart (show Blk ((w1.more os2 d2).alloc _) V _ _ from (HV.out.more os2 d2).alloc _) (own_below hown (More.below (show More w1 ((w1.more os2 d2).alloc _) from (by repeat (first | (with_reducible exact More.refl _) | (with_reducible refine More.alloc ?_ _) | (with_reducible refine More.more ?_ _ _) | (with_reducible refine More.drewN ?_ _) | (with_reducible refine More.drew ?_)))))) (by decide) hgrow).cell 1 | exact (More.cell' (show More w1 _ from (by repeat (first | (with_reducible exact More.refl _) | (with_reducible refine More.alloc ?_ _) | (with_reducible refine More.more ?_ _ _) | (with_reducible refine More.drewN ?_ _) | (with_reducible refine More.drew ?_)))) lV).trans x1) (first
              | (go_at_call 30; refine (Tryz.strconv_Itoa_small j (by omega) _).mono ?_; rintro e w' ⟨rfl, rfl⟩)
              | (go_at_call 30; refine (itoa_any mo hJ2.1 hJ2.2 _ (HT.out.more (by repeat (first | (with_reducible exact More.refl _) | (with_reducible refine More.alloc ?_ _) | (with_reducible refine More.more ?_ _ _) | (with_reducible refine More.drewN ?_ _) | (with_reducible refine More.drew ?_))))).mono ?_; rintro e w' ⟨rfl, os2, d2, rfl⟩)
              | (refine step_append_lies _ (by rfl) _ _ _ (by rfl) _ 9 i0 _ 1 16 Tryz.underlying23 hi hz0 hz1 hz2 rfl (by omega) _ _ _ (by rfl) (own_below hown (show Below w1.heap.size w1 ((w1.more os2 d2).alloc (.cells #[.string (((⟨(Lib.decDigits j).toArray⟩ : ByteArray) ++ ⟨#[32, 98, 111, 117, 110, 100, 101, 100, 32]⟩) ++ ⟨(Lib.itoa mo).toArray⟩)] 9)) from More.below (by repeat (first | (with_reducible exact More.refl _) | (with_reducible refine More.alloc ?_ _) | (with_reducible refine More.more ?_ _ _) | (with_reducible refine More.drewN ?_ _) | (with_reducible refine More.drew ?_))))) ⟨w1.heap.size + os2.size, 0, none⟩ 1 1 [.string (((⟨(Lib.decDigits j).toArray⟩ : ByteArray) ++ ⟨#[32, 98, 111, 117, 110, 100, 101, 100, 32]⟩) ++ ⟨(Lib.itoa mo).toArray⟩)] (by rfl) (by rfl) (Blk.news (cs := #[.string (((⟨(Lib.decDigits j).toArray⟩ : ByteArray) ++ ⟨#[32, 98, 111, 117, 110, 100, 101, 100, 32]⟩) ++ ⟨(Lib.itoa mo).toArray⟩)]) (t := 9) (show Blk ((w1.more os2 d2).alloc (.cells #[.string (((⟨(Lib.decDigits j).toArray⟩ : ByteArray) ++ ⟨#[32, 98, 111, 117, 110, 100, 101, 100, 32]⟩) ++ ⟨(Lib.itoa mo).toArray⟩)] 9)) _ _ _ from Blk.new' (by simp))) (by simp [Value.oneCell']) (by omega) (by simp only [maxLen]; omega) (by omega) (Nat.le_trans hB2.size (by simp; try omega)) (w1.heap.size + os2.size + 1) (by simp) ?_; intro gg cap w2 hown' hgrow hat hlt0))
            have hBw : Below w.heap.size w w2 := (hB2.trans (Below.mono (More.below (show More w1 ((w1.more os2 d2).alloc _) from (by repeat (first | (with_reducible exact More.refl _) | (with_reducible refine More.alloc ?_ _) | (with_reducible refine More.more ?_ _ _) | (with_reducible refine More.drewN ?_ _) | (with_reducible refine More.drew ?_))))) hB2.size)).grown hgrow (Nat.le_trans hB2.size (by simp; try omega)) fun k hk => (hown.lt k hk).1
            have hRw : Blk w2 R 32 #[.int .i64 k0, .int .i64 k1, .int .i64 a, .int .i64 b, .int .i64 c] := Blk.apart (show Blk ((w1.more os2 d2).alloc _) R _ _ from (HR.out.more os2 d2).alloc _) (own_below hown (More.below (show More w1 ((w1.more os2 d2).alloc _) from (by repeat (first | (with_reducible exact More.refl _) | (with_reducible refine More.alloc ?_ _) | (with_reducible refine More.more ?_ _ _) | (with_reducible refine More.drewN ?_ _) | (with_reducible refine More.drew ?_)))))) (by decide) hgrow
            rw [line_bounded j kd mo h2, ln_step] at hown'
            go_wp2_with fail
            go_roundw
            case rel => exact ⟨j + 1, _, _, by go_num, by omega, tok_next HK.out HJ.out.1, hown', hRw, hBw⟩
            case measure => simp [intOf]; omega
        · have q2 : (er != 0) = true := by simpa using h1
          clear hV hR hown
          go_wp2
          go_ret2
          exact ⟨hB2, .inl ⟨er, h1, rfl, .inr ⟨k0, k1, a, b, c, j, kd, mo, HP.out, hlt, HJ.out.1⟩⟩⟩
      · obtain rfl : j = 2 := by omega
        have hform : ∃ g cap, u8 = .slice (some ⟨g, 0, none⟩) 2 cap := by
          rcases hown.2 with ⟨_, h⟩ | ⟨g, cap, cur, h1, _⟩
          · omega
          · exact ⟨g, cap, h1⟩
        obtain ⟨g, cap, rfl⟩ := hform
        have HO := Lib.hid hown
        clear hown hR
        go_wp2
        go_ret2
        exact ⟨hB, .inr ⟨k0, k1, a, b, c, KD, MO, g, cap, HP.out, HK.out, HO.out, rfl⟩⟩
  · have q : (er != 0) = true := by simpa using h0
    go_wp2
    go_ret2
    exact ⟨More.below (by repeat (first | (with_reducible exact More.refl _) | (with_reducible refine More.alloc ?_ _) | (with_reducible refine More.more ?_ _ _) | (with_reducible refine More.drewN ?_ _) | (with_reducible refine More.drew ?_))), .inl ⟨er, h0, rfl, .inl ⟨k0, k1, a, b, c, HP.out⟩⟩⟩
end Go.Proofs.YtgmljgcmfooniaaGreatDoor
