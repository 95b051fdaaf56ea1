/- Texts in one: BnTabs, BnWrong, BnLaw, BnPr, BnPa. Conditions: those of each law. -/
import Derived.Test.YtgmljgcmfooniaaGreatDoorProg
import Derived.Lib.LaidTab
import Derived.Lib.Fields
import Derived.Lib.ItoaNum
import Derived.Lib.Space
import Derived.Below
import Derived.WalkKit
import Derived.ProofKit
import Derived.Test.YtgmljgcmfooniaaGreatDoorDuel
import Derived.Lib.SplitLaws
import Derived.Lib.Join
import Derived.Lib.AtoiAll
import Derived.Test.YtgmljgcmfooniaaGreatDoorBnShelf
import Derived.Test.YtgmljgcmfooniaaGreatDoorKitC
import Derived.Deep.RegionHeld3
import Derived.Shelf.Strings.PiecesUse
import Derived.Laws.Tables
/- BnTabs -/
set_option linter.unusedVariables false
set_option linter.unusedSimpArgs false
namespace Go.Proofs.YtgmljgcmfooniaaGreatDoor
open Go.RowKit
theorem gSpace : Tryz.prog.globalNamed "strings.asciiSpace" = some 0 := by kernel_rfl
theorem gPow : Tryz.prog.globalNamed "internal/strconv.uint64pow10" = some 4 := by kernel_rfl
theorem gSyn : Tryz.prog.globalNamed "strconv.ErrSyntax" = some 2 := by kernel_rfl
theorem gRan : Tryz.prog.globalNamed "strconv.ErrRange" = some 3 := by kernel_rfl
/-- The variables. -/
structure BTabs (w : World) : Prop where
  sp : Lib.TabIs Tryz.prog w "strings.asciiSpace" .u8 Lib.asciiSpaceTab
  pw : Lib.TabIs Tryz.prog w "internal/strconv.uint64pow10" .u64 Lib.pow10Tab
  es : ∃ tp p, w.var? Tryz.prog "strconv.ErrSyntax" = some #[.iface tp p]
  er : ∃ tp p, w.var? Tryz.prog "strconv.ErrRange" = some #[.iface tp p]
  ml : ∃ m, w.cell? ⟨5, 0, none⟩ = some (.int .i64 m)
theorem var_same {P : Program} {w w' : World} {n : String} {g B : Nat} {cs : Array Value} (h : w.var? P n = some cs) (hg : P.globalNamed n = some g) (hb : Below B w w') (hlt : g < B) : w'.var? P n = some cs := by
  unfold World.var? at h ⊢
  rw [hg] at h ⊢
  simp only [Option.bind_some] at h ⊢
  rw [hb.block g hlt]
  exact h
theorem var_lt {P : Program} {w : World} {n : String} {g : Nat} {cs : Array Value} (h : w.var? P n = some cs) (hg : P.globalNamed n = some g) : g < w.heap.size := by
  unfold World.var? at h
  rw [hg] at h
  simp only [Option.bind_some] at h
  rcases Nat.lt_or_ge g w.heap.size with h' | h'
  · exact h'
  · simp [Array.getElem?_eq_none h'] at h
theorem BTabs.below {w w' : World} (h : BTabs w) (hb : Below w.heap.size w w') : BTabs w' := by
  obtain ⟨sp, pw, ⟨t1, p1, es⟩, ⟨t2, p2, er⟩, ⟨m, ml⟩⟩ := h
  refine ⟨var_same sp gSpace hb (var_lt sp gSpace), var_same pw gPow hb (var_lt pw gPow), ⟨t1, p1, var_same es gSyn hb (var_lt es gSyn)⟩, ⟨t2, p2, var_same er gRan hb (var_lt er gRan)⟩, ⟨m, ?_⟩⟩
  rw [hb.cell (World.block_lt_of_cell? _ _ ml)]
  exact ml
end Go.Proofs.YtgmljgcmfooniaaGreatDoor
/- BnWrong -/
set_option linter.unusedVariables false
set_option linter.unusedSimpArgs false
namespace Go.Proofs.YtgmljgcmfooniaaGreatDoor
open Go.RowKit Go.Tide
instance (k : Int) : Decidable (dKind k) := by unfold dKind; infer_instance
instance (a b c : Int) : Decidable (dNums a b c) := by unfold dNums; infer_instance
/-- What is wrong with rules. -/
def wErr (k0 k1 rate buf jit : Int) : Int := if dKind k0 ∧ dKind k1 then (if dNums rate buf jit then 0 else 2) else 5
theorem wErr_ok {k0 k1 rate buf jit : Int} (h0 : dKind k0) (h1 : dKind k1) (hn : dNums rate buf jit) : wErr k0 k1 rate buf jit = 0 := by simp [wErr, h0, h1, hn]
theorem wErr_no {k0 k1 rate buf jit : Int} (h : ¬ (dKind k0 ∧ dKind k1 ∧ dNums rate buf jit)) : wErr k0 k1 rate buf jit = 2 ∨ wErr k0 k1 rate buf jit = 5 := by
  unfold wErr
  split
  · rename_i hk
    rw [if_neg (fun hn => h ⟨hk.1, hk.2, hn⟩)]
    exact .inl rfl
  · exact .inr rfl
theorem wrong_fn (k0 k1 rate buf jit : Int) (w : World) : Calls Tryz.prog 52 #[.agg #[.int .i64 k0, .int .i64 k1, .int .i64 rate, .int .i64 buf, .int .i64 jit]] w fun e w' => e = .returned (.int .i64 (wErr k0 k1 rate buf jit)) ∧ More w w' := by
  by_cases h0 : dKind k0
  · by_cases h1 : dKind k1
    · by_cases hn : dNums rate buf jit
      · rw [wErr_ok h0 h1 hn]
        exact wrong_ok k0 k1 rate buf jit w h0 h1 hn
      · have hr : wErr k0 k1 rate buf jit = 2 := by simp [wErr, h0, h1, hn]
        rw [hr]
        by_cases c0 : rate < 1
        · exact wrong_n0 k0 k1 rate buf jit w h0 h1 c0
        by_cases c1 : 12 < rate
        · exact wrong_n1 k0 k1 rate buf jit w h0 h1 c0 c1
        by_cases c2 : buf < 0
        · exact wrong_n2 k0 k1 rate buf jit w h0 h1 c0 c1 c2
        by_cases c3 : 16 < buf
        · exact wrong_n3 k0 k1 rate buf jit w h0 h1 c0 c1 c2 c3
        by_cases c4 : jit < 0
        · exact wrong_n4 k0 k1 rate buf jit w h0 h1 c0 c1 c2 c3 c4
        by_cases c5 : 3 < jit
        · exact wrong_n5 k0 k1 rate buf jit w h0 h1 c0 c1 c2 c3 c4 c5
        exact absurd (by unfold dNums; omega) hn
    · rw [show wErr k0 k1 rate buf jit = 5 by simp [wErr, h1]]
      exact wrong_kind1 k0 k1 rate buf jit w h0 h1
  · rw [show wErr k0 k1 rate buf jit = 5 by simp [wErr, h0]]
    exact wrong_kind0 k0 k1 rate buf jit w h0
end Go.Proofs.YtgmljgcmfooniaaGreatDoor
/- BnLaw -/
set_option linter.unusedVariables false
set_option linter.unusedSimpArgs false
namespace Go.Tide
open Go.Lib

abbrev bVegas : List UInt8 := [118, 101, 103, 97, 115]
abbrev bCopa : List UInt8 := [99, 111, 112, 97]
abbrev bLedbat : List UInt8 := [108, 101, 100, 98, 97, 116]
abbrev bNames : List UInt8 := [118, 101, 103, 97, 115, 32, 99, 111, 112, 97, 32, 108, 101, 100, 98, 97, 116]
theorem bFields : fields bNames = [bVegas, bCopa, bLedbat] := by decide +kernel

/-- A kind's name. -/
def bnName (k : Int) : List UInt8 := if k = 1 then bVegas else if k = 2 then bCopa else bLedbat
/-- The kind that a word names; 0: none. -/
def kOf (x : List UInt8) : Int := if x = bLedbat then 3 else if x = bCopa then 2 else if x = bVegas then 1 else 0
/-- What is left in the int at which Atoi's number is laid. -/
def bnInt (x : List UInt8) : Int := match atoiAll x with | .ok v => v | .range => atoiSat x | _ => 0
def bnParts (k0 k1 : Int) (rate buf jit : Nat) : List (List UInt8) := [bnName k0, bnName k1, decDigits rate, decDigits buf, decDigits jit]
def bnText (k0 k1 : Int) (rate buf jit : Nat) : List UInt8 := join (bnParts k0 k1 rate buf jit) [32]

theorem kOf_name {k : Int} (h : k = 1 ∨ k = 2 ∨ k = 3) : kOf (bnName k) = k := by
  rcases h with rfl | rfl | rfl <;> decide
/-- The digits of a number below 100. -/
def dec2 (n : Nat) : List UInt8 := if n < 10 then [UInt8.ofNat (48 + n)] else [UInt8.ofNat (48 + n / 10), UInt8.ofNat (48 + n % 10)]
theorem dec_two {n : Nat} (h : n < 100) : decDigits n = dec2 n := by
  rw [decDigits, dec2]
  split
  · rfl
  · rw [decDigits, dif_pos (by omega)]; rfl
theorem bnInt_dec {n : Nat} (h : n < 17) : bnInt (decDigits n) = n := by
  rw [dec_two (by omega)]
  revert h n
  decide +kernel
theorem dec_free {n : Nat} (h : n < 17) : (32 : UInt8) ∉ decDigits n := by
  rw [dec_two (by omega)]
  revert h n
  decide +kernel
theorem dec_len {n : Nat} (h : n < 17) : (decDigits n).length ≤ 2 := by
  rw [dec_two (by omega), dec2]
  split <;> simp
theorem name_free (k : Int) : (32 : UInt8) ∉ bnName k := by
  unfold bnName
  split
  · decide
  · split <;> decide
theorem name_len (k : Int) : (bnName k).length ≤ 6 := by
  unfold bnName
  split
  · decide
  · split <;> decide

theorem index_free : ∀ {x : List UInt8}, (32 : UInt8) ∉ x → index x [32] = -1
  | [], _ => rfl
  | b :: l, h => by
    have hb : (32 : UInt8) ≠ b := fun e => h (by simp [e])
    have hl : (32 : UInt8) ∉ l := fun e => h (by simp [e])
    have hp : ([32] : List UInt8).isPrefixOf (b :: l) = false := by simp [List.isPrefixOf, hb]
    rw [index, hp, index_free hl]; rfl
theorem index_app (t : List UInt8) : ∀ {x : List UInt8}, (32 : UInt8) ∉ x → index (x ++ 32 :: t) [32] = x.length
  | [], _ => by simp [index, List.isPrefixOf]
  | b :: l, h => by
    have hb : (32 : UInt8) ≠ b := fun e => h (by simp [e])
    have hl : (32 : UInt8) ∉ l := fun e => h (by simp [e])
    have hp : ([32] : List UInt8).isPrefixOf (b :: (l ++ 32 :: t)) = false := by simp [List.isPrefixOf, hb]
    rw [List.cons_append, index, hp, index_app t hl]
    have : ((l.length : Int) == -1) = false := by simp
    rw [if_neg (by simp), this]
    simp
theorem split_last {x : List UInt8} (h : (32 : UInt8) ∉ x) : split x [32] = [x] := by
  rw [split, count_one, List.count_eq_zero.2 h]; rfl
theorem split_next (t : List UInt8) {x : List UInt8} (h : (32 : UInt8) ∉ x) : split (x ++ 32 :: t) [32] = x :: split t [32] := by
  have hc : count (x ++ 32 :: t) [32] = count t [32] + 1 := by
    rw [count_one, count_one, List.count_append, List.count_eq_zero.2 h, List.count_cons_self]; omega
  have hi := index_app t h
  rw [split, hc, splitK, hi, if_neg (by simp), split]
  have e1 : ((x.length : Int)).toNat + 0 = x.length := by omega
  have e2 : ((x.length : Int)).toNat + ([32] : List UInt8).length = x.length + 1 := by simp
  rw [e1, e2, List.take_left]
  have e3 : (x ++ 32 :: t).drop (x.length + 1) = t := by
    rw [show x ++ 32 :: t = (x ++ [32]) ++ t by simp]
    have : x.length + 1 = (x ++ [32]).length := by simp
    rw [this, List.drop_left]
  rw [e3]
theorem bnText_eq (k0 k1 : Int) (rate buf jit : Nat) : bnText k0 k1 rate buf jit = bnName k0 ++ 32 :: (bnName k1 ++ 32 :: (decDigits rate ++ 32 :: (decDigits buf ++ 32 :: decDigits jit))) := by
  unfold bnText bnParts
  rw [join_cons]
  simp [joinTail]
/-- What is written is cut into the words again. -/
theorem split_text {k0 k1 : Int} {rate buf jit : Nat} (h1 : rate < 17) (h2 : buf < 17) (h3 : jit < 17) : split (bnText k0 k1 rate buf jit) [32] = bnParts k0 k1 rate buf jit := by
  rw [bnText_eq, split_next _ (name_free k0), split_next _ (name_free k1), split_next _ (dec_free h1), split_next _ (dec_free h2), split_last (dec_free h3)]
  rfl
theorem bnText_len {k0 k1 : Int} {rate buf jit : Nat} (h1 : rate < 17) (h2 : buf < 17) (h3 : jit < 17) : (bnText k0 k1 rate buf jit).length ≤ 100 := by
  rw [bnText_eq]
  have := name_len k0
  have := name_len k1
  have := dec_len h1
  have := dec_len h2
  have := dec_len h3
  simp only [List.length_append, List.length_cons]
  omega
/-- The words of a text. -/
def wordsB (s : ByteArray) : List ByteArray := splitB ⟨#[32]⟩ 0 (countB s ⟨#[32]⟩) s
theorem words_data (s : ByteArray) : (wordsB s).map (·.data.toList) = split s.data.toList [32] := splitB_data _ _ _ _
theorem words_length (s : ByteArray) : (wordsB s).length = countB s ⟨#[32]⟩ + 1 := splitB_all _ (by decide) 0 _ s rfl
/-- What is read of a text: its five words' kinds and numbers. -/
def bnRead (s : ByteArray) : Option (Int × Int × Int × Int × Int) :=
  match (wordsB s).map (·.data.toList) with
  | [a, b, c, d, e] => some (kOf a, kOf b, bnInt c, bnInt d, bnInt e)
  | _ => none
theorem read_text {k0 k1 : Int} {rate buf jit : Nat} (hk0 : k0 = 1 ∨ k0 = 2 ∨ k0 = 3) (hk1 : k1 = 1 ∨ k1 = 2 ∨ k1 = 3) (h1 : rate < 17) (h2 : buf < 17) (h3 : jit < 17) {s : ByteArray} (hs : s.data.toList = bnText k0 k1 rate buf jit) :
    bnRead s = some (k0, k1, (rate : Int), (buf : Int), (jit : Int)) := by
  unfold bnRead
  rw [words_data, hs, split_text h1 h2 h3]
  simp only [bnParts, kOf_name hk0, kOf_name hk1, bnInt_dec h1, bnInt_dec h2, bnInt_dec h3]
end Go.Tide
/- BnPr -/
set_option linter.unusedVariables false
set_option linter.unusedSimpArgs false
namespace Go.Proofs.YtgmljgcmfooniaaGreatDoor
open Go.RowKit Go.Shelf Go.Tide
set_option linter.unusedVariables false
set_option linter.unusedSimpArgs false
theorem BTabs.more {w w' : World} (h : BTabs w) (hm : More w w') : BTabs w' := h.below hm.below
abbrev namesS : ByteArray := ⟨#[118, 101, 103, 97, 115, 32, 99, 111, 112, 97, 32, 108, 101, 100, 98, 97, 116]⟩
abbrev nameV (l : List UInt8) : Value := .string ⟨l.toArray⟩
/-- strings.Fields of the names. -/
theorem fields_names (w : World) (hT : BTabs w) : Calls Tryz.prog 34 #[.string namesS] w fun e w' => e = .returned (.slice (some ⟨w.heap.size, 0, none⟩) 3 3) ∧ w' = w.alloc (.cells #[nameV bVegas, nameV bCopa, nameV bLedbat] 9) := by
  have c := Tryz.strings_Fields_laid namesS w (by decide) (by
    intro j b hb
    have : ∀ x ∈ bNames, x.toNat < 128 := by decide
    exact this b (List.mem_of_getElem? hb)) hT.sp
  have e : namesS.data.toList = bNames := rfl
  rw [e, bFields] at c
  exact c
theorem name_ok (k : Int) (hk : Hid (dKind k)) (w : World) (hT : Hid (BTabs w)) : Calls Tryz.prog 53 #[.int .i64 k] w fun e w' => e = .returned (nameV (bnName k)) ∧ More w w' := by
  have c := fields_names w hT.out
  clear hT
  have hb := Blk.new w 9 #[nameV bVegas, nameV bCopa, nameV bLedbat]
  have x0 : (w.alloc (.cells #[nameV bVegas, nameV bCopa, nameV bLedbat] 9)).cell? ⟨w.heap.size, 0, none⟩ = some (nameV bVegas) := hb.cell 0
  have x1 : (w.alloc (.cells #[nameV bVegas, nameV bCopa, nameV bLedbat] 9)).cell? ⟨w.heap.size, 1, none⟩ = some (nameV bCopa) := hb.cell 1
  have x2 : (w.alloc (.cells #[nameV bVegas, nameV bCopa, nameV bLedbat] 9)).cell? ⟨w.heap.size, 2, none⟩ = some (nameV bLedbat) := hb.cell 2
  have hm : More w (w.alloc (.cells #[nameV bVegas, nameV bCopa, nameV bLedbat] 9)) := (by repeat (first | (with_reducible assumption) | (with_reducible exact More.refl _) | (with_reducible refine More.alloc ?_ _) | (with_reducible refine More.more ?_ _ _) | (with_reducible refine More.drewN ?_ _) | (with_reducible refine More.drew ?_)))
  clear hb
  have C := Lib.hid c
  clear c
  go_enter Tryz.func53, Tryz.ntmps53
  go_wp2_with fail
  refine C.out.mono ?_
  rintro e w' ⟨rfl, rfl⟩
  clear C
  generalize (w.alloc (.cells #[nameV bVegas, nameV bCopa, nameV bLedbat] 9)) = w1 at *
  rcases hk.out with rfl | rfl | rfl
  · go_wp2
    go_ret
    exact ⟨rfl, hm⟩
  · go_wp2
    go_ret
    exact ⟨rfl, hm⟩
  · go_wp2
    go_ret
    exact ⟨rfl, hm⟩
theorem strInfo : (Tryz.prog.info? 9).map (fun i => (i.zero, i.size, i.bytes)) = some (some (.string ByteArray.empty), 1, 16) := by kernel_rfl
def nm (rate buf jit : Nat) (j : Nat) : Nat := if j = 0 then rate else if j = 1 then buf else jit
/-- The words that lie there before round j. -/
def wl (k0 k1 : Int) (rate buf jit : Nat) (j : Nat) : List Value := ((bnParts k0 k1 rate buf jit).take (2 + j)).map nameV
theorem wl_next (k0 k1 : Int) (rate buf jit : Nat) {j : Nat} (h : j < 3) : wl k0 k1 rate buf jit j ++ [nameV (Lib.decDigits (nm rate buf jit j))] = wl k0 k1 rate buf jit (j + 1) := by
  rcases (show j = 0 ∨ j = 1 ∨ j = 2 by omega) with rfl | rfl | rfl <;> rfl
theorem More.cell' {w w' : World} {b i : Nat} (h : More w w') (hb : b < w.heap.size) : w'.cell? ⟨b, i, none⟩ = w.cell? ⟨b, i, none⟩ := by
  obtain ⟨os, n, rfl⟩ := h
  exact World.cell?_more w os n b i hb
theorem More.two' {w w' : World} {b : Nat} {u v : Value} (hg : b < w.heap.size) (h0 : w.cell? ⟨b, 0, none⟩ = some u) (h1 : w.cell? ⟨b, 1, none⟩ = some v) (h : More w w') :
    w'.cell? ⟨b, 0, none⟩ = some u ∧ w'.cell? ⟨b, 1, none⟩ = some v ∧ More w w' := ⟨(More.cell' h hg).trans h0, (More.cell' h hg).trans h1, h⟩
/-- A row of another type stands where one's own grows. -/
theorem Blk.apart {w w1 : World} {b base n : Nat} {t e : TypeId} {cs : Array Value} {v : Value} {xs : List Value} (h : Blk w b t cs) (ho : w.ownsRow base e 1 v n xs) (hne : t ≠ e) (hg : w.grownBy w1 v.ownBlock) : Blk w1 b t cs := by
  refine h.grown hg fun he => ?_
  rcases ho.2 with ⟨rfl, _⟩ | ⟨g, cap, cur, rfl, _, hb, _⟩
  · cases he
  · simp only [Value.ownBlock, Option.some.injEq] at he
    subst he
    have h' := h
    unfold Blk at h'
    rw [hb] at h'
    injection h' with h'
    injection h' with _ h'
    exact hne h'.symm
set_option maxRecDepth 20000 in
set_option maxHeartbeats 4000000 in
theorem print_ok (k0 k1 : Int) (rate buf jit : Nat) (hk0 : Hid (dKind k0)) (hk1 : Hid (dKind k1)) (hn : Hid (dNums rate buf jit)) (w : World) (hT : Hid (BTabs w)) :
    Calls Tryz.prog 29 #[.agg #[.int .i64 k0, .int .i64 k1, .int .i64 rate, .int .i64 buf, .int .i64 jit]] w fun e w' => e = .returned (.tuple #[nameV (bnText k0 k1 rate buf jit), .int .i64 0]) ∧ More w w' := by
  have hE : Hid (wErr k0 k1 rate buf jit = 0) := wErr_ok hk0.out hk1.out hn.out
  go_enter Tryz.func29, Tryz.ntmps29
  go_wp2_with fail
  refine (wrong_fn k0 k1 rate buf jit _).mono ?_
  rintro e w' ⟨rfl, os1, d1, rfl⟩
  rw [hE.out]
  go_wp2_with fail
  have hB : Blk ((w.alloc (.cells #[.int .i64 k0, .int .i64 k1, .int .i64 rate, .int .i64 buf, .int .i64 jit] 32)).more os1 d1) w.heap.size 32 #[.int .i64 k0, .int .i64 k1, .int .i64 rate, .int .i64 buf, .int .i64 jit] := (by repeat (first | (with_reducible assumption) | ((with_reducible refine Blk.new' ?_); (simp [Nat.add_assoc]; done)) | (with_reducible refine Blk.alloc ?_ _) | (with_reducible refine Blk.more ?_ _ _) | (with_reducible refine Blk.drew ?_) | (with_reducible refine Blk.drewN ?_ _)))
  have hm : More w ((w.alloc (.cells #[.int .i64 k0, .int .i64 k1, .int .i64 rate, .int .i64 buf, .int .i64 jit] 32)).more os1 d1) := (by repeat (first | (with_reducible exact More.refl _) | (with_reducible refine More.alloc ?_ _) | (with_reducible refine More.more ?_ _ _) | (with_reducible refine More.drewN ?_ _) | (with_reducible refine More.drew ?_)))
  generalize ((w.alloc (.cells #[.int .i64 k0, .int .i64 k1, .int .i64 rate, .int .i64 buf, .int .i64 jit] 32)).more os1 d1) = wb at *
  have hTb : Hid (BTabs wb) := hT.out.more hm
  have hg := hB.lt
  have hc0 : wb.cell? ⟨w.heap.size, 0, none⟩ = some (.int .i64 k0) := hB.cell 0
  have hc1 : wb.cell? ⟨w.heap.size, 1, none⟩ = some (.int .i64 k1) := hB.cell 1
  go_region_held (fun w' => w'.cell? ⟨w.heap.size, 0, none⟩ = some (.int .i64 k0) ∧ w'.cell? ⟨w.heap.size, 1, none⟩ = some (.int .i64 k1) ∧ More wb w') (exact More.two' hg hc0 hc1 (by repeat (first | (with_reducible assumption) | (with_reducible exact More.refl _) | (with_reducible refine More.alloc ?_ _) | (with_reducible refine More.more ?_ _ _) | (with_reducible refine More.drewN ?_ _) | (with_reducible refine More.drew ?_)))) (first
    | (go_at_call 53; refine (name_ok k0 hk0 _ (hTb.out.more (by repeat (first | (with_reducible assumption) | (with_reducible exact More.refl _) | (with_reducible refine More.alloc ?_ _) | (with_reducible refine More.more ?_ _ _) | (with_reducible refine More.drewN ?_ _) | (with_reducible refine More.drew ?_))))).mono ?_; rintro e w' ⟨rfl, os5, d5, rfl⟩)
    | (go_at_call 53; refine (name_ok k1 hk1 _ (hTb.out.more (by repeat (first | (with_reducible assumption) | (with_reducible exact More.refl _) | (with_reducible refine More.alloc ?_ _) | (with_reducible refine More.more ?_ _ _) | (with_reducible refine More.drewN ?_ _) | (with_reducible refine More.drew ?_))))).mono ?_; rintro e w' ⟨rfl, os6, d6, rfl⟩))
  have hm2 : More w ((wb.more os5 d5).more os6 d6) := hm.trans (by repeat (first | (with_reducible exact More.refl _) | (with_reducible refine More.alloc ?_ _) | (with_reducible refine More.more ?_ _ _) | (with_reducible refine More.drewN ?_ _) | (with_reducible refine More.drew ?_)))
  have hB2 : Blk ((wb.more os5 d5).more os6 d6) w.heap.size 32 #[.int .i64 k0, .int .i64 k1, .int .i64 rate, .int .i64 buf, .int .i64 jit] := (by repeat (first | (with_reducible assumption) | ((with_reducible refine Blk.new' ?_); (simp [Nat.add_assoc]; done)) | (with_reducible refine Blk.alloc ?_ _) | (with_reducible refine Blk.more ?_ _ _) | (with_reducible refine Blk.drew ?_) | (with_reducible refine Blk.drewN ?_ _)))
  have hD : ((wb.more os5 d5).more os6 d6).heap.size = wb.heap.size + (os5.size + os6.size) := by simp [Nat.add_assoc]
  generalize wb.heap.size + (os5.size + os6.size) = D at *
  generalize ((wb.more os5 d5).more os6 d6) = wy at *
  subst hD
  clear hB hc0 hc1 hm hg hTb hT
  have hown0 : (wy.alloc (.cells #[nameV (bnName k0), nameV (bnName k1)] 9)).ownsRow wy.heap.size 9 1 (.slice (some ⟨wy.heap.size, 0, none⟩) 2 2) 2 (wl k0 k1 rate buf jit 0) := World.ownsRow_lit wy #[nameV (bnName k0), nameV (bnName k1)] 2 (Nat.le_refl _) (by decide) (by simp)
  have hbl0 : Below wy.heap.size wy (wy.alloc (.cells #[nameV (bnName k0), nameV (bnName k1)] 9)) := (Below.refl _ _).alloc (Nat.le_refl _) _
  replace hB2 := hB2.alloc (.cells #[nameV (bnName k0), nameV (bnName k1)] 9)
  generalize (wy.alloc (.cells #[nameV (bnName k0), nameV (bnName k1)] 9)) = wx at *
  have c2 : wx.cell? ⟨w.heap.size, 2, none⟩ = some (.int .i64 rate) := hB2.cell 2
  have c3 : wx.cell? ⟨w.heap.size, 3, none⟩ = some (.int .i64 buf) := hB2.cell 3
  have c4 : wx.cell? ⟨w.heap.size, 4, none⟩ = some (.int .i64 jit) := hB2.cell 4
  have hlt := hB2.lt
  clear hB2
  have HO := Lib.hid hown0
  clear hown0
  go_wp2_with fail
  have hI : Blk (wx.alloc (.cells #[.int .i64 rate, .int .i64 buf, .int .i64 jit] 3)) wx.heap.size 3 #[.int .i64 rate, .int .i64 buf, .int .i64 jit] := Blk.new _ _ _
  have hown1 := HO.out.alloc (.cells #[.int .i64 rate, .int .i64 buf, .int .i64 jit] 3)
  have hbl1 : Below wy.heap.size wy (wx.alloc (.cells #[.int .i64 rate, .int .i64 buf, .int .i64 jit] 3)) := hbl0.alloc hbl0.size _
  clear c2 c3 c4 hlt hbl0 HO
  generalize (wx.alloc (.cells #[.int .i64 rate, .int .i64 buf, .int .i64 jit] 3)) = wz at *
  generalize wx.heap.size = X at *
  go_loopw [5, 30] (fun l i wr => ∃ j : Nat, i = .int .i64 j ∧ j ≤ 3 ∧ wr.ownsRow wy.heap.size 9 1 l (2 + j) (wl k0 k1 rate buf jit j) ∧ Blk wr X 3 #[.int .i64 rate, .int .i64 buf, .int .i64 jit] ∧ Below wy.heap.size wy wr) (fun _ i _ => 3 - (intOf i).toNat)
  case atStart => exact ⟨0, rfl, by omega, hown1, hI, hbl1⟩
  case round =>
    obtain ⟨j, rfl, hj, hown, hI, hbl⟩ := hrel
    by_cases hlt : j < 3
    · have hcell : wr.cell? ⟨X, j, none⟩ = some (.int .i64 (nm rate buf jit j : Nat)) := by
        rw [hI.cell]
        rcases (show j = 0 ∨ j = 1 ∨ j = 2 by omega) with rfl | rfl | rfl <;> rfl
      have hlI := hI.lt
      have hj3 : decide ((j : Int) < 3) = true := by simp; omega
      have hN : nm rate buf jit j < 17 := by
        have h := hn.out
        unfold dNums at h
        unfold nm
        split
        · omega
        · split <;> omega
      have hnext := wl_next k0 k1 rate buf jit hlt
      have hlen : 2 + (j + 1) = 2 + j + 1 := by omega
      obtain ⟨i0, hi, hz0, hz1, hz2⟩ := info_parts strInfo
      have HNX := Lib.hid hnext
      have HIs := Lib.hid hI
      clear hnext hI
      go_wp2_with (first
        | (go_at_call 30; refine (Tryz.strconv_Itoa_small (nm rate buf jit j) (by omega) _).mono ?_; rintro e w' ⟨rfl, rfl⟩)
        | (at_builtin; refine wpList_append_own _ rfl _ _ 23 rfl wy.heap.size 9 i0 (.string ByteArray.empty) 1 16 Tryz.underlying23 hi hz0 hz1 hz2 rfl (by decide) _ _ _ rfl (hown.alloc _) _ _ _ [nameV (Lib.decDigits (nm rate buf jit j))] rfl rfl (cell_one _ _ _) (by simp [Value.oneCell']) (by simp only [maxLen]; omega) (by omega) (Nat.le_trans hbl.size (by simp)) ?_; intro v' w1 hown' hgrow hnil; clear hnil))
      go_roundw
      case rel =>
        rw [HNX.out] at hown'
        refine ⟨j + 1, by go_num, by omega, hown', ?_, ?_⟩
        · exact Blk.apart (Blk.alloc HIs.out _) (hown.alloc _) (by decide) hgrow
        · exact (hbl.alloc hbl.size _).grown hgrow (Nat.le_trans hbl.size (by simp)) fun k hk => (hown.lt k hk).1
      case measure => simp [intOf]; omega
    · obtain rfl : j = 3 := by omega
      have hform : ∃ g cap, u5 = .slice (some ⟨g, 0, none⟩) 5 cap ∧ 5 ≤ cap ∧ g < wr.heap.size := by
        rcases hown.2 with ⟨_, h⟩ | ⟨g, cap, cur, h1, h2, h3, h4, _⟩
        · omega
        · exact ⟨g, cap, h1, h4, by rcases Nat.lt_or_ge g wr.heap.size with h' | h'; exact h'; simp [Array.getElem?_eq_none h'] at h3⟩
      obtain ⟨g, cap, rfl, hcap, hgl⟩ := hform
      have hcs : ∀ (j : Nat) x, ((bnParts k0 k1 rate buf jit).map fun l => (⟨l.toArray⟩ : ByteArray))[j]? = some x → wr.cell? ⟨g, 0 + j, none⟩ = some (.string x) := by
        intro j x hx
        have := hown.cells (g := g) rfl j (.string x) (by
          show (((bnParts k0 k1 rate buf jit).take 5).map nameV)[j]? = _
          rw [List.take_of_length_le (by simp [bnParts])]
          simp only [List.getElem?_map, Option.map_eq_some_iff] at hx ⊢
          obtain ⟨y, hy, rfl⟩ := hx
          exact ⟨y, hy, rfl⟩)
        rw [Addr.add_lit] at this
        exact this
      have cJ := Tryz.strings_Join g 0 cap ((bnParts k0 k1 rate buf jit).map fun l => (⟨l.toArray⟩ : ByteArray)) ⟨#[32]⟩ wr hcs hgl (by simp [bnParts]) (by simpa [bnParts] using hcap) (by
        have h := hn.out
        unfold dNums at h
        have := bnText_len (k0 := k0) (k1 := k1) (rate := rate) (buf := buf) (jit := jit) (by omega) (by omega) (by omega)
        have e : ((bnParts k0 k1 rate buf jit).map fun l => (⟨l.toArray⟩ : ByteArray)).map (·.data.toList) = bnParts k0 k1 rate buf jit := by simp [Function.comp_def]
        rw [e]
        exact Nat.le_trans this (by decide))
      have e : ((bnParts k0 k1 rate buf jit).map fun l => (⟨l.toArray⟩ : ByteArray)).map (·.data.toList) = bnParts k0 k1 rate buf jit := by simp [Function.comp_def]
      rw [e] at cJ
      have e2 : ((bnParts k0 k1 rate buf jit).map fun l => (⟨l.toArray⟩ : ByteArray)).length = 5 := rfl
      rw [e2] at cJ
      have CJ := Lib.hid cJ
      clear cJ hcs hown e e2
      go_wp2_with (go_at_call 54; refine CJ.out.mono ?_; rintro e w' ⟨rfl, hbj⟩)
      go_ret2
      exact ⟨rfl, hm2.trans (More.of_below (hbl.trans (hbj.mono hbl.size)))⟩
/-- The rules are right. -/
def BOk (k0 k1 rate buf jit : Int) : Prop := dKind k0 ∧ dKind k1 ∧ dNums rate buf jit
set_option maxRecDepth 20000 in
theorem print_bad (k0 k1 rate buf jit : Int) (h : Hid (¬ BOk k0 k1 rate buf jit)) (w : World) :
    Calls Tryz.prog 29 #[.agg #[.int .i64 k0, .int .i64 k1, .int .i64 rate, .int .i64 buf, .int .i64 jit]] w fun e w' => e = .returned (.tuple #[.string ⟨#[]⟩, .int .i64 (wErr k0 k1 rate buf jit)]) ∧ More w w' := by
  obtain ⟨er, hE⟩ : ∃ er, Hid (wErr k0 k1 rate buf jit = er ∧ er ≠ 0) := ⟨_, rfl, by rcases wErr_no h.out with h | h <;> rw [h] <;> decide⟩
  have g : (er != 0) = true := by simpa using hE.out.2
  rw [hE.out.1]
  go_enter Tryz.func29, Tryz.ntmps29
  go_wp2_with fail
  refine (wrong_fn k0 k1 rate buf jit _).mono ?_
  rintro e w' ⟨rfl, os1, d1, rfl⟩
  rw [hE.out.1]
  go_wp2
  go_ret2
  exact ⟨rfl, (by repeat (first | (with_reducible exact More.refl _) | (with_reducible refine More.alloc ?_ _) | (with_reducible refine More.more ?_ _ _) | (with_reducible refine More.drewN ?_ _) | (with_reducible refine More.drew ?_)))⟩
/-- What Print answers. -/
def PPr (k0 k1 rate buf jit : Int) (t : ByteArray) (er : Int) : Prop :=
  (∃ a b c : Nat, rate = a ∧ buf = b ∧ jit = c ∧ BOk k0 k1 rate buf jit ∧ t = ⟨(bnText k0 k1 a b c).toArray⟩ ∧ er = 0) ∨ (¬ BOk k0 k1 rate buf jit ∧ t = ⟨#[]⟩ ∧ er = wErr k0 k1 rate buf jit ∧ er ≠ 0)
theorem print_any (k0 k1 rate buf jit : Int) (w : World) (hT : Hid (BTabs w)) :
    Calls Tryz.prog 29 #[.agg #[.int .i64 k0, .int .i64 k1, .int .i64 rate, .int .i64 buf, .int .i64 jit]] w fun e w' => ∃ t er, e = .returned (.tuple #[.string t, .int .i64 er]) ∧ Hid (PPr k0 k1 rate buf jit t er) ∧ More w w' := by
  by_cases h : BOk k0 k1 rate buf jit
  · have hn := h.2.2
    unfold dNums at hn
    obtain ⟨a, rfl⟩ : ∃ n : Nat, rate = n := ⟨rate.toNat, by omega⟩
    obtain ⟨b, rfl⟩ : ∃ n : Nat, buf = n := ⟨buf.toNat, by omega⟩
    obtain ⟨c, rfl⟩ : ∃ n : Nat, jit = n := ⟨jit.toNat, by omega⟩
    exact (print_ok k0 k1 a b c h.1 h.2.1 h.2.2 w hT).mono fun e w' ⟨h1, h2⟩ => ⟨_, _, h1, .inl ⟨a, b, c, rfl, rfl, rfl, h, rfl, rfl⟩, h2⟩
  · exact (print_bad k0 k1 rate buf jit h w).mono fun e w' ⟨h1, h2⟩ => ⟨_, _, h1, .inr ⟨h, rfl, rfl, by rcases wErr_no h with h | h <;> rw [h] <;> decide⟩, h2⟩
end Go.Proofs.YtgmljgcmfooniaaGreatDoor
/- BnPa -/
set_option linter.unusedVariables false
set_option linter.unusedSimpArgs false
namespace Go.Proofs.YtgmljgcmfooniaaGreatDoor
open Go.RowKit Go.Shelf Go.Tide
set_option linter.unusedVariables false
set_option linter.unusedSimpArgs false
theorem below_bytes (w : World) (e : TypeId) (s : ByteArray) : Below w.heap.size w (Lib.bytesWorld w e s) :=
  ⟨rfl, rfl, rfl, by rw [Lib.bytesWorld_size]; omega, fun k hk => Lib.bytesWorld_at_old w e s k hk⟩
theorem below_row {B g : Nat} {a w : World} (h : Below B a w) (hg : B ≤ g) (cs : Array Value) : Below B a (w.setRow g cs) :=
  h.trans ⟨rfl, rfl, rfl, by simp, fun k hk => setRow_other w g k cs (by omega)⟩
/-- strconv.Atoi at whatever string: what is left in the number. -/
theorem atoi_any (s : ByteArray) (hs : s.size ≤ 281474976710656) (w : World) (hT : BTabs w) :
    Calls Tryz.prog 35 #[.string s] w fun e w' => ∃ er, e = .returned (.tuple #[.int .i64 (bnInt s.data.toList), er]) ∧ More w w' := by
  obtain ⟨t1, p1, h1⟩ := hT.es
  obtain ⟨t2, p2, h2⟩ := hT.er
  have c1 : w.cell? ⟨2, 0, none⟩ = some (.iface t1 p1) := by simpa using World.var?_cell gSyn h1 0
  have c2 : w.cell? ⟨3, 0, none⟩ = some (.iface t2 p2) := by simpa using World.var?_cell gRan h2 0
  cases ha : Lib.atoiAll s.data.toList
  · rename_i v
    have e : bnInt s.data.toList = v := by simp [bnInt, ha]
    rw [e]
    refine (Tryz.strconv_Atoi_ok s (by omega) v ha w).mono fun e w' ⟨he, hw⟩ => ⟨_, he, ?_⟩
    rcases hw with rfl | ⟨t, rfl⟩
    · exact More.refl _
    · exact More.of_below (below_bytes _ _ _)
  · have e : bnInt s.data.toList = 0 := by simp [bnInt, ha]
    rw [e]
    have h := Any.strconv_Atoi_syntax Tryz.laysC172 s hs ha _ w c1 (.inr ⟨_, _, rfl⟩)
    exact h.mono fun e w' ⟨N, he, _, _, hb⟩ => ⟨_, he, More.of_below hb⟩
  · have e : bnInt s.data.toList = Lib.atoiSat s.data.toList := by simp [bnInt, ha]
    rw [e]
    exact (Tryz.strconv_Atoi_range s hs ha _ w c2 (.inr ⟨_, _, rfl⟩)).mono fun e w' ⟨N, he, _, _, hb⟩ => ⟨_, he, More.of_below hb⟩
/-- strings.Split at a blank. -/
theorem split_any (s : ByteArray) (hs : s.size < 4294967281) (w : World) (hT : BTabs w) :
    Calls Tryz.prog 33 #[.string s, .string ⟨#[32]⟩] w fun e w' => e = .returned (.slice (some ⟨w.heap.size, 0, none⟩) (wordsB s).length (wordsB s).length) ∧ w' = w.alloc (.cells ((wordsB s).map Value.string).toArray 9) := by
  obtain ⟨m, hm⟩ := hT.ml
  rw [words_length]
  exact Tryz.strings_Split s ⟨#[32]⟩ m w hs hm (by decide)
/-- What Parse answers. -/
def PPa (s : ByteArray) (k0 k1 rate buf jit er : Int) : Prop :=
  (er = 0 ∧ BOk k0 k1 rate buf jit ∧ s = ⟨(bnText k0 k1 rate.toNat buf.toNat jit.toNat).toArray⟩) ∨
    (er = 1 ∧ (k0 = 0 ∧ k1 = 0 ∧ rate = 0 ∧ buf = 0 ∧ jit = 0) ∧ ∀ (a b : Int) (c d e : Nat), BOk a b c d e → s ≠ ⟨(bnText a b c d e).toArray⟩)
theorem no_read {s : ByteArray} (h : bnRead s = none) (a b : Int) (c d e : Nat) (hk : BOk a b c d e) : s ≠ ⟨(bnText a b c d e).toArray⟩ := by
  rintro rfl
  obtain ⟨h1, h2, h3⟩ := hk
  unfold dNums at h3
  rw [read_text h1 h2 (rate := c) (buf := d) (jit := e) (by omega) (by omega) (by omega) rfl] at h
  cases h
set_option maxRecDepth 20000 in
set_option maxHeartbeats 4000000 in
theorem parse_len (s : ByteArray) (hs : s.size < 4294967281) (w : World) (hT : Hid (BTabs w)) (hl : (wordsB s).length ≠ 5) :
    Calls Tryz.prog 11 #[.string s] w fun e w' => e = .returned (.tuple #[.agg #[.int .i64 0, .int .i64 0, .int .i64 0, .int .i64 0, .int .i64 0], .int .i64 1]) ∧ More w w' := by
  have hd : (((wordsB s).length : Int) != 5) = true := by simp; omega
  go_enter Tryz.func11, Tryz.ntmps11
  go_wp2_with fail
  refine (split_any s hs _ (hT.out.more (by repeat (first | (with_reducible exact More.refl _) | (with_reducible refine More.alloc ?_ _) | (with_reducible refine More.more ?_ _ _) | (with_reducible refine More.drewN ?_ _) | (with_reducible refine More.drew ?_))))).mono ?_
  rintro e w' ⟨rfl, rfl⟩
  go_wp2_with fail
  have hb : Blk (((w.alloc (.cells #[.int .i64 0, .int .i64 0, .int .i64 0, .int .i64 0, .int .i64 0] 32)).alloc (.cells #[.int .i64 0, .int .i64 0, .int .i64 0, .int .i64 0, .int .i64 0] 32)).alloc (.cells (List.map Value.string (wordsB s)).toArray 9)) w.heap.size 32 #[.int .i64 0, .int .i64 0, .int .i64 0, .int .i64 0, .int .i64 0] := (by repeat (first | (with_reducible assumption) | ((with_reducible refine Blk.new' ?_); (simp [Nat.add_assoc]; done)) | (with_reducible refine Blk.alloc ?_ _) | (with_reducible refine Blk.more ?_ _ _) | (with_reducible refine Blk.drew ?_) | (with_reducible refine Blk.drewN ?_ _)))
  have hm : More w (((w.alloc (.cells #[.int .i64 0, .int .i64 0, .int .i64 0, .int .i64 0, .int .i64 0] 32)).alloc (.cells #[.int .i64 0, .int .i64 0, .int .i64 0, .int .i64 0, .int .i64 0] 32)).alloc (.cells (List.map Value.string (wordsB s)).toArray 9)) := (by repeat (first | (with_reducible assumption) | (with_reducible exact More.refl _) | (with_reducible refine More.alloc ?_ _) | (with_reducible refine More.more ?_ _ _) | (with_reducible refine More.drewN ?_ _) | (with_reducible refine More.drew ?_)))
  generalize (((w.alloc (.cells #[.int .i64 0, .int .i64 0, .int .i64 0, .int .i64 0, .int .i64 0] 32)).alloc (.cells #[.int .i64 0, .int .i64 0, .int .i64 0, .int .i64 0, .int .i64 0] 32)).alloc (.cells (List.map Value.string (wordsB s)).toArray 9)) = wf at *
  have x0 : wf.cell? ⟨w.heap.size, 0, none⟩ = some (.int .i64 0) := hb.cell 0
  have x1 : wf.cell? ⟨w.heap.size, 1, none⟩ = some (.int .i64 0) := hb.cell 1
  have x2 : wf.cell? ⟨w.heap.size, 2, none⟩ = some (.int .i64 0) := hb.cell 2
  have x3 : wf.cell? ⟨w.heap.size, 3, none⟩ = some (.int .i64 0) := hb.cell 3
  have x4 : wf.cell? ⟨w.heap.size, 4, none⟩ = some (.int .i64 0) := hb.cell 4
  refine bodyPost_ret (v := .tuple #[.agg #[.int .i64 0, .int .i64 0, .int .i64 0, .int .i64 0, .int .i64 0], .int .i64 1]) ?_ rfl ?_
  · simp [results, Tryz.results11, go_sem, x0, x1, x2, x3, x4]
  · exact ⟨rfl, hm⟩
/-- The kind so far: behind the first k names. -/
def kp (x : List UInt8) : Nat → Int
  | 0 => 0
  | 1 => if x = bVegas then 1 else 0
  | 2 => if x = bCopa then 2 else if x = bVegas then 1 else 0
  | _ => kOf x
def nmS (k : Nat) : List UInt8 := if k = 0 then bVegas else if k = 1 then bCopa else bLedbat
theorem kp_hit {x : List UInt8} {k : Nat} (h : k < 3) (hx : x = nmS k) : kp x (k + 1) = (k : Int) + 1 := by
  subst hx
  rcases (show k = 0 ∨ k = 1 ∨ k = 2 by omega) with rfl | rfl | rfl <;> decide
theorem kp_miss {x : List UInt8} {k : Nat} (h : k < 3) (hx : ¬ x = nmS k) : kp x (k + 1) = kp x k := by
  rcases (show k = 0 ∨ k = 1 ∨ k = 2 by omega) with rfl | rfl | rfl
  · exact if_neg hx
  · exact if_neg hx
  · exact if_neg hx
def kv (X : Nat → ByteArray) (who k a : Nat) : Int := if a < who then kOf (X a).data.toList else if a = who then kp (X a).data.toList k else 0
abbrev rowK (f : Nat → Int) : Array Value := #[.int .i64 (f 0), .int .i64 (f 1), .int .i64 0, .int .i64 0, .int .i64 0]
theorem kv_hit {X : Nat → ByteArray} {who k : Nat} (hw : who < 2) (h : k < 3) (hx : (X who).data.toList = nmS k) : (rowK (kv X who k)).setIfInBounds who (.int .i64 ((k : Int) + 1)) = rowK (kv X who (k + 1)) := by
  have e := kp_hit h hx
  rcases (show who = 0 ∨ who = 1 by omega) with rfl | rfl
  · simp [rowK, kv, e]
  · simp [rowK, kv, e]
theorem kv_miss {X : Nat → ByteArray} {who k : Nat} (hw : who < 2) (h : k < 3) (hx : ¬ (X who).data.toList = nmS k) : rowK (kv X who k) = rowK (kv X who (k + 1)) := by
  have e := kp_miss h hx
  rcases (show who = 0 ∨ who = 1 by omega) with rfl | rfl
  · simp [rowK, kv, e]
  · simp [rowK, kv, e]
theorem kv_next {X : Nat → ByteArray} {who : Nat} (hw : who < 2) : rowK (kv X who 3) = rowK (kv X (who + 1) 0) := by
  rcases (show who = 0 ∨ who = 1 by omega) with rfl | rfl <;> rfl
abbrev rowS (X : Nat → ByteArray) : Array Value := #[.string (X 0), .string (X 1), .string (X 2), .string (X 3), .string (X 4)]
abbrev rowZ : Array Value := #[.int .i64 0, .int .i64 0, .int .i64 0, .int .i64 0, .int .i64 0]
abbrev rowF : Array Value := #[nameV bVegas, nameV bCopa, nameV bLedbat]
/-- The numbers so far: behind the first j of them. -/
def nv (X : Nat → ByteArray) (j a : Nat) : Int := if a < j then bnInt (X (2 + a)).data.toList else 0
abbrev rowN (X : Nat → ByteArray) (j : Nat) : Array Value := #[.int .i64 (kOf (X 0).data.toList), .int .i64 (kOf (X 1).data.toList), .int .i64 (nv X j 0), .int .i64 (nv X j 1), .int .i64 (nv X j 2)]
abbrev rowP (R : Nat) : Array Value := #[.pointer (some ⟨R, 2, none⟩), .pointer (some ⟨R, 3, none⟩), .pointer (some ⟨R, 4, none⟩)]
theorem splitB_size (sep : ByteArray) : ∀ (k : Nat) (s x : ByteArray), x ∈ Lib.splitB sep 0 k s → x.size ≤ s.size
  | 0, s, x, h => by
    rw [Lib.splitB_zero, List.mem_singleton] at h
    subst h
    exact Nat.le_refl _
  | k + 1, s, x, h => by
    unfold Lib.splitB at h
    split at h
    · rw [List.mem_singleton] at h
      subst h
      exact Nat.le_refl _
    · rcases List.mem_cons.1 h with rfl | h
      · rw [ByteArray.size_extract]; omega
      · exact Nat.le_trans (splitB_size sep k _ x h) (by rw [ByteArray.size_extract]; omega)
theorem read_five {s : ByteArray} {X : Nat → ByteArray} (hX : wordsB s = [X 0, X 1, X 2, X 3, X 4]) :
    bnRead s = some (kOf (X 0).data.toList, kOf (X 1).data.toList, nv X 3 0, nv X 3 1, nv X 3 2) := by
  unfold bnRead
  rw [hX]
  rfl
/-- Nothing else would have been read. -/
theorem parse_no {s : ByteArray} {X : Nat → ByteArray} (hX : wordsB s = [X 0, X 1, X 2, X 3, X 4])
    (h : BOk (kOf (X 0).data.toList) (kOf (X 1).data.toList) (nv X 3 0) (nv X 3 1) (nv X 3 2) → s ≠ ⟨(bnText (kOf (X 0).data.toList) (kOf (X 1).data.toList) (nv X 3 0).toNat (nv X 3 1).toNat (nv X 3 2).toNat).toArray⟩) (a b : Int) (c d e : Nat) (hk : BOk a b c d e) : s ≠ ⟨(bnText a b c d e).toArray⟩ := by
  intro hs
  have hk' := hk
  obtain ⟨h1, h2, h3⟩ := hk
  unfold dNums at h3
  have hr := read_text h1 h2 (rate := c) (buf := d) (jit := e) (by omega) (by omega) (by omega) (s := s) (by rw [hs])
  rw [read_five hX] at hr
  simp only [Option.some.injEq, Prod.mk.injEq] at hr
  obtain ⟨e1, e2, e3, e4, e5⟩ := hr
  rw [e1, e2, e3, e4, e5] at h
  exact h hk' hs
set_option maxRecDepth 20000 in
set_option maxHeartbeats 4000000 in
theorem parse_five (s : ByteArray) (hs : s.size < 4294967281) (w : World) (hT : Hid (BTabs w)) (X : Nat → ByteArray) (hX : wordsB s = [X 0, X 1, X 2, X 3, X 4]) :
    Calls Tryz.prog 11 #[.string s] w fun e w' => ∃ k0 k1 a b c er, e = .returned (.tuple #[.agg #[.int .i64 k0, .int .i64 k1, .int .i64 a, .int .i64 b, .int .i64 c], .int .i64 er]) ∧ Hid (PPa s k0 k1 a b c er) ∧ More w w' := by
  have hl : (wordsB s).length = 5 := by rw [hX]; rfl
  have HC : Hid (∀ W, BTabs W → Calls Tryz.prog 33 #[.string s, .string ⟨#[32]⟩] W fun e w' => e = .returned (.slice (some ⟨W.heap.size, 0, none⟩) 5 5) ∧ w' = W.alloc (.cells (rowS X) 9)) := by
    intro W hW
    have h := split_any s hs W hW
    rw [hl, hX] at h
    exact h
  have HX := Lib.hid hX
  clear hl hX
  go_enter Tryz.func11, Tryz.ntmps11
  go_wp2_with fail
  refine (HC.out _ (hT.out.more (by repeat (first | (with_reducible exact More.refl _) | (with_reducible refine More.alloc ?_ _) | (with_reducible refine More.more ?_ _ _) | (with_reducible refine More.drewN ?_ _) | (with_reducible refine More.drew ?_))))).mono ?_
  rintro e w' ⟨rfl, rfl⟩
  clear HC
  go_wp2_with fail
  have hO : Blk (((w.alloc (.cells rowZ 32)).alloc (.cells rowZ 32)).alloc (.cells (rowS X) 9)) w.heap.size 32 rowZ := (by repeat (first | (with_reducible assumption) | ((with_reducible refine Blk.new' ?_); (simp [Nat.add_assoc]; done)) | (with_reducible refine Blk.alloc ?_ _) | (with_reducible refine Blk.more ?_ _ _) | (with_reducible refine Blk.drew ?_) | (with_reducible refine Blk.drewN ?_ _)))
  have hR : Blk (((w.alloc (.cells rowZ 32)).alloc (.cells rowZ 32)).alloc (.cells (rowS X) 9)) (w.heap.size + 1) 32 rowZ := (by repeat (first | (with_reducible assumption) | ((with_reducible refine Blk.new' ?_); (simp [Nat.add_assoc]; done)) | (with_reducible refine Blk.alloc ?_ _) | (with_reducible refine Blk.more ?_ _ _) | (with_reducible refine Blk.drew ?_) | (with_reducible refine Blk.drewN ?_ _)))
  have hR : Blk (((w.alloc (.cells rowZ 32)).alloc (.cells rowZ 32)).alloc (.cells (rowS X) 9)) (w.heap.size + 1) 32 (rowK (kv X 0 0)) := hR
  have hS : Blk (((w.alloc (.cells rowZ 32)).alloc (.cells rowZ 32)).alloc (.cells (rowS X) 9)) (w.heap.size + 2) 9 (rowS X) := (by repeat (first | (with_reducible assumption) | ((with_reducible refine Blk.new' ?_); (simp [Nat.add_assoc]; done)) | (with_reducible refine Blk.alloc ?_ _) | (with_reducible refine Blk.more ?_ _ _) | (with_reducible refine Blk.drew ?_) | (with_reducible refine Blk.drewN ?_ _)))
  have hB : Below w.heap.size w (((w.alloc (.cells rowZ 32)).alloc (.cells rowZ 32)).alloc (.cells (rowS X) 9)) := More.below (by repeat (first | (with_reducible assumption) | (with_reducible exact More.refl _) | (with_reducible refine More.alloc ?_ _) | (with_reducible refine More.more ?_ _ _) | (with_reducible refine More.drewN ?_ _) | (with_reducible refine More.drew ?_)))
  generalize (((w.alloc (.cells rowZ 32)).alloc (.cells rowZ 32)).alloc (.cells (rowS X) 9)) = wz at *
  go_loopw [19] (fun i wr => ∃ who : Nat, i = .int .i64 who ∧ who ≤ 2 ∧ Blk wr (w.heap.size + 1) 32 (rowK (kv X who 0)) ∧ Blk wr (w.heap.size + 2) 9 (rowS X) ∧ Blk wr w.heap.size 32 rowZ ∧ Below w.heap.size w wr) (fun i _ => 2 - (intOf i).toNat)
  case atStart => exact ⟨0, rfl, by omega, hR, hS, hO, hB⟩
  case round =>
    clear hR hS hO hB
    obtain ⟨who, hi, hwho, hR, hS, hO, hB⟩ := hrel
    by_cases hlt : who < 2
    · subst hi
      have q1 : decide ((who : Int) < 2) = true := by simp; omega
      have HR := Lib.hid hR
      have HS := Lib.hid hS
      have HO := Lib.hid hO
      clear hR hS hO
      go_wp2_with fail
      refine (fields_names _ (hT.out.below hB)).mono ?_
      rintro e w' ⟨rfl, rfl⟩
      go_wp2_with fail
      have hR := HR.out.alloc (.cells rowF 9)
      have hS := HS.out.alloc (.cells rowF 9)
      have hO := HO.out.alloc (.cells rowF 9)
      have hF : Blk (wr.alloc (.cells rowF 9)) wr.heap.size 9 rowF := Blk.new _ _ _
      have hB2 : Below w.heap.size w (wr.alloc (.cells rowF 9)) := hB.alloc hB.size _
      have hFl : w.heap.size + 2 < wr.heap.size := HS.out.lt
      clear HR HS HO hB
      generalize (wr.alloc (.cells rowF 9)) = wv at *
      generalize wr.heap.size = F at *
      go_loopw [24] (fun i wi => ∃ k : Nat, i = .int .i64 k ∧ k ≤ 3 ∧ Blk wi (w.heap.size + 1) 32 (rowK (kv X who k)) ∧ Blk wi (w.heap.size + 2) 9 (rowS X) ∧ Blk wi w.heap.size 32 rowZ ∧ Blk wi F 9 rowF ∧ Below w.heap.size w wi) (fun i _ => 3 - (intOf i).toNat)
      case atStart => exact ⟨0, rfl, by omega, hR, hS, hO, hF, hB2⟩
      case round =>
        clear hR hS hO hF hB2
        obtain ⟨k, rfl, hk, hR, hS, hO, hF, hB⟩ := hrel
        by_cases hlk : k < 3
        · have q2 : decide ((k : Int) < 3) = true := by simp; omega
          obtain ⟨N, hN⟩ : ∃ N : ByteArray, Hid (N = ⟨(nmS k).toArray⟩) := ⟨_, rfl⟩
          have y1 : wr.cell? ⟨F, k, none⟩ = some (.string N) := by
            rw [hF.cell, hN.out]
            rcases (show k = 0 ∨ k = 1 ∨ k = 2 by omega) with rfl | rfl | rfl <;> rfl
          have y2 : wr.cell? ⟨w.heap.size + 2, who, none⟩ = some (.string (X who)) := by
            rw [hS.cell]
            rcases (show who = 0 ∨ who = 1 by omega) with rfl | rfl <;> rfl
          have y3 : wr.cell? ⟨w.heap.size + 1, who, none⟩ = some (.int .i64 (kv X who k who)) := by
            rw [hR.cell]
            rcases (show who = 0 ∨ who = 1 by omega) with rfl | rfl <;> rfl
          have y4 : wr.frozen? ⟨w.heap.size + 1, who, none⟩ = false := hR.frozen who
          have l1 := hF.lt
          have l2 := hS.lt
          have l3 := hR.lt
          have HR := Lib.hid hR
          have HS := Lib.hid hS
          have HO := Lib.hid hO
          have HF := Lib.hid hF
          clear hR hS hO hF
          have qn : N.data.toList = nmS k := by rw [hN.out]
          by_cases hx : (X who).data.toList = nmS k
          · have q3 : (N.toList == (X who).toList) = true := by rw [Lib.toList_data, Lib.toList_data, qn, hx]; simp
            have hx' := Lib.hid hx
            clear hx qn
            go_wp2_with fail
            go_roundw
            case rel =>
              refine ⟨k + 1, by go_num, by omega, ?_, HS.out.far (by simp) _, HO.out.far (by simp) _, HF.out.far (by simp; omega) _, ?_⟩
              · have := HR.out.put who (.int .i64 ((k : Int) + 1))
                rw [kv_hit hlt hlk hx'.out] at this
                exact this
              · exact hB.setCell (by simp) _
            case measure => simp [intOf]; omega
          · have q3 : (N.toList == (X who).toList) = false := by rw [Lib.toList_data, Lib.toList_data, qn]; simpa using fun e => hx e.symm
            have hx' := Lib.hid hx
            clear hx qn
            go_wp2_with fail
            go_roundw
            case rel =>
              exact ⟨k + 1, by go_num, by omega, kv_miss hlt hlk hx'.out ▸ HR.out, HS.out, HO.out, HF.out, hB⟩
            case measure => simp [intOf]; omega
        · obtain rfl : k = 3 := by omega
          have HR := Lib.hid hR
          have HS := Lib.hid hS
          have HO := Lib.hid hO
          clear hR hS hO hF
          go_wp2_with fail
          go_roundw
          case rel => exact ⟨who + 1, by go_num, by omega, kv_next hlt ▸ HR.out, HS.out, HO.out, hB⟩
          case measure => simp [intOf]; omega
    · obtain rfl : who = 2 := by omega
      have hi : _ = Value.int .i64 2 := hi
      subst hi
      have HR := Lib.hid hR
      have HS := Lib.hid hS
      have HO := Lib.hid hO
      clear hR hS hO
      have hlR := HR.out.lt
      have hlS := HS.out.lt
      have hlO := HO.out.lt
      go_wp2_with fail
      have hR : Blk (wr.alloc (.cells (rowP (w.heap.size + 1)) 72)) (w.heap.size + 1) 32 (rowN X 0) := HR.out.alloc _
      have hS := HS.out.alloc (.cells (rowP (w.heap.size + 1)) 72)
      have hO := HO.out.alloc (.cells (rowP (w.heap.size + 1)) 72)
      have hP : Blk (wr.alloc (.cells (rowP (w.heap.size + 1)) 72)) wr.heap.size 72 (rowP (w.heap.size + 1)) := Blk.new _ _ _
      have hB2 : Below w.heap.size w (wr.alloc (.cells (rowP (w.heap.size + 1)) 72)) := hB.alloc hB.size _
      have hPl : w.heap.size + 2 < wr.heap.size := hlS
      clear HR HS HO hB hlR hlO hlS
      generalize (wr.alloc (.cells (rowP (w.heap.size + 1)) 72)) = wv at *
      generalize wr.heap.size = P at *
      go_loopw [47] (fun i wi => ∃ j : Nat, i = .int .i64 j ∧ j ≤ 3 ∧ Blk wi (w.heap.size + 1) 32 (rowN X j) ∧ Blk wi (w.heap.size + 2) 9 (rowS X) ∧ Blk wi w.heap.size 32 rowZ ∧ Blk wi P 72 (rowP (w.heap.size + 1)) ∧ Below w.heap.size w wi) (fun i _ => 3 - (intOf i).toNat)
      case atStart => exact ⟨0, rfl, by omega, hR, hS, hO, hP, hB2⟩
      case round =>
        clear hR hS hO hP hB2
        obtain ⟨j, hi, hj, hR, hS, hO, hP, hB⟩ := hrel
        have hXs : ∀ a, a < 5 → (X a).size ≤ s.size := fun a ha => splitB_size ⟨#[32]⟩ _ s _ (by
          have h := HX.out
          unfold wordsB at h
          rw [h]
          rcases (show a = 0 ∨ a = 1 ∨ a = 2 ∨ a = 3 ∨ a = 4 by omega) with rfl | rfl | rfl | rfl | rfl <;> simp)
        rcases (show j = 0 ∨ j = 1 ∨ j = 2 ∨ j = 3 by omega) with rfl | rfl | rfl | rfl
        · have hi : _ = Value.int .i64 0 := hi
          subst hi
          have y1 : wr.cell? ⟨P, 0, none⟩ = some (.pointer (some ⟨w.heap.size + 1, 2, none⟩)) := hP.cell 0
          have y2 : wr.cell? ⟨w.heap.size + 2, 2, none⟩ = some (.string (X 2)) := hS.cell 2
          have hA := atoi_any (X 2) (by have := hXs 2 (by omega); omega) wr (hT.out.below hB)
          have HA := Lib.hid hA
          have l1 := hP.lt
          have l2 := hS.lt
          have HR := Lib.hid hR
          have HS := Lib.hid hS
          have HO := Lib.hid hO
          have HP := Lib.hid hP
          clear hR hS hO hP hA hXs
          go_wp2_with fail
          refine HA.out.mono ?_
          rintro e w' ⟨er, rfl, os, d, rfl⟩
          have hR := HR.out.more os d
          have hS := HS.out.more os d
          have hO := HO.out.more os d
          have hP := HP.out.more os d
          have hB3 : Below w.heap.size w (wr.more os d) := hB.trans (Below.mono (More.below (by repeat (first | (with_reducible exact More.refl _) | (with_reducible refine More.alloc ?_ _) | (with_reducible refine More.more ?_ _ _) | (with_reducible refine More.drewN ?_ _) | (with_reducible refine More.drew ?_)))) hB.size)
          clear y1 y2 l1 l2 HA HR HS HO HP hB
          generalize wr.more os d = wq at *
          have y3 : wq.cell? ⟨w.heap.size + 1, 2, none⟩ = some (.int .i64 0) := hR.cell 2
          have y4 : wq.frozen? ⟨w.heap.size + 1, 2, none⟩ = false := hR.frozen 2
          have l3 := hR.lt
          have HR := Lib.hid hR
          have HS := Lib.hid hS
          have HO := Lib.hid hO
          have HP := Lib.hid hP
          clear hR hS hO hP
          go_wp2_with fail
          go_roundw
          case rel => exact ⟨1, by go_num, by omega, HR.out.put 2 (.int .i64 (bnInt (X 2).data.toList)), HS.out.far (by simp) _, HO.out.far (by simp) _, HP.out.far (by simp; omega) _, hB3.setCell (by simp) _⟩
          case measure => simp [intOf]
        · have hi : _ = Value.int .i64 1 := hi
          subst hi
          have y1 : wr.cell? ⟨P, 1, none⟩ = some (.pointer (some ⟨w.heap.size + 1, 3, none⟩)) := hP.cell 1
          have y2 : wr.cell? ⟨w.heap.size + 2, 3, none⟩ = some (.string (X 3)) := hS.cell 3
          have hA := atoi_any (X 3) (by have := hXs 3 (by omega); omega) wr (hT.out.below hB)
          have HA := Lib.hid hA
          have l1 := hP.lt
          have l2 := hS.lt
          have HR := Lib.hid hR
          have HS := Lib.hid hS
          have HO := Lib.hid hO
          have HP := Lib.hid hP
          clear hR hS hO hP hA hXs
          go_wp2_with fail
          refine HA.out.mono ?_
          rintro e w' ⟨er, rfl, os, d, rfl⟩
          have hR := HR.out.more os d
          have hS := HS.out.more os d
          have hO := HO.out.more os d
          have hP := HP.out.more os d
          have hB3 : Below w.heap.size w (wr.more os d) := hB.trans (Below.mono (More.below (by repeat (first | (with_reducible exact More.refl _) | (with_reducible refine More.alloc ?_ _) | (with_reducible refine More.more ?_ _ _) | (with_reducible refine More.drewN ?_ _) | (with_reducible refine More.drew ?_)))) hB.size)
          clear y1 y2 l1 l2 HA HR HS HO HP hB
          generalize wr.more os d = wq at *
          have y3 : wq.cell? ⟨w.heap.size + 1, 3, none⟩ = some (.int .i64 0) := hR.cell 3
          have y4 : wq.frozen? ⟨w.heap.size + 1, 3, none⟩ = false := hR.frozen 3
          have l3 := hR.lt
          have HR := Lib.hid hR
          have HS := Lib.hid hS
          have HO := Lib.hid hO
          have HP := Lib.hid hP
          clear hR hS hO hP
          go_wp2_with fail
          go_roundw
          case rel => exact ⟨2, by go_num, by omega, HR.out.put 3 (.int .i64 (bnInt (X 3).data.toList)), HS.out.far (by simp) _, HO.out.far (by simp) _, HP.out.far (by simp; omega) _, hB3.setCell (by simp) _⟩
          case measure => simp [intOf]
        · have hi : _ = Value.int .i64 2 := hi
          subst hi
          have y1 : wr.cell? ⟨P, 2, none⟩ = some (.pointer (some ⟨w.heap.size + 1, 4, none⟩)) := hP.cell 2
          have y2 : wr.cell? ⟨w.heap.size + 2, 4, none⟩ = some (.string (X 4)) := hS.cell 4
          have hA := atoi_any (X 4) (by have := hXs 4 (by omega); omega) wr (hT.out.below hB)
          have HA := Lib.hid hA
          have l1 := hP.lt
          have l2 := hS.lt
          have HR := Lib.hid hR
          have HS := Lib.hid hS
          have HO := Lib.hid hO
          have HP := Lib.hid hP
          clear hR hS hO hP hA hXs
          go_wp2_with fail
          refine HA.out.mono ?_
          rintro e w' ⟨er, rfl, os, d, rfl⟩
          have hR := HR.out.more os d
          have hS := HS.out.more os d
          have hO := HO.out.more os d
          have hP := HP.out.more os d
          have hB3 : Below w.heap.size w (wr.more os d) := hB.trans (Below.mono (More.below (by repeat (first | (with_reducible exact More.refl _) | (with_reducible refine More.alloc ?_ _) | (with_reducible refine More.more ?_ _ _) | (with_reducible refine More.drewN ?_ _) | (with_reducible refine More.drew ?_)))) hB.size)
          clear y1 y2 l1 l2 HA HR HS HO HP hB
          generalize wr.more os d = wq at *
          have y3 : wq.cell? ⟨w.heap.size + 1, 4, none⟩ = some (.int .i64 0) := hR.cell 4
          have y4 : wq.frozen? ⟨w.heap.size + 1, 4, none⟩ = false := hR.frozen 4
          have l3 := hR.lt
          have HR := Lib.hid hR
          have HS := Lib.hid hS
          have HO := Lib.hid hO
          have HP := Lib.hid hP
          clear hR hS hO hP
          go_wp2_with fail
          go_roundw
          case rel => exact ⟨3, by go_num, by omega, HR.out.put 4 (.int .i64 (bnInt (X 4).data.toList)), HS.out.far (by simp) _, HO.out.far (by simp) _, HP.out.far (by simp; omega) _, hB3.setCell (by simp) _⟩
          case measure => simp [intOf]
        · have hi : _ = Value.int .i64 3 := hi
          subst hi
          have hpn := parse_no HX.out
          have hA := print_any (kOf (X 0).data.toList) (kOf (X 1).data.toList) (nv X 3 0) (nv X 3 1) (nv X 3 2) wr (hT.out.below hB)
          have z0 : wr.cell? ⟨w.heap.size + 1, 0, none⟩ = some (.int .i64 (kOf (X 0).data.toList)) := hR.cell 0
          have z1 : wr.cell? ⟨w.heap.size + 1, 1, none⟩ = some (.int .i64 (kOf (X 1).data.toList)) := hR.cell 1
          have z2 : wr.cell? ⟨w.heap.size + 1, 2, none⟩ = some (.int .i64 (nv X 3 0)) := hR.cell 2
          have z3 : wr.cell? ⟨w.heap.size + 1, 3, none⟩ = some (.int .i64 (nv X 3 1)) := hR.cell 3
          have z4 : wr.cell? ⟨w.heap.size + 1, 4, none⟩ = some (.int .i64 (nv X 3 2)) := hR.cell 4
          have hR : Blk wr (w.heap.size + 1) 32 #[.int .i64 (kOf (X 0).data.toList), .int .i64 (kOf (X 1).data.toList), .int .i64 (nv X 3 0), .int .i64 (nv X 3 1), .int .i64 (nv X 3 2)] := hR
          clear hXs hS hP
          generalize kOf (X 0).data.toList = k0 at *
          generalize kOf (X 1).data.toList = k1 at *
          generalize nv X 3 0 = n0 at *
          generalize nv X 3 1 = n1 at *
          generalize nv X 3 2 = n2 at *
          have l1 := hR.lt
          have HA := Lib.hid hA
          have HR := Lib.hid hR
          have HO := Lib.hid hO
          have HN := Lib.hid hpn
          clear hA hR hO hpn
          go_wp2_with fail
          refine HA.out.mono ?_
          rintro e w' ⟨t, er, rfl, HQ, os, d, rfl⟩
          have hR := HR.out.more os d
          have hO := HO.out.more os d
          have hB3 : Below w.heap.size w (wr.more os d) := hB.trans (Below.mono (More.below (by repeat (first | (with_reducible exact More.refl _) | (with_reducible refine More.alloc ?_ _) | (with_reducible refine More.more ?_ _ _) | (with_reducible refine More.drewN ?_ _) | (with_reducible refine More.drew ?_)))) hB.size)
          clear z0 z1 z2 z3 z4 l1 HA HR HO hB
          generalize wr.more os d = wq at *
          have z0 : wq.cell? ⟨w.heap.size + 1, 0, none⟩ = some (.int .i64 k0) := hR.cell 0
          have z1 : wq.cell? ⟨w.heap.size + 1, 1, none⟩ = some (.int .i64 k1) := hR.cell 1
          have z2 : wq.cell? ⟨w.heap.size + 1, 2, none⟩ = some (.int .i64 n0) := hR.cell 2
          have z3 : wq.cell? ⟨w.heap.size + 1, 3, none⟩ = some (.int .i64 n1) := hR.cell 3
          have z4 : wq.cell? ⟨w.heap.size + 1, 4, none⟩ = some (.int .i64 n2) := hR.cell 4
          have l1 := hR.lt
          have l2 := hO.lt
          have HO := Lib.hid hO
          clear hR hO
          by_cases hk : BOk k0 k1 n0 n1 n2 ∧ t = s
          · have hk' := Lib.hid hk
            have q1 : (er != 0) = false := by
              rcases HQ.out with ⟨a, b, c, ha, hb, hc, hok, ht, rfl⟩ | ⟨hno, _⟩
              · rfl
              · exact absurd hk.1 hno
            have q2 : (t.toList == s.toList) = true := by rw [hk.2]; simp
            have q3 : (t.toList != s.toList) = false := by rw [hk.2]; simp
            clear hk
            go_wp2_with (refine wpList_store_row rfl _ _ _ rfl w.heap.size #[.int .i64 k0, .int .i64 k1, .int .i64 n0, .int .i64 n1, .int .i64 n2] rfl rfl 32 rowZ HO.out (by kernel_rfl) rfl (by simp [Value.oneCell']) ?_)
            have hf : Blk (wq.setRow w.heap.size #[.int .i64 k0, .int .i64 k1, .int .i64 n0, .int .i64 n1, .int .i64 n2]) w.heap.size 32 #[.int .i64 k0, .int .i64 k1, .int .i64 n0, .int .i64 n1, .int .i64 n2] := setRow_heap _ _ _ _ _ _ HO.out
            have hB4 := below_row hB3 (Nat.le_refl _) #[.int .i64 k0, .int .i64 k1, .int .i64 n0, .int .i64 n1, .int .i64 n2]
            generalize wq.setRow w.heap.size #[.int .i64 k0, .int .i64 k1, .int .i64 n0, .int .i64 n1, .int .i64 n2] = wf at *
            have x0 : wf.cell? ⟨w.heap.size, 0, none⟩ = some (.int .i64 k0) := hf.cell 0
            have x1 : wf.cell? ⟨w.heap.size, 1, none⟩ = some (.int .i64 k1) := hf.cell 1
            have x2 : wf.cell? ⟨w.heap.size, 2, none⟩ = some (.int .i64 n0) := hf.cell 2
            have x3 : wf.cell? ⟨w.heap.size, 3, none⟩ = some (.int .i64 n1) := hf.cell 3
            have x4 : wf.cell? ⟨w.heap.size, 4, none⟩ = some (.int .i64 n2) := hf.cell 4
            refine bodyPost_ret (v := .tuple #[.agg #[.int .i64 k0, .int .i64 k1, .int .i64 n0, .int .i64 n1, .int .i64 n2], .int .i64 0]) ?_ rfl ?_
            · simp [results, Tryz.results11, go_sem, x0, x1, x2, x3, x4]
            · refine ⟨k0, k1, n0, n1, n2, 0, rfl, .inl ⟨rfl, hk'.out.1, ?_⟩, More.of_below hB4⟩
              rcases HQ.out with ⟨a, b, c, ha, hb, hc, hok, ht, _⟩ | ⟨hno, _⟩
              · rw [← hk'.out.2, ht, ha, hb, hc]; rfl
              · exact absurd hk'.out.1 hno
          · have hbad : Hid (∀ (a b : Int) (c d e : Nat), BOk a b c d e → s ≠ ⟨(bnText a b c d e).toArray⟩) := HN.out (fun hb he => by
              rcases HQ.out with ⟨a, b, c, ha, hb', hc, hok, ht, _⟩ | ⟨hno, _⟩
              · exact hk ⟨hb, by rw [he, ht, ha, hb', hc]; rfl⟩
              · exact hno hb)
            have q : (er != 0) = true ∨ ((er != 0) = false ∧ (t.toList == s.toList) = false) := by
              rcases HQ.out with ⟨a, b, c, ha, hb', hc, hok, ht, rfl⟩ | ⟨hno, _, _, her⟩
              · refine .inr ⟨rfl, ?_⟩
                have hts : t ≠ s := fun h => hk ⟨hok, h⟩
                rw [Lib.toList_data, Lib.toList_data]
                refine Bool.eq_false_iff.2 fun h => hts ?_
                have h' : t.data.toList = s.data.toList := by simpa using h
                exact ByteArray.ext (Array.ext' h')
              · exact .inl (by simpa using her)
            have hO := HO.out
            have x0 : wq.cell? ⟨w.heap.size, 0, none⟩ = some (.int .i64 0) := hO.cell 0
            have x1 : wq.cell? ⟨w.heap.size, 1, none⟩ = some (.int .i64 0) := hO.cell 1
            have x2 : wq.cell? ⟨w.heap.size, 2, none⟩ = some (.int .i64 0) := hO.cell 2
            have x3 : wq.cell? ⟨w.heap.size, 3, none⟩ = some (.int .i64 0) := hO.cell 3
            have x4 : wq.cell? ⟨w.heap.size, 4, none⟩ = some (.int .i64 0) := hO.cell 4
            clear hO hk
            have Q := Lib.hid q
            clear q
            rcases Q.out with q1 | ⟨q1, q2⟩
            · go_wp2_with (refine wpList_store_row rfl _ _ _ rfl w.heap.size rowZ rfl rfl 32 rowZ HO.out (by kernel_rfl) rfl (by simp [Value.oneCell']) ?_)
              have hf : Blk (wq.setRow w.heap.size rowZ) w.heap.size 32 rowZ := setRow_heap _ _ _ _ _ _ HO.out
              have hB4 := below_row hB3 (Nat.le_refl _) rowZ
              generalize wq.setRow w.heap.size rowZ = wf at *
              have x0 : wf.cell? ⟨w.heap.size, 0, none⟩ = some (.int .i64 0) := hf.cell 0
              have x1 : wf.cell? ⟨w.heap.size, 1, none⟩ = some (.int .i64 0) := hf.cell 1
              have x2 : wf.cell? ⟨w.heap.size, 2, none⟩ = some (.int .i64 0) := hf.cell 2
              have x3 : wf.cell? ⟨w.heap.size, 3, none⟩ = some (.int .i64 0) := hf.cell 3
              have x4 : wf.cell? ⟨w.heap.size, 4, none⟩ = some (.int .i64 0) := hf.cell 4
              refine bodyPost_ret (v := .tuple #[.agg #[.int .i64 0, .int .i64 0, .int .i64 0, .int .i64 0, .int .i64 0], .int .i64 1]) ?_ rfl ?_
              · simp [results, Tryz.results11, go_sem, x0, x1, x2, x3, x4]
              · exact ⟨0, 0, 0, 0, 0, 1, rfl, .inr ⟨rfl, ⟨rfl, rfl, rfl, rfl, rfl⟩, hbad.out⟩, More.of_below hB4⟩
            · go_wp2_with (refine wpList_store_row rfl _ _ _ rfl w.heap.size rowZ rfl rfl 32 rowZ HO.out (by kernel_rfl) rfl (by simp [Value.oneCell']) ?_)
              have hf : Blk (wq.setRow w.heap.size rowZ) w.heap.size 32 rowZ := setRow_heap _ _ _ _ _ _ HO.out
              have hB4 := below_row hB3 (Nat.le_refl _) rowZ
              generalize wq.setRow w.heap.size rowZ = wf at *
              have x0 : wf.cell? ⟨w.heap.size, 0, none⟩ = some (.int .i64 0) := hf.cell 0
              have x1 : wf.cell? ⟨w.heap.size, 1, none⟩ = some (.int .i64 0) := hf.cell 1
              have x2 : wf.cell? ⟨w.heap.size, 2, none⟩ = some (.int .i64 0) := hf.cell 2
              have x3 : wf.cell? ⟨w.heap.size, 3, none⟩ = some (.int .i64 0) := hf.cell 3
              have x4 : wf.cell? ⟨w.heap.size, 4, none⟩ = some (.int .i64 0) := hf.cell 4
              refine bodyPost_ret (v := .tuple #[.agg #[.int .i64 0, .int .i64 0, .int .i64 0, .int .i64 0, .int .i64 0], .int .i64 1]) ?_ rfl ?_
              · simp [results, Tryz.results11, go_sem, x0, x1, x2, x3, x4]
              · exact ⟨0, 0, 0, 0, 0, 1, rfl, .inr ⟨rfl, ⟨rfl, rfl, rfl, rfl, rfl⟩, hbad.out⟩, More.of_below hB4⟩
theorem parse_any (s : ByteArray) (hs : s.size < 4294967281) (w : World) (hT : Hid (BTabs w)) :
    Calls Tryz.prog 11 #[.string s] w fun e w' => ∃ k0 k1 a b c er, e = .returned (.tuple #[.agg #[.int .i64 k0, .int .i64 k1, .int .i64 a, .int .i64 b, .int .i64 c], .int .i64 er]) ∧ Hid (PPa s k0 k1 a b c er) ∧ More w w' := by
  by_cases hl : (wordsB s).length = 5
  · obtain ⟨a, b, c, d, e, h⟩ : ∃ a b c d e, wordsB s = [a, b, c, d, e] := by
      match wordsB s, hl with
      | [a, b, c, d, e], _ => exact ⟨a, b, c, d, e, rfl⟩
    exact parse_five s hs w hT (fun i => match i with | 0 => a | 1 => b | 2 => c | 3 => d | _ => e) h
  · refine (parse_len s hs w hT hl).mono fun e w' ⟨h1, h2⟩ => ⟨0, 0, 0, 0, 0, 1, h1, .inr ⟨rfl, ⟨rfl, rfl, rfl, rfl, rfl⟩, no_read ?_⟩, h2⟩
    unfold bnRead
    split
    · rename_i h
      have := congrArg List.length h
      simp at this
      exact absurd this hl
    · rfl
/-- What is written is read. -/
theorem ppa_text {k0 k1 x0 x1 a b c er : Int} {rate buf jit : Nat} (hk : BOk k0 k1 rate buf jit) (h : PPa ⟨(bnText k0 k1 rate buf jit).toArray⟩ x0 x1 a b c er) : er = 0 ∧ x0 = k0 ∧ x1 = k1 ∧ a = rate ∧ b = buf ∧ c = jit := by
  rcases h with ⟨he, ho, ht⟩ | ⟨_, _, h⟩
  · obtain ⟨h1, h2, h3⟩ := hk
    obtain ⟨g1, g2, g3⟩ := ho
    unfold dNums at h3 g3
    have r1 := read_text h1 h2 (rate := rate) (buf := buf) (jit := jit) (by omega) (by omega) (by omega) (s := ⟨(bnText k0 k1 rate buf jit).toArray⟩) rfl
    rw [ht] at r1
    rw [read_text g1 g2 (rate := a.toNat) (buf := b.toNat) (jit := c.toNat) (by omega) (by omega) (by omega) rfl] at r1
    simp only [Option.some.injEq, Prod.mk.injEq] at r1
    obtain ⟨e1, e2, e3, e4, e5⟩ := r1
    exact ⟨he, e1, e2, by omega, by omega, by omega⟩
  · exact absurd rfl (h k0 k1 rate buf jit hk)
end Go.Proofs.YtgmljgcmfooniaaGreatDoor
