/- The text of a duel's rules: five words; it is read back as it was written. Plain law. Conditions: none. -/
import Derived.Lib.SplitLaws
import Derived.Lib.Join
import Derived.Lib.ItoaNum
import Derived.Lib.AtoiAll
import Derived.Lib.Fields
set_option linter.unusedVariables false
set_option linter.unusedSimpArgs false
namespace Go.Tide
open Go.Lib

abbrev bVegas : List UInt8 := [118, 101, 103, 97, 115]
abbrev bCopa : List UInt8 := [99, 111, 112, 97]
abbrev bLedbat : List UInt8 := [108, 101, 100, 98, 97, 116]
abbrev bNames : List UInt8 := [118, 101, 103, 97, 115, 32, 99, 111, 112, 97, 32, 108, 101, 100, 98, 97, 116]
theorem bFields : fields bNames = [bVegas, bCopa, bLedbat] := by decide +kernel

/-- A kind's name. -/
def bnName (k : Int) : List UInt8 := if k = 1 then bVegas else if k = 2 then bCopa else bLedbat
/-- The kind that a word names; 0: none. -/
def kOf (x : List UInt8) : Int := if x = bLedbat then 3 else if x = bCopa then 2 else if x = bVegas then 1 else 0
/-- What is left in the int at which Atoi's number is laid. -/
def bnInt (x : List UInt8) : Int := match atoiAll x with | .ok v => v | .range => atoiSat x | _ => 0
def bnParts (k0 k1 : Int) (rate buf jit : Nat) : List (List UInt8) := [bnName k0, bnName k1, decDigits rate, decDigits buf, decDigits jit]
def bnText (k0 k1 : Int) (rate buf jit : Nat) : List UInt8 := join (bnParts k0 k1 rate buf jit) [32]

theorem kOf_name {k : Int} (h : k = 1 ∨ k = 2 ∨ k = 3) : kOf (bnName k) = k := by
  rcases h with rfl | rfl | rfl <;> decide
/-- The digits of a number below 100. -/
def dec2 (n : Nat) : List UInt8 := if n < 10 then [UInt8.ofNat (48 + n)] else [UInt8.ofNat (48 + n / 10), UInt8.ofNat (48 + n % 10)]
theorem dec_two {n : Nat} (h : n < 100) : decDigits n = dec2 n := by
  rw [decDigits, dec2]
  split
  · rfl
  · rw [decDigits, dif_pos (by omega)]; rfl
theorem bnInt_dec {n : Nat} (h : n < 17) : bnInt (decDigits n) = n := by
  rw [dec_two (by omega)]
  revert h n
  decide +kernel
theorem dec_free {n : Nat} (h : n < 17) : (32 : UInt8) ∉ decDigits n := by
  rw [dec_two (by omega)]
  revert h n
  decide +kernel
theorem dec_len {n : Nat} (h : n < 17) : (decDigits n).length ≤ 2 := by
  rw [dec_two (by omega), dec2]
  split <;> simp
theorem name_free (k : Int) : (32 : UInt8) ∉ bnName k := by
  unfold bnName
  split
  · decide
  · split <;> decide
theorem name_len (k : Int) : (bnName k).length ≤ 6 := by
  unfold bnName
  split
  · decide
  · split <;> decide

theorem index_free : ∀ {x : List UInt8}, (32 : UInt8) ∉ x → index x [32] = -1
  | [], _ => rfl
  | b :: l, h => by
    have hb : (32 : UInt8) ≠ b := fun e => h (by simp [e])
    have hl : (32 : UInt8) ∉ l := fun e => h (by simp [e])
    have hp : ([32] : List UInt8).isPrefixOf (b :: l) = false := by simp [List.isPrefixOf, hb]
    rw [index, hp, index_free hl]; rfl
theorem index_app (t : List UInt8) : ∀ {x : List UInt8}, (32 : UInt8) ∉ x → index (x ++ 32 :: t) [32] = x.length
  | [], _ => by simp [index, List.isPrefixOf]
  | b :: l, h => by
    have hb : (32 : UInt8) ≠ b := fun e => h (by simp [e])
    have hl : (32 : UInt8) ∉ l := fun e => h (by simp [e])
    have hp : ([32] : List UInt8).isPrefixOf (b :: (l ++ 32 :: t)) = false := by simp [List.isPrefixOf, hb]
    rw [List.cons_append, index, hp, index_app t hl]
    have : ((l.length : Int) == -1) = false := by simp
    rw [if_neg (by simp), this]
    simp
theorem split_last {x : List UInt8} (h : (32 : UInt8) ∉ x) : split x [32] = [x] := by
  rw [split, count_one, List.count_eq_zero.2 h]; rfl
theorem split_next (t : List UInt8) {x : List UInt8} (h : (32 : UInt8) ∉ x) : split (x ++ 32 :: t) [32] = x :: split t [32] := by
  have hc : count (x ++ 32 :: t) [32] = count t [32] + 1 := by
    rw [count_one, count_one, List.count_append, List.count_eq_zero.2 h, List.count_cons_self]; omega
  have hi := index_app t h
  rw [split, hc, splitK, hi, if_neg (by simp), split]
  have e1 : ((x.length : Int)).toNat + 0 = x.length := by omega
  have e2 : ((x.length : Int)).toNat + ([32] : List UInt8).length = x.length + 1 := by simp
  rw [e1, e2, List.take_left]
  have e3 : (x ++ 32 :: t).drop (x.length + 1) = t := by
    rw [show x ++ 32 :: t = (x ++ [32]) ++ t by simp]
    have : x.length + 1 = (x ++ [32]).length := by simp
    rw [this, List.drop_left]
  rw [e3]
theorem bnText_eq (k0 k1 : Int) (rate buf jit : Nat) : bnText k0 k1 rate buf jit = bnName k0 ++ 32 :: (bnName k1 ++ 32 :: (decDigits rate ++ 32 :: (decDigits buf ++ 32 :: decDigits jit))) := by
  unfold bnText bnParts
  rw [join_cons]
  simp [joinTail]
/-- What is written is cut into the words again. -/
theorem split_text {k0 k1 : Int} {rate buf jit : Nat} (h1 : rate < 17) (h2 : buf < 17) (h3 : jit < 17) : split (bnText k0 k1 rate buf jit) [32] = bnParts k0 k1 rate buf jit := by
  rw [bnText_eq, split_next _ (name_free k0), split_next _ (name_free k1), split_next _ (dec_free h1), split_next _ (dec_free h2), split_last (dec_free h3)]
  rfl
theorem bnText_len {k0 k1 : Int} {rate buf jit : Nat} (h1 : rate < 17) (h2 : buf < 17) (h3 : jit < 17) : (bnText k0 k1 rate buf jit).length ≤ 100 := by
  rw [bnText_eq]
  have := name_len k0
  have := name_len k1
  have := dec_len h1
  have := dec_len h2
  have := dec_len h3
  simp only [List.length_append, List.length_cons]
  omega
/-- The words of a text. -/
def wordsB (s : ByteArray) : List ByteArray := splitB ⟨#[32]⟩ 0 (countB s ⟨#[32]⟩) s
theorem words_data (s : ByteArray) : (wordsB s).map (·.data.toList) = split s.data.toList [32] := splitB_data _ _ _ _
theorem words_length (s : ByteArray) : (wordsB s).length = countB s ⟨#[32]⟩ + 1 := splitB_all _ (by decide) 0 _ s rfl
/-- What is read of a text: its five words' kinds and numbers. -/
def bnRead (s : ByteArray) : Option (Int × Int × Int × Int × Int) :=
  match (wordsB s).map (·.data.toList) with
  | [a, b, c, d, e] => some (kOf a, kOf b, bnInt c, bnInt d, bnInt e)
  | _ => none
theorem read_text {k0 k1 : Int} {rate buf jit : Nat} (hk0 : k0 = 1 ∨ k0 = 2 ∨ k0 = 3) (hk1 : k1 = 1 ∨ k1 = 2 ∨ k1 = 3) (h1 : rate < 17) (h2 : buf < 17) (h3 : jit < 17) {s : ByteArray} (hs : s.data.toList = bnText k0 k1 rate buf jit) :
    bnRead s = some (k0, k1, (rate : Int), (buf : Int), (jit : Int)) := by
  unfold bnRead
  rw [words_data, hs, split_text h1 h2 h3]
  simp only [bnParts, kOf_name hk0, kOf_name hk1, bnInt_dec h1, bnInt_dec h2, bnInt_dec h3]
end Go.Tide
