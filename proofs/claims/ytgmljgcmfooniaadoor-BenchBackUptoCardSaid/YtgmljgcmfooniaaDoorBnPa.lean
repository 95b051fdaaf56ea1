/- bench.Parse. Conditions: what the package-level variables hold (BTabs); a text of less than 4294967281 bytes. -/
import Derived.Test.YtgmljgcmfooniaaDoorBnPr
import Derived.Laws.Tables
set_option linter.unusedVariables false
set_option linter.unusedSimpArgs false
namespace Go.Proofs.YtgmljgcmfooniaaDoor
open Go.RowKit Go.Shelf Go.Tide
set_option linter.unusedVariables false
set_option linter.unusedSimpArgs false
theorem below_bytes (w : World) (e : TypeId) (s : ByteArray) : Below w.heap.size w (Lib.bytesWorld w e s) :=
  ⟨rfl, rfl, rfl, by rw [Lib.bytesWorld_size]; omega, fun k hk => Lib.bytesWorld_at_old w e s k hk⟩
theorem below_row {B g : Nat} {a w : World} (h : Below B a w) (hg : B ≤ g) (cs : Array Value) : Below B a (w.setRow g cs) :=
  h.trans ⟨rfl, rfl, rfl, by simp, fun k hk => setRow_other w g k cs (by omega)⟩
/-- strconv.Atoi at whatever string: what is left in the number. -/
theorem atoi_any (s : ByteArray) (hs : s.size ≤ 281474976710656) (w : World) (hT : BTabs w) :
    Calls Tryd.prog 13 #[.string s] w fun e w' => ∃ er, e = .returned (.tuple #[.int .i64 (bnInt s.data.toList), er]) ∧ More w w' := by
  obtain ⟨t1, p1, h1⟩ := hT.es
  obtain ⟨t2, p2, h2⟩ := hT.er
  have c1 : w.cell? ⟨2, 0, none⟩ = some (.iface t1 p1) := by simpa using World.var?_cell gSyn h1 0
  have c2 : w.cell? ⟨3, 0, none⟩ = some (.iface t2 p2) := by simpa using World.var?_cell gRan h2 0
  cases ha : Lib.atoiAll s.data.toList
  · rename_i v
    have e : bnInt s.data.toList = v := by simp [bnInt, ha]
    rw [e]
    refine (Tryd.strconv_Atoi_ok s (by omega) v ha w).mono fun e w' ⟨he, hw⟩ => ⟨_, he, ?_⟩
    rcases hw with rfl | ⟨t, rfl⟩
    · exact More.refl _
    · exact More.of_below (below_bytes _ _ _)
  · have e : bnInt s.data.toList = 0 := by simp [bnInt, ha]
    rw [e]
    have h := Any.strconv_Atoi_syntax Tryd.laysC172 s hs ha _ w c1 (.inr ⟨_, _, rfl⟩)
    exact h.mono fun e w' ⟨N, he, _, _, hb⟩ => ⟨_, he, More.of_below hb⟩
  · have e : bnInt s.data.toList = Lib.atoiSat s.data.toList := by simp [bnInt, ha]
    rw [e]
    exact (Tryd.strconv_Atoi_range s hs ha _ w c2 (.inr ⟨_, _, rfl⟩)).mono fun e w' ⟨N, he, _, _, hb⟩ => ⟨_, he, More.of_below hb⟩
/-- strings.Split at a blank. -/
theorem split_any (s : ByteArray) (hs : s.size < 4294967281) (w : World) (hT : BTabs w) :
    Calls Tryd.prog 11 #[.string s, .string ⟨#[32]⟩] w fun e w' => e = .returned (.slice (some ⟨w.heap.size, 0, none⟩) (wordsB s).length (wordsB s).length) ∧ w' = w.alloc (.cells ((wordsB s).map Value.string).toArray 9) := by
  obtain ⟨m, hm⟩ := hT.ml
  rw [words_length]
  exact Tryd.strings_Split s ⟨#[32]⟩ m w hs hm (by decide)
/-- What Parse answers. -/
def PPa (s : ByteArray) (k0 k1 rate buf jit er : Int) : Prop :=
  (er = 0 ∧ BOk k0 k1 rate buf jit ∧ s = ⟨(bnText k0 k1 rate.toNat buf.toNat jit.toNat).toArray⟩) ∨
    (er = 1 ∧ (k0 = 0 ∧ k1 = 0 ∧ rate = 0 ∧ buf = 0 ∧ jit = 0) ∧ ∀ (a b : Int) (c d e : Nat), BOk a b c d e → s ≠ ⟨(bnText a b c d e).toArray⟩)
theorem no_read {s : ByteArray} (h : bnRead s = none) (a b : Int) (c d e : Nat) (hk : BOk a b c d e) : s ≠ ⟨(bnText a b c d e).toArray⟩ := by
  rintro rfl
  obtain ⟨h1, h2, h3⟩ := hk
  unfold dNums at h3
  rw [read_text h1 h2 (rate := c) (buf := d) (jit := e) (by omega) (by omega) (by omega) rfl] at h
  cases h
set_option maxRecDepth 20000 in
set_option maxHeartbeats 4000000 in
theorem parse_len (s : ByteArray) (hs : s.size < 4294967281) (w : World) (hT : Hid (BTabs w)) (hl : (wordsB s).length ≠ 5) :
    Calls Tryd.prog 6 #[.string s] w fun e w' => e = .returned (.tuple #[.agg #[.int .i64 0, .int .i64 0, .int .i64 0, .int .i64 0, .int .i64 0], .int .i64 1]) ∧ More w w' := by
  have hd : (((wordsB s).length : Int) != 5) = true := by simp; omega
  go_enter Tryd.func6, Tryd.ntmps6
  go_wp2_with fail
  refine (split_any s hs _ (hT.out.more (by repeat (first | (with_reducible exact More.refl _) | (with_reducible refine More.alloc ?_ _) | (with_reducible refine More.more ?_ _ _) | (with_reducible refine More.drewN ?_ _) | (with_reducible refine More.drew ?_))))).mono ?_
  rintro e w' ⟨rfl, rfl⟩
  go_wp2_with fail
  have hb : Blk (((w.alloc (.cells #[.int .i64 0, .int .i64 0, .int .i64 0, .int .i64 0, .int .i64 0] 24)).alloc (.cells #[.int .i64 0, .int .i64 0, .int .i64 0, .int .i64 0, .int .i64 0] 24)).alloc (.cells (List.map Value.string (wordsB s)).toArray 9)) w.heap.size 24 #[.int .i64 0, .int .i64 0, .int .i64 0, .int .i64 0, .int .i64 0] := (by repeat (first | (with_reducible assumption) | ((with_reducible refine Blk.new' ?_); (simp [Nat.add_assoc]; done)) | (with_reducible refine Blk.alloc ?_ _) | (with_reducible refine Blk.more ?_ _ _) | (with_reducible refine Blk.drew ?_) | (with_reducible refine Blk.drewN ?_ _)))
  have hm : More w (((w.alloc (.cells #[.int .i64 0, .int .i64 0, .int .i64 0, .int .i64 0, .int .i64 0] 24)).alloc (.cells #[.int .i64 0, .int .i64 0, .int .i64 0, .int .i64 0, .int .i64 0] 24)).alloc (.cells (List.map Value.string (wordsB s)).toArray 9)) := (by repeat (first | (with_reducible assumption) | (with_reducible exact More.refl _) | (with_reducible refine More.alloc ?_ _) | (with_reducible refine More.more ?_ _ _) | (with_reducible refine More.drewN ?_ _) | (with_reducible refine More.drew ?_)))
  generalize (((w.alloc (.cells #[.int .i64 0, .int .i64 0, .int .i64 0, .int .i64 0, .int .i64 0] 24)).alloc (.cells #[.int .i64 0, .int .i64 0, .int .i64 0, .int .i64 0, .int .i64 0] 24)).alloc (.cells (List.map Value.string (wordsB s)).toArray 9)) = wf at *
  have x0 : wf.cell? ⟨w.heap.size, 0, none⟩ = some (.int .i64 0) := hb.cell 0
  have x1 : wf.cell? ⟨w.heap.size, 1, none⟩ = some (.int .i64 0) := hb.cell 1
  have x2 : wf.cell? ⟨w.heap.size, 2, none⟩ = some (.int .i64 0) := hb.cell 2
  have x3 : wf.cell? ⟨w.heap.size, 3, none⟩ = some (.int .i64 0) := hb.cell 3
  have x4 : wf.cell? ⟨w.heap.size, 4, none⟩ = some (.int .i64 0) := hb.cell 4
  refine bodyPost_ret (v := .tuple #[.agg #[.int .i64 0, .int .i64 0, .int .i64 0, .int .i64 0, .int .i64 0], .int .i64 1]) ?_ rfl ?_
  · simp [results, Tryd.results6, go_sem, x0, x1, x2, x3, x4]
  · exact ⟨rfl, hm⟩
/-- The kind so far: behind the first k names. -/
def kp (x : List UInt8) : Nat → Int
  | 0 => 0
  | 1 => if x = bVegas then 1 else 0
  | 2 => if x = bCopa then 2 else if x = bVegas then 1 else 0
  | _ => kOf x
def nmS (k : Nat) : List UInt8 := if k = 0 then bVegas else if k = 1 then bCopa else bLedbat
theorem kp_hit {x : List UInt8} {k : Nat} (h : k < 3) (hx : x = nmS k) : kp x (k + 1) = (k : Int) + 1 := by
  subst hx
  rcases (show k = 0 ∨ k = 1 ∨ k = 2 by omega) with rfl | rfl | rfl <;> decide
theorem kp_miss {x : List UInt8} {k : Nat} (h : k < 3) (hx : ¬ x = nmS k) : kp x (k + 1) = kp x k := by
  rcases (show k = 0 ∨ k = 1 ∨ k = 2 by omega) with rfl | rfl | rfl
  · exact if_neg hx
  · exact if_neg hx
  · exact if_neg hx
def kv (X : Nat → ByteArray) (who k a : Nat) : Int := if a < who then kOf (X a).data.toList else if a = who then kp (X a).data.toList k else 0
abbrev rowK (f : Nat → Int) : Array Value := #[.int .i64 (f 0), .int .i64 (f 1), .int .i64 0, .int .i64 0, .int .i64 0]
theorem kv_hit {X : Nat → ByteArray} {who k : Nat} (hw : who < 2) (h : k < 3) (hx : (X who).data.toList = nmS k) : (rowK (kv X who k)).setIfInBounds who (.int .i64 ((k : Int) + 1)) = rowK (kv X who (k + 1)) := by
  have e := kp_hit h hx
  rcases (show who = 0 ∨ who = 1 by omega) with rfl | rfl
  · simp [rowK, kv, e]
  · simp [rowK, kv, e]
theorem kv_miss {X : Nat → ByteArray} {who k : Nat} (hw : who < 2) (h : k < 3) (hx : ¬ (X who).data.toList = nmS k) : rowK (kv X who k) = rowK (kv X who (k + 1)) := by
  have e := kp_miss h hx
  rcases (show who = 0 ∨ who = 1 by omega) with rfl | rfl
  · simp [rowK, kv, e]
  · simp [rowK, kv, e]
theorem kv_next {X : Nat → ByteArray} {who : Nat} (hw : who < 2) : rowK (kv X who 3) = rowK (kv X (who + 1) 0) := by
  rcases (show who = 0 ∨ who = 1 by omega) with rfl | rfl <;> rfl
abbrev rowS (X : Nat → ByteArray) : Array Value := #[.string (X 0), .string (X 1), .string (X 2), .string (X 3), .string (X 4)]
abbrev rowZ : Array Value := #[.int .i64 0, .int .i64 0, .int .i64 0, .int .i64 0, .int .i64 0]
abbrev rowF : Array Value := #[nameV bVegas, nameV bCopa, nameV bLedbat]
/-- The numbers so far: behind the first j of them. -/
def nv (X : Nat → ByteArray) (j a : Nat) : Int := if a < j then bnInt (X (2 + a)).data.toList else 0
abbrev rowN (X : Nat → ByteArray) (j : Nat) : Array Value := #[.int .i64 (kOf (X 0).data.toList), .int .i64 (kOf (X 1).data.toList), .int .i64 (nv X j 0), .int .i64 (nv X j 1), .int .i64 (nv X j 2)]
abbrev rowP (R : Nat) : Array Value := #[.pointer (some ⟨R, 2, none⟩), .pointer (some ⟨R, 3, none⟩), .pointer (some ⟨R, 4, none⟩)]
theorem splitB_size (sep : ByteArray) : ∀ (k : Nat) (s x : ByteArray), x ∈ Lib.splitB sep 0 k s → x.size ≤ s.size
  | 0, s, x, h => by
    rw [Lib.splitB_zero, List.mem_singleton] at h
    subst h
    exact Nat.le_refl _
  | k + 1, s, x, h => by
    unfold Lib.splitB at h
    split at h
    · rw [List.mem_singleton] at h
      subst h
      exact Nat.le_refl _
    · rcases List.mem_cons.1 h with rfl | h
      · rw [ByteArray.size_extract]; omega
      · exact Nat.le_trans (splitB_size sep k _ x h) (by rw [ByteArray.size_extract]; omega)
theorem read_five {s : ByteArray} {X : Nat → ByteArray} (hX : wordsB s = [X 0, X 1, X 2, X 3, X 4]) :
    bnRead s = some (kOf (X 0).data.toList, kOf (X 1).data.toList, nv X 3 0, nv X 3 1, nv X 3 2) := by
  unfold bnRead
  rw [hX]
  rfl
/-- Nothing else would have been read. -/
theorem parse_no {s : ByteArray} {X : Nat → ByteArray} (hX : wordsB s = [X 0, X 1, X 2, X 3, X 4])
    (h : BOk (kOf (X 0).data.toList) (kOf (X 1).data.toList) (nv X 3 0) (nv X 3 1) (nv X 3 2) → s ≠ ⟨(bnText (kOf (X 0).data.toList) (kOf (X 1).data.toList) (nv X 3 0).toNat (nv X 3 1).toNat (nv X 3 2).toNat).toArray⟩) (a b : Int) (c d e : Nat) (hk : BOk a b c d e) : s ≠ ⟨(bnText a b c d e).toArray⟩ := by
  intro hs
  have hk' := hk
  obtain ⟨h1, h2, h3⟩ := hk
  unfold dNums at h3
  have hr := read_text h1 h2 (rate := c) (buf := d) (jit := e) (by omega) (by omega) (by omega) (s := s) (by rw [hs])
  rw [read_five hX] at hr
  simp only [Option.some.injEq, Prod.mk.injEq] at hr
  obtain ⟨e1, e2, e3, e4, e5⟩ := hr
  rw [e1, e2, e3, e4, e5] at h
  exact h hk' hs
set_option maxRecDepth 20000 in
set_option maxHeartbeats 4000000 in
theorem parse_five (s : ByteArray) (hs : s.size < 4294967281) (w : World) (hT : Hid (BTabs w)) (X : Nat → ByteArray) (hX : wordsB s = [X 0, X 1, X 2, X 3, X 4]) :
    Calls Tryd.prog 6 #[.string s] w fun e w' => ∃ k0 k1 a b c er, e = .returned (.tuple #[.agg #[.int .i64 k0, .int .i64 k1, .int .i64 a, .int .i64 b, .int .i64 c], .int .i64 er]) ∧ Hid (PPa s k0 k1 a b c er) ∧ More w w' := by
  have hl : (wordsB s).length = 5 := by rw [hX]; rfl
  have HC : Hid (∀ W, BTabs W → Calls Tryd.prog 11 #[.string s, .string ⟨#[32]⟩] W fun e w' => e = .returned (.slice (some ⟨W.heap.size, 0, none⟩) 5 5) ∧ w' = W.alloc (.cells (rowS X) 9)) := by
    intro W hW
    have h := split_any s hs W hW
    rw [hl, hX] at h
    exact h
  have HX := Lib.hid hX
  clear hl hX
  go_enter Tryd.func6, Tryd.ntmps6
  go_wp2_with fail
  refine (HC.out _ (hT.out.more (by repeat (first | (with_reducible exact More.refl _) | (with_reducible refine More.alloc ?_ _) | (with_reducible refine More.more ?_ _ _) | (with_reducible refine More.drewN ?_ _) | (with_reducible refine More.drew ?_))))).mono ?_
  rintro e w' ⟨rfl, rfl⟩
  clear HC
  go_wp2_with fail
  have hO : Blk (((w.alloc (.cells rowZ 24)).alloc (.cells rowZ 24)).alloc (.cells (rowS X) 9)) w.heap.size 24 rowZ := (by repeat (first | (with_reducible assumption) | ((with_reducible refine Blk.new' ?_); (simp [Nat.add_assoc]; done)) | (with_reducible refine Blk.alloc ?_ _) | (with_reducible refine Blk.more ?_ _ _) | (with_reducible refine Blk.drew ?_) | (with_reducible refine Blk.drewN ?_ _)))
  have hR : Blk (((w.alloc (.cells rowZ 24)).alloc (.cells rowZ 24)).alloc (.cells (rowS X) 9)) (w.heap.size + 1) 24 rowZ := (by repeat (first | (with_reducible assumption) | ((with_reducible refine Blk.new' ?_); (simp [Nat.add_assoc]; done)) | (with_reducible refine Blk.alloc ?_ _) | (with_reducible refine Blk.more ?_ _ _) | (with_reducible refine Blk.drew ?_) | (with_reducible refine Blk.drewN ?_ _)))
  have hR : Blk (((w.alloc (.cells rowZ 24)).alloc (.cells rowZ 24)).alloc (.cells (rowS X) 9)) (w.heap.size + 1) 24 (rowK (kv X 0 0)) := hR
  have hS : Blk (((w.alloc (.cells rowZ 24)).alloc (.cells rowZ 24)).alloc (.cells (rowS X) 9)) (w.heap.size + 2) 9 (rowS X) := (by repeat (first | (with_reducible assumption) | ((with_reducible refine Blk.new' ?_); (simp [Nat.add_assoc]; done)) | (with_reducible refine Blk.alloc ?_ _) | (with_reducible refine Blk.more ?_ _ _) | (with_reducible refine Blk.drew ?_) | (with_reducible refine Blk.drewN ?_ _)))
  have hB : Below w.heap.size w (((w.alloc (.cells rowZ 24)).alloc (.cells rowZ 24)).alloc (.cells (rowS X) 9)) := More.below (by repeat (first | (with_reducible assumption) | (with_reducible exact More.refl _) | (with_reducible refine More.alloc ?_ _) | (with_reducible refine More.more ?_ _ _) | (with_reducible refine More.drewN ?_ _) | (with_reducible refine More.drew ?_)))
  generalize (((w.alloc (.cells rowZ 24)).alloc (.cells rowZ 24)).alloc (.cells (rowS X) 9)) = wz at *
  go_loopw [19] (fun i wr => ∃ who : Nat, i = .int .i64 who ∧ who ≤ 2 ∧ Blk wr (w.heap.size + 1) 24 (rowK (kv X who 0)) ∧ Blk wr (w.heap.size + 2) 9 (rowS X) ∧ Blk wr w.heap.size 24 rowZ ∧ Below w.heap.size w wr) (fun i _ => 2 - (intOf i).toNat)
  case atStart => exact ⟨0, rfl, by omega, hR, hS, hO, hB⟩
  case round =>
    clear hR hS hO hB
    obtain ⟨who, hi, hwho, hR, hS, hO, hB⟩ := hrel
    by_cases hlt : who < 2
    · subst hi
      have q1 : decide ((who : Int) < 2) = true := by simp; omega
      have HR := Lib.hid hR
      have HS := Lib.hid hS
      have HO := Lib.hid hO
      clear hR hS hO
      go_wp2_with fail
      refine (fields_names _ (hT.out.below hB)).mono ?_
      rintro e w' ⟨rfl, rfl⟩
      go_wp2_with fail
      have hR := HR.out.alloc (.cells rowF 9)
      have hS := HS.out.alloc (.cells rowF 9)
      have hO := HO.out.alloc (.cells rowF 9)
      have hF : Blk (wr.alloc (.cells rowF 9)) wr.heap.size 9 rowF := Blk.new _ _ _
      have hB2 : Below w.heap.size w (wr.alloc (.cells rowF 9)) := hB.alloc hB.size _
      have hFl : w.heap.size + 2 < wr.heap.size := HS.out.lt
      clear HR HS HO hB
      generalize (wr.alloc (.cells rowF 9)) = wv at *
      generalize wr.heap.size = F at *
      go_loopw [24] (fun i wi => ∃ k : Nat, i = .int .i64 k ∧ k ≤ 3 ∧ Blk wi (w.heap.size + 1) 24 (rowK (kv X who k)) ∧ Blk wi (w.heap.size + 2) 9 (rowS X) ∧ Blk wi w.heap.size 24 rowZ ∧ Blk wi F 9 rowF ∧ Below w.heap.size w wi) (fun i _ => 3 - (intOf i).toNat)
      case atStart => exact ⟨0, rfl, by omega, hR, hS, hO, hF, hB2⟩
      case round =>
        clear hR hS hO hF hB2
        obtain ⟨k, rfl, hk, hR, hS, hO, hF, hB⟩ := hrel
        by_cases hlk : k < 3
        · have q2 : decide ((k : Int) < 3) = true := by simp; omega
          obtain ⟨N, hN⟩ : ∃ N : ByteArray, Hid (N = ⟨(nmS k).toArray⟩) := ⟨_, rfl⟩
          have y1 : wr.cell? ⟨F, k, none⟩ = some (.string N) := by
            rw [hF.cell, hN.out]
            rcases (show k = 0 ∨ k = 1 ∨ k = 2 by omega) with rfl | rfl | rfl <;> rfl
          have y2 : wr.cell? ⟨w.heap.size + 2, who, none⟩ = some (.string (X who)) := by
            rw [hS.cell]
            rcases (show who = 0 ∨ who = 1 by omega) with rfl | rfl <;> rfl
          have y3 : wr.cell? ⟨w.heap.size + 1, who, none⟩ = some (.int .i64 (kv X who k who)) := by
            rw [hR.cell]
            rcases (show who = 0 ∨ who = 1 by omega) with rfl | rfl <;> rfl
          have y4 : wr.frozen? ⟨w.heap.size + 1, who, none⟩ = false := hR.frozen who
          have l1 := hF.lt
          have l2 := hS.lt
          have l3 := hR.lt
          have HR := Lib.hid hR
          have HS := Lib.hid hS
          have HO := Lib.hid hO
          have HF := Lib.hid hF
          clear hR hS hO hF
          have qn : N.data.toList = nmS k := by rw [hN.out]
          by_cases hx : (X who).data.toList = nmS k
          · have q3 : (N.toList == (X who).toList) = true := by rw [Lib.toList_data, Lib.toList_data, qn, hx]; simp
            have hx' := Lib.hid hx
            clear hx qn
            go_wp2_with fail
            go_roundw
            case rel =>
              refine ⟨k + 1, by go_num, by omega, ?_, HS.out.far (by simp) _, HO.out.far (by simp) _, HF.out.far (by simp; omega) _, ?_⟩
              · have := HR.out.put who (.int .i64 ((k : Int) + 1))
                rw [kv_hit hlt hlk hx'.out] at this
                exact this
              · exact hB.setCell (by simp) _
            case measure => simp [intOf]; omega
          · have q3 : (N.toList == (X who).toList) = false := by rw [Lib.toList_data, Lib.toList_data, qn]; simpa using fun e => hx e.symm
            have hx' := Lib.hid hx
            clear hx qn
            go_wp2_with fail
            go_roundw
            case rel =>
              exact ⟨k + 1, by go_num, by omega, kv_miss hlt hlk hx'.out ▸ HR.out, HS.out, HO.out, HF.out, hB⟩
            case measure => simp [intOf]; omega
        · obtain rfl : k = 3 := by omega
          have HR := Lib.hid hR
          have HS := Lib.hid hS
          have HO := Lib.hid hO
          clear hR hS hO hF
          go_wp2_with fail
          go_roundw
          case rel => exact ⟨who + 1, by go_num, by omega, kv_next hlt ▸ HR.out, HS.out, HO.out, hB⟩
          case measure => simp [intOf]; omega
    · obtain rfl : who = 2 := by omega
      have hi : _ = Value.int .i64 2 := hi
      subst hi
      have HR := Lib.hid hR
      have HS := Lib.hid hS
      have HO := Lib.hid hO
      clear hR hS hO
      have hlR := HR.out.lt
      have hlS := HS.out.lt
      have hlO := HO.out.lt
      go_wp2_with fail
      have hR : Blk (wr.alloc (.cells (rowP (w.heap.size + 1)) 39)) (w.heap.size + 1) 24 (rowN X 0) := HR.out.alloc _
      have hS := HS.out.alloc (.cells (rowP (w.heap.size + 1)) 39)
      have hO := HO.out.alloc (.cells (rowP (w.heap.size + 1)) 39)
      have hP : Blk (wr.alloc (.cells (rowP (w.heap.size + 1)) 39)) wr.heap.size 39 (rowP (w.heap.size + 1)) := Blk.new _ _ _
      have hB2 : Below w.heap.size w (wr.alloc (.cells (rowP (w.heap.size + 1)) 39)) := hB.alloc hB.size _
      have hPl : w.heap.size + 2 < wr.heap.size := hlS
      clear HR HS HO hB hlR hlO hlS
      generalize (wr.alloc (.cells (rowP (w.heap.size + 1)) 39)) = wv at *
      generalize wr.heap.size = P at *
      go_loopw [47] (fun i wi => ∃ j : Nat, i = .int .i64 j ∧ j ≤ 3 ∧ Blk wi (w.heap.size + 1) 24 (rowN X j) ∧ Blk wi (w.heap.size + 2) 9 (rowS X) ∧ Blk wi w.heap.size 24 rowZ ∧ Blk wi P 39 (rowP (w.heap.size + 1)) ∧ Below w.heap.size w wi) (fun i _ => 3 - (intOf i).toNat)
      case atStart => exact ⟨0, rfl, by omega, hR, hS, hO, hP, hB2⟩
      case round =>
        clear hR hS hO hP hB2
        obtain ⟨j, hi, hj, hR, hS, hO, hP, hB⟩ := hrel
        have hXs : ∀ a, a < 5 → (X a).size ≤ s.size := fun a ha => splitB_size ⟨#[32]⟩ _ s _ (by
          have h := HX.out
          unfold wordsB at h
          rw [h]
          rcases (show a = 0 ∨ a = 1 ∨ a = 2 ∨ a = 3 ∨ a = 4 by omega) with rfl | rfl | rfl | rfl | rfl <;> simp)
        rcases (show j = 0 ∨ j = 1 ∨ j = 2 ∨ j = 3 by omega) with rfl | rfl | rfl | rfl
        · have hi : _ = Value.int .i64 0 := hi
          subst hi
          have y1 : wr.cell? ⟨P, 0, none⟩ = some (.pointer (some ⟨w.heap.size + 1, 2, none⟩)) := hP.cell 0
          have y2 : wr.cell? ⟨w.heap.size + 2, 2, none⟩ = some (.string (X 2)) := hS.cell 2
          have hA := atoi_any (X 2) (by have := hXs 2 (by omega); omega) wr (hT.out.below hB)
          have HA := Lib.hid hA
          have l1 := hP.lt
          have l2 := hS.lt
          have HR := Lib.hid hR
          have HS := Lib.hid hS
          have HO := Lib.hid hO
          have HP := Lib.hid hP
          clear hR hS hO hP hA hXs
          go_wp2_with fail
          refine HA.out.mono ?_
          rintro e w' ⟨er, rfl, os, d, rfl⟩
          have hR := HR.out.more os d
          have hS := HS.out.more os d
          have hO := HO.out.more os d
          have hP := HP.out.more os d
          have hB3 : Below w.heap.size w (wr.more os d) := hB.trans (Below.mono (More.below (by repeat (first | (with_reducible exact More.refl _) | (with_reducible refine More.alloc ?_ _) | (with_reducible refine More.more ?_ _ _) | (with_reducible refine More.drewN ?_ _) | (with_reducible refine More.drew ?_)))) hB.size)
          clear y1 y2 l1 l2 HA HR HS HO HP hB
          generalize wr.more os d = wq at *
          have y3 : wq.cell? ⟨w.heap.size + 1, 2, none⟩ = some (.int .i64 0) := hR.cell 2
          have y4 : wq.frozen? ⟨w.heap.size + 1, 2, none⟩ = false := hR.frozen 2
          have l3 := hR.lt
          have HR := Lib.hid hR
          have HS := Lib.hid hS
          have HO := Lib.hid hO
          have HP := Lib.hid hP
          clear hR hS hO hP
          go_wp2_with fail
          go_roundw
          case rel => exact ⟨1, by go_num, by omega, HR.out.put 2 (.int .i64 (bnInt (X 2).data.toList)), HS.out.far (by simp) _, HO.out.far (by simp) _, HP.out.far (by simp; omega) _, hB3.setCell (by simp) _⟩
          case measure => simp [intOf]
        · have hi : _ = Value.int .i64 1 := hi
          subst hi
          have y1 : wr.cell? ⟨P, 1, none⟩ = some (.pointer (some ⟨w.heap.size + 1, 3, none⟩)) := hP.cell 1
          have y2 : wr.cell? ⟨w.heap.size + 2, 3, none⟩ = some (.string (X 3)) := hS.cell 3
          have hA := atoi_any (X 3) (by have := hXs 3 (by omega); omega) wr (hT.out.below hB)
          have HA := Lib.hid hA
          have l1 := hP.lt
          have l2 := hS.lt
          have HR := Lib.hid hR
          have HS := Lib.hid hS
          have HO := Lib.hid hO
          have HP := Lib.hid hP
          clear hR hS hO hP hA hXs
          go_wp2_with fail
          refine HA.out.mono ?_
          rintro e w' ⟨er, rfl, os, d, rfl⟩
          have hR := HR.out.more os d
          have hS := HS.out.more os d
          have hO := HO.out.more os d
          have hP := HP.out.more os d
          have hB3 : Below w.heap.size w (wr.more os d) := hB.trans (Below.mono (More.below (by repeat (first | (with_reducible exact More.refl _) | (with_reducible refine More.alloc ?_ _) | (with_reducible refine More.more ?_ _ _) | (with_reducible refine More.drewN ?_ _) | (with_reducible refine More.drew ?_)))) hB.size)
          clear y1 y2 l1 l2 HA HR HS HO HP hB
          generalize wr.more os d = wq at *
          have y3 : wq.cell? ⟨w.heap.size + 1, 3, none⟩ = some (.int .i64 0) := hR.cell 3
          have y4 : wq.frozen? ⟨w.heap.size + 1, 3, none⟩ = false := hR.frozen 3
          have l3 := hR.lt
          have HR := Lib.hid hR
          have HS := Lib.hid hS
          have HO := Lib.hid hO
          have HP := Lib.hid hP
          clear hR hS hO hP
          go_wp2_with fail
          go_roundw
          case rel => exact ⟨2, by go_num, by omega, HR.out.put 3 (.int .i64 (bnInt (X 3).data.toList)), HS.out.far (by simp) _, HO.out.far (by simp) _, HP.out.far (by simp; omega) _, hB3.setCell (by simp) _⟩
          case measure => simp [intOf]
        · have hi : _ = Value.int .i64 2 := hi
          subst hi
          have y1 : wr.cell? ⟨P, 2, none⟩ = some (.pointer (some ⟨w.heap.size + 1, 4, none⟩)) := hP.cell 2
          have y2 : wr.cell? ⟨w.heap.size + 2, 4, none⟩ = some (.string (X 4)) := hS.cell 4
          have hA := atoi_any (X 4) (by have := hXs 4 (by omega); omega) wr (hT.out.below hB)
          have HA := Lib.hid hA
          have l1 := hP.lt
          have l2 := hS.lt
          have HR := Lib.hid hR
          have HS := Lib.hid hS
          have HO := Lib.hid hO
          have HP := Lib.hid hP
          clear hR hS hO hP hA hXs
          go_wp2_with fail
          refine HA.out.mono ?_
          rintro e w' ⟨er, rfl, os, d, rfl⟩
          have hR := HR.out.more os d
          have hS := HS.out.more os d
          have hO := HO.out.more os d
          have hP := HP.out.more os d
          have hB3 : Below w.heap.size w (wr.more os d) := hB.trans (Below.mono (More.below (by repeat (first | (with_reducible exact More.refl _) | (with_reducible refine More.alloc ?_ _) | (with_reducible refine More.more ?_ _ _) | (with_reducible refine More.drewN ?_ _) | (with_reducible refine More.drew ?_)))) hB.size)
          clear y1 y2 l1 l2 HA HR HS HO HP hB
          generalize wr.more os d = wq at *
          have y3 : wq.cell? ⟨w.heap.size + 1, 4, none⟩ = some (.int .i64 0) := hR.cell 4
          have y4 : wq.frozen? ⟨w.heap.size + 1, 4, none⟩ = false := hR.frozen 4
          have l3 := hR.lt
          have HR := Lib.hid hR
          have HS := Lib.hid hS
          have HO := Lib.hid hO
          have HP := Lib.hid hP
          clear hR hS hO hP
          go_wp2_with fail
          go_roundw
          case rel => exact ⟨3, by go_num, by omega, HR.out.put 4 (.int .i64 (bnInt (X 4).data.toList)), HS.out.far (by simp) _, HO.out.far (by simp) _, HP.out.far (by simp; omega) _, hB3.setCell (by simp) _⟩
          case measure => simp [intOf]
        · have hi : _ = Value.int .i64 3 := hi
          subst hi
          have hpn := parse_no HX.out
          have hA := print_any (kOf (X 0).data.toList) (kOf (X 1).data.toList) (nv X 3 0) (nv X 3 1) (nv X 3 2) wr (hT.out.below hB)
          have z0 : wr.cell? ⟨w.heap.size + 1, 0, none⟩ = some (.int .i64 (kOf (X 0).data.toList)) := hR.cell 0
          have z1 : wr.cell? ⟨w.heap.size + 1, 1, none⟩ = some (.int .i64 (kOf (X 1).data.toList)) := hR.cell 1
          have z2 : wr.cell? ⟨w.heap.size + 1, 2, none⟩ = some (.int .i64 (nv X 3 0)) := hR.cell 2
          have z3 : wr.cell? ⟨w.heap.size + 1, 3, none⟩ = some (.int .i64 (nv X 3 1)) := hR.cell 3
          have z4 : wr.cell? ⟨w.heap.size + 1, 4, none⟩ = some (.int .i64 (nv X 3 2)) := hR.cell 4
          have hR : Blk wr (w.heap.size + 1) 24 #[.int .i64 (kOf (X 0).data.toList), .int .i64 (kOf (X 1).data.toList), .int .i64 (nv X 3 0), .int .i64 (nv X 3 1), .int .i64 (nv X 3 2)] := hR
          clear hXs hS hP
          generalize kOf (X 0).data.toList = k0 at *
          generalize kOf (X 1).data.toList = k1 at *
          generalize nv X 3 0 = n0 at *
          generalize nv X 3 1 = n1 at *
          generalize nv X 3 2 = n2 at *
          have l1 := hR.lt
          have HA := Lib.hid hA
          have HR := Lib.hid hR
          have HO := Lib.hid hO
          have HN := Lib.hid hpn
          clear hA hR hO hpn
          go_wp2_with fail
          refine HA.out.mono ?_
          rintro e w' ⟨t, er, rfl, HQ, os, d, rfl⟩
          have hR := HR.out.more os d
          have hO := HO.out.more os d
          have hB3 : Below w.heap.size w (wr.more os d) := hB.trans (Below.mono (More.below (by repeat (first | (with_reducible exact More.refl _) | (with_reducible refine More.alloc ?_ _) | (with_reducible refine More.more ?_ _ _) | (with_reducible refine More.drewN ?_ _) | (with_reducible refine More.drew ?_)))) hB.size)
          clear z0 z1 z2 z3 z4 l1 HA HR HO hB
          generalize wr.more os d = wq at *
          have z0 : wq.cell? ⟨w.heap.size + 1, 0, none⟩ = some (.int .i64 k0) := hR.cell 0
          have z1 : wq.cell? ⟨w.heap.size + 1, 1, none⟩ = some (.int .i64 k1) := hR.cell 1
          have z2 : wq.cell? ⟨w.heap.size + 1, 2, none⟩ = some (.int .i64 n0) := hR.cell 2
          have z3 : wq.cell? ⟨w.heap.size + 1, 3, none⟩ = some (.int .i64 n1) := hR.cell 3
          have z4 : wq.cell? ⟨w.heap.size + 1, 4, none⟩ = some (.int .i64 n2) := hR.cell 4
          have l1 := hR.lt
          have l2 := hO.lt
          have HO := Lib.hid hO
          clear hR hO
          by_cases hk : BOk k0 k1 n0 n1 n2 ∧ t = s
          · have hk' := Lib.hid hk
            have q1 : (er != 0) = false := by
              rcases HQ.out with ⟨a, b, c, ha, hb, hc, hok, ht, rfl⟩ | ⟨hno, _⟩
              · rfl
              · exact absurd hk.1 hno
            have q2 : (t.toList == s.toList) = true := by rw [hk.2]; simp
            have q3 : (t.toList != s.toList) = false := by rw [hk.2]; simp
            clear hk
            go_wp2_with (refine wpList_store_row rfl _ _ _ rfl w.heap.size #[.int .i64 k0, .int .i64 k1, .int .i64 n0, .int .i64 n1, .int .i64 n2] rfl rfl 24 rowZ HO.out (by kernel_rfl) rfl (by simp [Value.oneCell']) ?_)
            have hf : Blk (wq.setRow w.heap.size #[.int .i64 k0, .int .i64 k1, .int .i64 n0, .int .i64 n1, .int .i64 n2]) w.heap.size 24 #[.int .i64 k0, .int .i64 k1, .int .i64 n0, .int .i64 n1, .int .i64 n2] := setRow_heap _ _ _ _ _ _ HO.out
            have hB4 := below_row hB3 (Nat.le_refl _) #[.int .i64 k0, .int .i64 k1, .int .i64 n0, .int .i64 n1, .int .i64 n2]
            generalize wq.setRow w.heap.size #[.int .i64 k0, .int .i64 k1, .int .i64 n0, .int .i64 n1, .int .i64 n2] = wf at *
            have x0 : wf.cell? ⟨w.heap.size, 0, none⟩ = some (.int .i64 k0) := hf.cell 0
            have x1 : wf.cell? ⟨w.heap.size, 1, none⟩ = some (.int .i64 k1) := hf.cell 1
            have x2 : wf.cell? ⟨w.heap.size, 2, none⟩ = some (.int .i64 n0) := hf.cell 2
            have x3 : wf.cell? ⟨w.heap.size, 3, none⟩ = some (.int .i64 n1) := hf.cell 3
            have x4 : wf.cell? ⟨w.heap.size, 4, none⟩ = some (.int .i64 n2) := hf.cell 4
            refine bodyPost_ret (v := .tuple #[.agg #[.int .i64 k0, .int .i64 k1, .int .i64 n0, .int .i64 n1, .int .i64 n2], .int .i64 0]) ?_ rfl ?_
            · simp [results, Tryd.results6, go_sem, x0, x1, x2, x3, x4]
            · refine ⟨k0, k1, n0, n1, n2, 0, rfl, .inl ⟨rfl, hk'.out.1, ?_⟩, More.of_below hB4⟩
              rcases HQ.out with ⟨a, b, c, ha, hb, hc, hok, ht, _⟩ | ⟨hno, _⟩
              · rw [← hk'.out.2, ht, ha, hb, hc]; rfl
              · exact absurd hk'.out.1 hno
          · have hbad : Hid (∀ (a b : Int) (c d e : Nat), BOk a b c d e → s ≠ ⟨(bnText a b c d e).toArray⟩) := HN.out (fun hb he => by
              rcases HQ.out with ⟨a, b, c, ha, hb', hc, hok, ht, _⟩ | ⟨hno, _⟩
              · exact hk ⟨hb, by rw [he, ht, ha, hb', hc]; rfl⟩
              · exact hno hb)
            have q : (er != 0) = true ∨ ((er != 0) = false ∧ (t.toList == s.toList) = false) := by
              rcases HQ.out with ⟨a, b, c, ha, hb', hc, hok, ht, rfl⟩ | ⟨hno, _, _, her⟩
              · refine .inr ⟨rfl, ?_⟩
                have hts : t ≠ s := fun h => hk ⟨hok, h⟩
                rw [Lib.toList_data, Lib.toList_data]
                refine Bool.eq_false_iff.2 fun h => hts ?_
                have h' : t.data.toList = s.data.toList := by simpa using h
                exact ByteArray.ext (Array.ext' h')
              · exact .inl (by simpa using her)
            have hO := HO.out
            have x0 : wq.cell? ⟨w.heap.size, 0, none⟩ = some (.int .i64 0) := hO.cell 0
            have x1 : wq.cell? ⟨w.heap.size, 1, none⟩ = some (.int .i64 0) := hO.cell 1
            have x2 : wq.cell? ⟨w.heap.size, 2, none⟩ = some (.int .i64 0) := hO.cell 2
            have x3 : wq.cell? ⟨w.heap.size, 3, none⟩ = some (.int .i64 0) := hO.cell 3
            have x4 : wq.cell? ⟨w.heap.size, 4, none⟩ = some (.int .i64 0) := hO.cell 4
            clear hO hk
            have Q := Lib.hid q
            clear q
            rcases Q.out with q1 | ⟨q1, q2⟩
            · go_wp2_with (refine wpList_store_row rfl _ _ _ rfl w.heap.size rowZ rfl rfl 24 rowZ HO.out (by kernel_rfl) rfl (by simp [Value.oneCell']) ?_)
              have hf : Blk (wq.setRow w.heap.size rowZ) w.heap.size 24 rowZ := setRow_heap _ _ _ _ _ _ HO.out
              have hB4 := below_row hB3 (Nat.le_refl _) rowZ
              generalize wq.setRow w.heap.size rowZ = wf at *
              have x0 : wf.cell? ⟨w.heap.size, 0, none⟩ = some (.int .i64 0) := hf.cell 0
              have x1 : wf.cell? ⟨w.heap.size, 1, none⟩ = some (.int .i64 0) := hf.cell 1
              have x2 : wf.cell? ⟨w.heap.size, 2, none⟩ = some (.int .i64 0) := hf.cell 2
              have x3 : wf.cell? ⟨w.heap.size, 3, none⟩ = some (.int .i64 0) := hf.cell 3
              have x4 : wf.cell? ⟨w.heap.size, 4, none⟩ = some (.int .i64 0) := hf.cell 4
              refine bodyPost_ret (v := .tuple #[.agg #[.int .i64 0, .int .i64 0, .int .i64 0, .int .i64 0, .int .i64 0], .int .i64 1]) ?_ rfl ?_
              · simp [results, Tryd.results6, go_sem, x0, x1, x2, x3, x4]
              · exact ⟨0, 0, 0, 0, 0, 1, rfl, .inr ⟨rfl, ⟨rfl, rfl, rfl, rfl, rfl⟩, hbad.out⟩, More.of_below hB4⟩
            · go_wp2_with (refine wpList_store_row rfl _ _ _ rfl w.heap.size rowZ rfl rfl 24 rowZ HO.out (by kernel_rfl) rfl (by simp [Value.oneCell']) ?_)
              have hf : Blk (wq.setRow w.heap.size rowZ) w.heap.size 24 rowZ := setRow_heap _ _ _ _ _ _ HO.out
              have hB4 := below_row hB3 (Nat.le_refl _) rowZ
              generalize wq.setRow w.heap.size rowZ = wf at *
              have x0 : wf.cell? ⟨w.heap.size, 0, none⟩ = some (.int .i64 0) := hf.cell 0
              have x1 : wf.cell? ⟨w.heap.size, 1, none⟩ = some (.int .i64 0) := hf.cell 1
              have x2 : wf.cell? ⟨w.heap.size, 2, none⟩ = some (.int .i64 0) := hf.cell 2
              have x3 : wf.cell? ⟨w.heap.size, 3, none⟩ = some (.int .i64 0) := hf.cell 3
              have x4 : wf.cell? ⟨w.heap.size, 4, none⟩ = some (.int .i64 0) := hf.cell 4
              refine bodyPost_ret (v := .tuple #[.agg #[.int .i64 0, .int .i64 0, .int .i64 0, .int .i64 0, .int .i64 0], .int .i64 1]) ?_ rfl ?_
              · simp [results, Tryd.results6, go_sem, x0, x1, x2, x3, x4]
              · exact ⟨0, 0, 0, 0, 0, 1, rfl, .inr ⟨rfl, ⟨rfl, rfl, rfl, rfl, rfl⟩, hbad.out⟩, More.of_below hB4⟩
theorem parse_any (s : ByteArray) (hs : s.size < 4294967281) (w : World) (hT : Hid (BTabs w)) :
    Calls Tryd.prog 6 #[.string s] w fun e w' => ∃ k0 k1 a b c er, e = .returned (.tuple #[.agg #[.int .i64 k0, .int .i64 k1, .int .i64 a, .int .i64 b, .int .i64 c], .int .i64 er]) ∧ Hid (PPa s k0 k1 a b c er) ∧ More w w' := by
  by_cases hl : (wordsB s).length = 5
  · obtain ⟨a, b, c, d, e, h⟩ : ∃ a b c d e, wordsB s = [a, b, c, d, e] := by
      match wordsB s, hl with
      | [a, b, c, d, e], _ => exact ⟨a, b, c, d, e, rfl⟩
    exact parse_five s hs w hT (fun i => match i with | 0 => a | 1 => b | 2 => c | 3 => d | _ => e) h
  · refine (parse_len s hs w hT hl).mono fun e w' ⟨h1, h2⟩ => ⟨0, 0, 0, 0, 0, 1, h1, .inr ⟨rfl, ⟨rfl, rfl, rfl, rfl, rfl⟩, no_read ?_⟩, h2⟩
    unfold bnRead
    split
    · rename_i h
      have := congrArg List.length h
      simp at this
      exact absurd this hl
    · rfl
/-- What is written is read. -/
theorem ppa_text {k0 k1 x0 x1 a b c er : Int} {rate buf jit : Nat} (hk : BOk k0 k1 rate buf jit) (h : PPa ⟨(bnText k0 k1 rate buf jit).toArray⟩ x0 x1 a b c er) : er = 0 ∧ x0 = k0 ∧ x1 = k1 ∧ a = rate ∧ b = buf ∧ c = jit := by
  rcases h with ⟨he, ho, ht⟩ | ⟨_, _, h⟩
  · obtain ⟨h1, h2, h3⟩ := hk
    obtain ⟨g1, g2, g3⟩ := ho
    unfold dNums at h3 g3
    have r1 := read_text h1 h2 (rate := rate) (buf := buf) (jit := jit) (by omega) (by omega) (by omega) (s := ⟨(bnText k0 k1 rate buf jit).toArray⟩) rfl
    rw [ht] at r1
    rw [read_text g1 g2 (rate := a.toNat) (buf := b.toNat) (jit := c.toNat) (by omega) (by omega) (by omega) rfl] at r1
    simp only [Option.some.injEq, Prod.mk.injEq] at r1
    obtain ⟨e1, e2, e3, e4, e5⟩ := r1
    exact ⟨he, e1, e2, by omega, by omega, by omega⟩
  · exact absurd rfl (h k0 k1 rate buf jit hk)
end Go.Proofs.YtgmljgcmfooniaaDoor
