/- What arguments made of ints alone read as: ints, structs and arrays of ints by value, slices of these. For every such argument its cells hold ints that fit. Conditions: none. -/
import Derived.WalkKit
import Derived.ProofKit
import Derived.OpenShut
import Derived.ShutString
import Derived.ChangeOld
import Derived.Below
import Derived.Deep.Slices
import Derived.SizedLaws
set_option linter.unusedVariables false
set_option linter.unusedSimpArgs false
namespace Go.Tide
open Go.ChangeShapes Go.WideShapes Go.ChangeAt Go.RowKit Go.Deep

/-- A type all of whose cells are ints of 64 bits. -/
def flatTy (P : Program) : Nat → TypeId → Bool
  | 0, _ => false
  | n + 1, t =>
    match P.underlying t with
    | some (.int .i64) => true
    | some (.struct fs) => fs.toList.all (fun f => flatTy P n f.type) && (List.range (P.cellsOf t)).all (fun i => fs.toList.any fun f => decide (f.offset ≤ i) && decide (i < f.offset + P.cellsOf f.type))
    | some (.array m e) => flatTy P n e && (List.range (P.cellsOf t)).all (fun i => (List.range m).any fun j => decide (j * P.cellsOf e ≤ i) && decide (i < j * P.cellsOf e + P.cellsOf e))
    | _ => false

def IsNum (c : Value) : Prop := ∃ z : Int, c = .int .i64 z ∧ -9223372036854775808 ≤ z ∧ z ≤ 9223372036854775807

/-- The number fits Go's int. -/
def InI64 (z : Int) : Prop := -9223372036854775808 ≤ z ∧ z ≤ 9223372036854775807

theorem flat_agg {P : Program} {w : World} {r : Reach} {b0 : Nat} {t : TypeId} {v : Value} (ht : (match P.underlying t with | some (.struct _) | some (.array _ _) => true | _ => false) = true)
    (hv : Value.okWide P w r b0 t v) : ∃ cs, v = .agg cs ∧ cs.size = P.cellsOf t := by
  unfold Value.okWide at hv
  split at hv
  · obtain ⟨cs, h1, h2, _⟩ := hv
    exact ⟨cs, h1, h2⟩
  · obtain ⟨cs, h1, h2, _⟩ := hv
    exact ⟨cs, h1, h2⟩
  · rename_i h1 h2
    split at ht
    · rename_i hh
      exact absurd hh (h1 _)
    · rename_i hh
      exact absurd hh (h2 _ _)
    · simp at ht

theorem num_bounds {z : Int} (h : (Lit.int .i64 z).wf = true) : -9223372036854775808 ≤ z ∧ z ≤ 9223372036854775807 := by
  simp [Lit.wf, IntKind.min, IntKind.max, IntKind.signed, IntKind.bits] at h
  omega

section
variable {H : Type} {enc : TypeId × Value → H} {P : Program} {w : World} {base : Nat} {spare : Nat → Bool} {held : Bool}

theorem flat_trod : ∀ (n : Nat) (t : TypeId) (fuel : Nat) (cs : List Value) (x : DataW H × List MemPlace), flatTy P n t = true →
    DataW.trod enc P w base spare held fuel t cs = some x → ∀ (i : Nat) (c : Value), cs[i]? = some c → IsNum c := by
  intro n
  induction n with
  | zero => intro t fuel cs x h; simp [flatTy] at h
  | succ n ih =>
    intro t fuel cs x h ht i c hc
    unfold flatTy at h
    split at h
    · rename_i hu
      obtain ⟨z, hz, _, hw⟩ := DataW.trod_int hu ht
      subst hz
      have hi : i = 0 := by
        have := (List.getElem?_eq_some_iff.1 hc).1
        simp at this
        exact this
      subst hi
      simp at hc
      exact ⟨z, hc.symm, num_bounds hw⟩
    · rename_i fs hu
      obtain ⟨ys, m, _, _, hlen, hyl, hf⟩ := DataW.trod_struct hu ht
      simp only [Bool.and_eq_true, List.all_eq_true, List.any_eq_true, decide_eq_true_eq] at h
      obtain ⟨h1, h2⟩ := h
      have hi : i < P.cellsOf t := by rw [← hlen]; exact (List.getElem?_eq_some_iff.1 hc).1
      obtain ⟨f, hfm, ho, hs⟩ := h2 i (by simpa using hi)
      obtain ⟨k, hk, hkf⟩ := List.getElem_of_mem hfm
      have hfk : fs[k]? = some f := by
        rw [← Array.getElem?_toList, List.getElem?_eq_getElem hk, hkf]
      have h3 := hf k f hfk
      have hk2 : k < ys.length := by rw [hyl]; simpa using hk
      rw [List.getElem?_eq_getElem hk2] at h3
      refine ih f.type m _ _ (h1 f hfm) h3 (i - f.offset) c ?_
      rw [List.getElem?_take, if_pos (by omega), List.getElem?_drop, show f.offset + (i - f.offset) = i by omega]
      exact hc
    · rename_i m e hu
      obtain ⟨ys, fl, _, _, hlen, hyl, hf⟩ := DataW.trod_array hu ht
      simp only [Bool.and_eq_true, List.all_eq_true, List.any_eq_true, decide_eq_true_eq] at h
      obtain ⟨h1, h2⟩ := h
      have hi : i < P.cellsOf t := by rw [← hlen]; exact (List.getElem?_eq_some_iff.1 hc).1
      obtain ⟨j, hj, ho, hs⟩ := h2 i (by simpa using hi)
      have hj' : j < m := by simpa using hj
      have h3 := hf j hj'
      rw [List.getElem?_eq_getElem (by omega : j < ys.length)] at h3
      refine ih e fl _ _ h1 h3 (i - j * P.cellsOf e) c ?_
      rw [List.getElem?_take, if_pos (by omega), List.getElem?_drop, show j * P.cellsOf e + (i - j * P.cellsOf e) = i by omega]
      exact hc
    · simp at h

/-- The numbers of a value by value: 'zs', so many as its type has cells. -/
theorem open_flat {t : TypeId} {v : Value} {d : DataW H} {p : List MemPlace} (n : Nat) (hflat : flatTy P n t = true)
    (hagg : ∃ cs, v = .agg cs ∧ cs.size = P.cellsOf t) (h : DataW.Trod enc P w base spare held t v d p) :
    ∃ zs : List Int, v = .agg (zs.map (Value.int .i64)).toArray ∧ zs.length = P.cellsOf t ∧ ∀ z ∈ zs, -9223372036854775808 ≤ z ∧ z ≤ 9223372036854775807 := by
  obtain ⟨cs, rfl, hsz⟩ := hagg
  obtain ⟨fuel, hf⟩ := h
  have key := flat_trod n t fuel _ _ hflat hf
  simp only [Value.cells] at key
  have : ∀ l : List Value, (∀ (i : Nat) (c : Value), l[i]? = some c → IsNum c) → ∃ zs : List Int, l = zs.map (Value.int .i64) ∧ ∀ z ∈ zs, -9223372036854775808 ≤ z ∧ z ≤ 9223372036854775807 := by
    intro l
    induction l with
    | nil => intro _; exact ⟨[], rfl, by simp⟩
    | cons c l ih =>
      intro hl
      obtain ⟨z, hz, hb⟩ := hl 0 c rfl
      obtain ⟨zs, hzs, hbs⟩ := ih (fun i c' hc => hl (i + 1) c' (by simpa using hc))
      refine ⟨z :: zs, by rw [hz, hzs]; rfl, ?_⟩
      intro y hy
      rcases List.mem_cons.1 hy with rfl | hy
      · exact hb
      · exact hbs y hy
  obtain ⟨zs, hzs, hb⟩ := this cs.toList key
  refine ⟨zs, ?_, ?_, hb⟩
  · rw [← hzs]
  · rw [← hsz, ← Array.length_toList, hzs, List.length_map]

/-- A slice of ints, or of structs or arrays of C ints each: nil; or a row of cells, C for each element, that hold the numbers zs. -/
def IsFlat (w : World) (a : Option Addr) (len cap C : Nat) (zs : List Int) : Prop :=
  (a = none ∧ len = 0 ∧ cap = 0 ∧ zs = []) ∨
  ∃ x : Addr, a = some x ∧ len ≤ cap ∧ cap ≤ maxLen ∧ zs.length = len * C ∧ (∀ i, i < len * C → w.cell? (x.add i) = some (.int .i64 (zs.getD i 0)) ∧ (x.add i).block < w.heap.size) ∧ ∀ z ∈ zs, -9223372036854775808 ≤ z ∧ z ≤ 9223372036854775807

theorem open_flats {t e : TypeId} {fuel : Nat} {a : Option Addr} {len cap : Nat} {x : DataW H × List MemPlace} (n : Nat) (hflat : flatTy P n e = true) (ht : P.underlying t = some (.slice e))
    (hC : 0 < P.cellsOf e) (hs : ∀ b, spare b = true) (h : DataW.trod enc P w base spare held fuel t [.slice a len cap] = some x) :
    ∃ zs, IsFlat w a len cap (P.cellsOf e) zs ∧ ((cap = 0) ∨ ∃ el sp, x.1 = .slice el sp ∧ el.length + sp.length = cap) := by
  rcases open_slice ht h with ⟨hcs, _⟩ | ⟨ad, len', cap', m, f, D, Pl, hcs, hb, hl, hm, hmm, hx, hi⟩
  · simp at hcs
    obtain ⟨rfl, rfl, rfl⟩ := hcs
    exact ⟨[], .inl ⟨rfl, rfl, rfl, rfl⟩, .inl rfl⟩
  · simp at hcs
    obtain ⟨rfl, rfl, rfl⟩ := hcs
    have hlm : len ≤ m := by rw [hmm]; split <;> omega
    have key : ∀ i, i < len * P.cellsOf e → ∃ z : Int, w.cell? (ad.add i) = some (.int .i64 z) ∧ -9223372036854775808 ≤ z ∧ z ≤ 9223372036854775807 := by
      intro i hik
      have hq : i / P.cellsOf e < len := (Nat.div_lt_iff_lt_mul hC).2 hik
      obtain ⟨cs', hc, htr⟩ := hi (i / P.cellsOf e) (by omega)
      obtain ⟨_, hcl, hat⟩ := World.cells?_some hc
      have hr : i % P.cellsOf e < P.cellsOf e := Nat.mod_lt _ hC
      have hat' := hat _ hr
      rw [Go.Deep.add_add, Nat.div_add_mod' i (P.cellsOf e)] at hat'
      have hlt : i % P.cellsOf e < cs'.length := by omega
      rw [List.getElem?_eq_getElem hlt] at hat'
      obtain ⟨z, hz, hb⟩ := flat_trod n e f _ _ hflat htr _ _ (List.getElem?_eq_getElem hlt)
      exact ⟨z, by rw [hat', hz], hb⟩
    refine ⟨(List.range (len * P.cellsOf e)).map fun i => if h : i < len * P.cellsOf e then (key i h).choose else 0, .inr ⟨ad, rfl, hl, hm, by simp, ?_, ?_⟩, .inr ⟨_, _, by rw [hx], by simp [hmm, hs]; omega⟩⟩
    · intro i hik
      have := (key i hik).choose_spec
      refine ⟨?_, World.block_lt_of_cell? _ _ this.1⟩
      rw [this.1]
      simp [List.getD, hik]
    · intro z hz
      simp only [List.mem_map, List.mem_range] at hz
      obtain ⟨i, hik, rfl⟩ := hz
      rw [dif_pos hik]
      exact (key i hik).choose_spec.2
end

theorem IsFlat.at_ {w : World} {a : Option Addr} {len cap : Nat} {z : List Int} (f : IsFlat w a len cap 1 z) {k : Nat} (hk : k < len) :
    ∃ b off x, a = some ⟨b, off, none⟩ ∧ b < w.heap.size ∧ w.cell? ⟨b, off + k, none⟩ = some (.int .i64 x) ∧ -9223372036854775808 ≤ x ∧ x ≤ 9223372036854775807 ∧ x = z.getD k 0 ∧ z.length = len := by
  rcases f with ⟨_, rfl, _⟩ | ⟨x, rfl, hl, hm, hz, hc, hb⟩
  · omega
  · obtain ⟨h0, _⟩ := hc 0 (by omega)
    obtain ⟨h1, h2⟩ := hc k (by omega)
    obtain ⟨b, off, spot⟩ := x
    have hs : spot = none := by simpa [Addr.add] using World.cell?_spot h0
    subst hs
    rw [Addr.add_lit] at h1 h2
    have hz' : z.getD k 0 ∈ z := by
      rw [List.getD_eq_getElem?_getD, List.getElem?_eq_getElem (by omega)]
      exact List.getElem_mem _
    obtain ⟨h3, h4⟩ := hb _ hz'
    exact ⟨b, off, _, rfl, h2, h1, h3, h4, rfl, by omega⟩

theorem len1 {l : List Int} (h : l.length = 1) : ∃ a, l = [a] := by
  match l, h with | [a], _ => exact ⟨a, rfl⟩
theorem len2 {l : List Int} (h : l.length = 2) : ∃ a b, l = [a, b] := by
  match l, h with | [a, b], _ => exact ⟨a, b, rfl⟩
theorem len3 {l : List Int} (h : l.length = 3) : ∃ a b c, l = [a, b, c] := by
  match l, h with | [a, b, c], _ => exact ⟨a, b, c, rfl⟩
theorem len5 {l : List Int} (h : l.length = 5) : ∃ a b c d e, l = [a, b, c, d, e] := by
  match l, h with | [a, b, c, d, e], _ => exact ⟨a, b, c, d, e, rfl⟩
theorem len6 {l : List Int} (h : l.length = 6) : ∃ a b c d e f, l = [a, b, c, d, e, f] := by
  match l, h with | [a, b, c, d, e, f], _ => exact ⟨a, b, c, d, e, f, rfl⟩
theorem len14 {l : List Int} (h : l.length = 14) : ∃ a b c d e f g i j k m n o p, l = [a, b, c, d, e, f, g, i, j, k, m, n, o, p] := by
  match l, h with | [a, b, c, d, e, f, g, i, j, k, m, n, o, p], _ => exact ⟨a, b, c, d, e, f, g, i, j, k, m, n, o, p, rfl⟩
end Go.Tide
