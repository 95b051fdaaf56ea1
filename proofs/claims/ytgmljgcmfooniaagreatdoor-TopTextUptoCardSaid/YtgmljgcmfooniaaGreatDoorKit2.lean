/- Further small words: the one cell of a new block. Conditions: none. -/
import Derived.Test.YtgmljgcmfooniaaGreatDoorKit
import Derived.Test.YtgmljgcmfooniaaGreatDoorProg
set_option linter.unusedVariables false
set_option linter.unusedSimpArgs false
namespace Go
theorem cell_one (w : World) (v : Value) (t : TypeId) : ∀ (j : Nat) (u : Value), [v][j]? = some u → (w.alloc (.cells #[v] t)).cell? ((⟨w.heap.size, 0, none⟩ : Addr).add j) = some u := by
  intro j u h
  cases j with
  | zero => simp at h; subst h; rw [Addr.add_zero', World.cell?_alloc_at _ _ _ _ rfl]; rfl
  | succ j => simp at h
theorem quiet_left {P : Program} {f : FuncId} {args : Array Value} {w : World} {n : Nat} {v : Value}
    (h : Calls P f args (w.drewN n) fun e w' => e = .returned v ∧ w.drewN n = w') : Calls P f args (w.drewN n) fun e w' => e = .returned v ∧ ∃ m, w' = w.drewN m :=
  h.mono fun _ _ ⟨he, hm⟩ => ⟨he, n, hm.symm⟩
theorem quiet_add_left {P : Program} {f : FuncId} {args : Array Value} {w : World} {a n : Nat} {v : Value}
    (h : Calls P f args (w.drewN (a + n)) fun e w' => e = .returned v ∧ w.drewN (a + n) = w') : Calls P f args (w.drewN (a + n)) fun e w' => e = .returned v ∧ ∃ m, w' = w.drewN (a + m) :=
  h.mono fun _ _ ⟨he, hm⟩ => ⟨he, n, hm.symm⟩
/-- A slice literal's row. -/
theorem Row.lit (w : World) (l : List Int) (t : TypeId) : Row (w.alloc (.cells (l.map (Value.int .i64)).toArray t)) (some ⟨w.heap.size, 0, none⟩) l.length (fun k => l.getD k 0) := by
  intro _
  refine ⟨_, _, rfl, by simp, fun k hk => ?_⟩
  rw [World.cell?_alloc_at _ _ _ _ rfl]
  simp [List.getD, List.getElem?_eq_getElem hk]
theorem Row.lit' {w : World} {cs : Array Value} {t : TypeId} {g n : Nat} (l : List Int) (hg : g = w.heap.size) (hcs : cs = (l.map (Value.int .i64)).toArray) (hn : l.length = n) :
    Row (w.alloc (.cells cs t)) (some ⟨g, 0, none⟩) n (fun k => l.getD k 0) := by
  subst hg hcs hn
  exact Row.lit w l t
theorem own_base {w : World} {base : Nat} {e : TypeId} {size : Nat} {v : Value} {n : Nat} {xs : List Value} (h : w.ownsRow base e size v n xs) : ∀ g, v.ownBlock = some g → base ≤ g := by
  intro g hg
  rcases h.2 with ⟨hv, _⟩ | ⟨g', cap, cur, hv, hb, _⟩
  · subst hv; simp [Value.ownBlock] at hg
  · subst hv
    have : g' = g := by simpa [Value.ownBlock] using hg
    omega
theorem own_ne {w : World} {base : Nat} {e : TypeId} {size : Nat} {v : Value} {n : Nat} {xs : List Value} (h : w.ownsRow base e size v n xs) {b : Nat} (hb : b < base) : v.ownBlock ≠ some b := by
  intro hv
  have := own_base h b hv
  omega
/-- Behind one append onto a row of the call's own (the new element's block first): below B all is as it was. -/
theorem below_append {B : Nat} {a w w1 : World} {o : Obj} {e : TypeId} {size : Nat} {v : Value} {n : Nat} {xs : List Value} (hbe : RowKit.Below B a w) (hB : B ≤ w.heap.size) (hown : w.ownsRow B e size v n xs)
    (hg : (w.alloc o).grownBy w1 v.ownBlock) : RowKit.Below B a w1 :=
  (hbe.alloc hB o).grown hg (by simp; omega) (own_base hown)
theorem own_drewN {w : World} {base : Nat} {e : TypeId} {size : Nat} {v : Value} {n : Nat} {xs : List Value} (h : w.ownsRow base e size v n xs) (m : Nat) : (w.drewN m).ownsRow base e size v n xs := h
theorem cell_oneq (w : World) (v : Value) (t : TypeId) (m : Nat) : ∀ (j : Nat) (u : Value), [v][j]? = some u → ((w.alloc (.cells #[v] t)).drewN m).cell? ((⟨w.heap.size, 0, none⟩ : Addr).add j) = some u := cell_one w v t
theorem below_appendq {B : Nat} {a w w1 : World} {o : Obj} {e : TypeId} {size : Nat} {v : Value} {n m : Nat} {xs : List Value} (hbe : RowKit.Below B a w) (hB : B ≤ w.heap.size) (hown : w.ownsRow B e size v n xs)
    (hg : ((w.alloc o).drewN m).grownBy w1 v.ownBlock) : RowKit.Below B a w1 :=
  ((hbe.alloc hB o).drewN m).grown hg (by simp; omega) (own_base hown)
theorem below_appendd {B : Nat} {a w w1 : World} {o : Obj} {e : TypeId} {size : Nat} {v : Value} {n : Nat} {xs : List Value} (hbe : RowKit.Below B a w) (hB : B ≤ w.heap.size) (hown : w.ownsRow B e size v n xs)
    (hg : (w.alloc o).drew.grownBy w1 v.ownBlock) : RowKit.Below B a w1 := below_appendq (m := 1) hbe hB hown hg
/-- A row that lies below what an append writes. -/
theorem Row.appended {B : Nat} {w w1 : World} {o : Obj} {a : Option Addr} {n k : Nat} {f : Nat → Int} {e : TypeId} {size : Nat} {v : Value} {xs : List Value} (h : Row w a n f) (hown : w.ownsRow B e size v k xs)
    (hg : (w.alloc o).grownBy w1 v.ownBlock) (ha : ∀ ad, 0 < n → a = some ad → v.ownBlock ≠ some ad.block) : Row w1 a n f := by
  intro hn
  obtain ⟨b, off, e, hb, hc⟩ := h hn
  have hs := hg.size
  refine ⟨b, off, e, by simp at hs; omega, fun j hj => ?_⟩
  rw [← hc j hj, ← World.cell?_alloc_past o b (off + j) hb]
  exact World.cell?_of_block (w := w.alloc o) (hg.block b (by simp; omega) (fun e' => ha _ hn e e'.symm))
end Go
namespace Go.Proofs.YtgmljgcmfooniaaGreatDoor
theorem intInfo : (Tryz.prog.info? 3).map (fun i => (i.zero, i.size, i.bytes)) = some (some (.int .i64 0), 1, 8) := by kernel_rfl
end Go.Proofs.YtgmljgcmfooniaaGreatDoor
