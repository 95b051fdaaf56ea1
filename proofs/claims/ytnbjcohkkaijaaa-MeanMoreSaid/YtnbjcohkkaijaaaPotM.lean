/- potential.Most and potential.Weigh. Conditions: lengths within the form's reach; walks no longer than 1048576. -/
import Derived.Test.YtnbjcohkkaijaaaPotT
set_option linter.unusedVariables false
set_option linter.unusedSimpArgs false
namespace Go.Tide
/-- Edges x 0 .. x (m - 1), each of which begins where the one ahead ends. -/
def WalkOk (n : Nat) (f : Nat → Nat → Int) (m : Nat) (x : Nat → Int) : Prop := ∀ k, k < m → 0 ≤ x k ∧ x k < n ∧ (0 < k → f (x (k - 1)).toNat 1 = f (x k).toNat 0)
def wSum (f : Nat → Nat → Int) (x : Nat → Int) : Nat → Int
  | 0 => 0
  | m + 1 => wSum f x m + f (x m).toNat 2
theorem wSum_bound {N : Int} {n : Nat} {f : Nat → Nat → Int} {x : Nat → Int} (hG : GRight N n f) : ∀ m, (∀ k, k < m → 0 ≤ x k ∧ x k < n) → -(1048576 * (m : Int)) ≤ wSum f x m ∧ wSum f x m ≤ 1048576 * m := by
  intro m
  induction m with
  | zero => intro _; simp [wSum]
  | succ m ih =>
    intro h
    have h1 := ih fun k hk => h k (by omega)
    have h2 := h m (by omega)
    have h3 := hG.2.2.2 (x m).toNat (by omega)
    show _ ≤ wSum f x m + f (x m).toNat 2 ∧ wSum f x m + f (x m).toNat 2 ≤ _
    omega
end Go.Tide
namespace Go.Proofs.Ytnbjcohkkaijaaa
open Go.RowKit Go.Tide
set_option linter.unusedVariables false
set_option linter.unusedSimpArgs false
theorem Solv.below_ {w w' : World} {S gm gb N : Nat} {a : Option Addr} {n c : Nat} {f : Nat → Nat → Int} {M B : Nat → Int} (h : Solv w w' S gm gb N a n c f M B) : Below w.heap.size w w' := h.below
theorem Solv.mostRow {w0 w : World} {S gm gb N : Nat} {a : Option Addr} {n c : Nat} {f : Nat → Nat → Int} {M B : Nat → Int} (h : Solv w0 w S gm gb N a n c f M B) : Row w (some ⟨gm, 0, none⟩) N M :=
  fun _ => ⟨gm, 0, rfl, h.most.lt, fun k hk => by rw [Nat.zero_add]; exact h.mostAt hk⟩
set_option maxRecDepth 20000 in
set_option maxHeartbeats 2000000 in
theorem weigh_bad (N : Int) (a : Option Addr) (n c : Nat) (f : Nat → Nat → Int) (v : Value) (w : World) (hf : RowC w 3 a n f) (hn : n ≤ 1152921504606846976) (hG : ¬ GRight N n f) :
    Calls Try.prog 11 #[.agg #[.int .i64 N, .slice a n c], v] w fun e w' => e = .returned (.tuple #[.int .i64 0, .int .i64 2]) ∧ Below w.heap.size w w' := by
  have HG := Lib.hid hG
  go_enter Try.func11, Try.ntmps11
  go_wp2_with (refine (pwrong_any N a n c f _ (by repeat (first | (with_reducible assumption) | (with_reducible exact RowC.nil) | (with_reducible apply RowC.drewN) | (with_reducible apply RowC.drew) | (with_reducible apply RowC.more) | (with_reducible apply RowC.alloc))) hn).mono ?_; rintro e w1 ⟨rfl, os1, d1, rfl⟩; rw [gWrong_bad HG.out])
  go_ret2
  exact ⟨rfl, (More.below (by repeat (first | (with_reducible assumption) | (with_reducible exact More.refl _) | (with_reducible refine More.alloc ?_ _) | (with_reducible refine More.more ?_ _ _) | (with_reducible refine More.drewN ?_ _) | (with_reducible refine More.drew ?_))))⟩
end Go.Proofs.Ytnbjcohkkaijaaa
