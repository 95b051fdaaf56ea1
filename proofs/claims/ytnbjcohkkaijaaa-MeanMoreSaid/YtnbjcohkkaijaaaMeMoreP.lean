/- What MeanMore needs: slices apart; Greatest of any graph. Conditions: none. -/
import Derived.Test.YtnbjcohkkaijaaaMeMoreL
import Derived.Test.YtnbjcohkkaijaaaIsFlat
import Derived.Deep.AppendLies
set_option linter.unusedVariables false
set_option linter.unusedSimpArgs false
namespace Go
open Go.RowKit
variable {X : Nat → Prop} {w w' w'' : World}
/-- Two slices' blocks are two. -/
def apartV (v u : Value) : Prop := ∀ g, v.ownBlock = some g → u.ownBlock ≠ some g
theorem apartV.symm {v u : Value} (h : apartV v u) : apartV u v := fun g hu hv => h g hv hu
theorem apartV.row {v u : Value} (h : apartV v u) : v.ownBlock = none ∨ v.ownBlock ≠ u.ownBlock := by
  cases e : v.ownBlock with
  | none => exact .inl rfl
  | some g => exact .inr fun k => h g e k.symm
/-- Behind an append v lies where it lay, or is new: apart it was, apart it is. -/
theorem apartV.app {v u : Value} {gg n cap H : Nat} (h : apartV v u) (hat : v.ownBlock = some gg ∨ gg = H) (hu : ∀ g, u.ownBlock = some g → g < H) : apartV (.slice (some ⟨gg, 0, none⟩) n cap) u := fun g hg hk => by
  simp [Value.ownBlock] at hg
  subst hg
  rcases hat with hat | rfl
  · exact h _ hat hk
  · exact absurd (hu _ hk) (Nat.lt_irrefl _)
end Go
namespace Go.Proofs.Ytnbjcohkkaijaaa
open Go.RowKit Go.Tide
set_option linter.unusedVariables false
set_option linter.unusedSimpArgs false

def GA (f : Nat → Nat → Int) (n : Nat) (N p q er : Int) : Prop :=
  (¬ GRight N n f ∧ er = 2) ∨ (GRight N n f ∧ (((best f n N.toNat).2 = 0 ∧ er = 3) ∨ ((best f n N.toNat).2 ≠ 0 ∧ er = 0 ∧ p = bP f n N.toNat ∧ q = bQ f n N.toNat)))
theorem greatest_all (N : Int) (a : Option Addr) (n c : Nat) (f : Nat → Nat → Int) (w : World) (hf : RowC w 3 a n f) (hn : n ≤ 1152921504606846976) :
    Calls Try.prog 7 #[.agg #[.int .i64 N, .slice a n c]] w fun e w' => ∃ p q er : Int, e = .returned (.tuple #[.agg #[.int .i64 p, .int .i64 q], .int .i64 er]) ∧ Hid (GA f n N p q er) ∧ More w w' := by
  by_cases hG : GRight N n f
  · obtain ⟨M, rfl⟩ : ∃ M : Nat, N = M := ⟨N.toNat, by have := hG.1; omega⟩
    refine (greatest_one M a n c f w hf hG).mono ?_
    rintro e w' ⟨p, q, er, he, h, hm⟩
    refine ⟨p, q, er, he, .inr ⟨hG, ?_⟩, hm⟩
    rw [Int.toNat_natCast]
    rcases h.out with ⟨h1, h2, _, _⟩ | h
    · exact .inl ⟨h1, h2⟩
    · exact .inr h
  · refine (greatest_bad N a n c f w hf hn hG).mono ?_
    rintro e w' ⟨he, hm⟩
    exact ⟨0, 0, 2, he, .inl ⟨hG, rfl⟩, hm⟩
theorem own_setCell {w : World} {base n size b i : Nat} {e : TypeId} {v : Value} {xs : List Value} (h : w.ownsRow base e size v n xs) (hb : b < base) (u : Value) : (w.setCell ⟨b, i, none⟩ u).ownsRow base e size v n xs :=
  own_off h ((Off.refl (fun g => g = b) w).setCell (p := ⟨b, i, none⟩) (fun _ => rfl) u) (fun g e1 e2 => by have h1 := own_base h g e1; have h2 : g = b := e2; omega)
end Go.Proofs.Ytnbjcohkkaijaaa
