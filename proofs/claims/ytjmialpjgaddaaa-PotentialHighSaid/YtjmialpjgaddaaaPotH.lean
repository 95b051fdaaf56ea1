/- Heights are no matter: plain. Conditions: none. -/
import Derived.Test.YtjmialpjgaddaaaPotBG
set_option linter.unusedVariables false
set_option linter.unusedSimpArgs false
namespace Go.Tide
/-- Each edge so much lighter as it climbs. -/
def lifted (f : Nat → Nat → Int) (h : Nat → Int) (k j : Nat) : Int := if j = 2 then f k 2 + h (f k 0).toNat - h (f k 1).toNat else f k j
theorem lifted_sum {n : Nat} {f : Nat → Nat → Int} {h : Nat → Int} {x : Nat → Int} : ∀ m, WalkOk n f (m + 1) x → wSum (lifted f h) x (m + 1) = wSum f x (m + 1) + h (f (x 0).toNat 0).toNat - h (f (x m).toNat 1).toNat := by
  intro m
  induction m with
  | zero =>
    intro _
    show 0 + (f (x 0).toNat 2 + h (f (x 0).toNat 0).toNat - h (f (x 0).toNat 1).toNat) = 0 + f (x 0).toNat 2 + h (f (x 0).toNat 0).toNat - h (f (x 0).toNat 1).toNat
    omega
  | succ m ih =>
    intro hw
    have h1 := ih fun k hk => hw k (by omega)
    have h2 := (hw (m + 1) (by omega)).2.2 (by omega)
    rw [Nat.add_sub_cancel] at h2
    rw [h2] at h1
    show wSum (lifted f h) x (m + 1) + (f (x (m + 1)).toNat 2 + h (f (x (m + 1)).toNat 0).toNat - h (f (x (m + 1)).toNat 1).toNat) = wSum f x (m + 1) + f (x (m + 1)).toNat 2 + h (f (x 0).toNat 0).toNat - h (f (x (m + 1)).toNat 1).toNat
    omega
theorem walk_diff {N : Nat} {f : Nat → Nat → Int} {n : Nat} {x : Nat → Int} (hG : GRight N n f) (hL : (solved f n N).L < 0) : ∀ m, WalkOk n f (m + 1) x → wSum f x (m + 1) + (solved f n N).M (f (x 0).toNat 0).toNat ≤ (solved f n N).M (f (x m).toNat 1).toNat := by
  intro m
  induction m with
  | zero =>
    intro h
    have h0 := h 0 (by omega)
    have h1 := solved_still hG hL (x 0).toNat (by omega)
    show 0 + f (x 0).toNat 2 + _ ≤ _
    omega
  | succ m ih =>
    intro h
    have h0 := h (m + 1) (by omega)
    have h1 := solved_still hG hL (x (m + 1)).toNat (by omega)
    have h2 := ih fun k hk => h k (by omega)
    have h3 := h0.2.2 (by omega)
    rw [Nat.add_sub_cancel] at h3
    rw [h3] at h2
    show wSum f x (m + 1) + f (x (m + 1)).toNat 2 + _ ≤ _
    omega
theorem round_closed {N n v m V : Nat} {f : Nat → Nat → Int} {B : Nat → Int} (h : Round N f n v (m + 1) V B) :
    (f (B (backs f B (m + 1 - 1 - 0) V)).toNat 0).toNat = V ∧ f (B (backs f B (m + 1 - 1 - m) V)).toNat 1 = V := by
  refine ⟨h.round, ?_⟩
  rw [show m + 1 - 1 - m = 0 from by omega]
  exact h.ends
theorem high_one {N : Nat} {f : Nat → Nat → Int} {n : Nat} {h : Nat → Int} (hG : GRight N n f) (hH : GRight N n (lifted f h)) (hL : (solved f n N).L < 0) : (solved (lifted f h) n N).L < 0 := by
  rcases Int.lt_or_le (solved (lifted f h) n N).L 0 with hc | hc
  · exact hc
  · obtain ⟨v, m, V, hv, hR⟩ := cycle_round hH hc
    obtain ⟨m, rfl⟩ : ∃ q, m = q + 1 := ⟨m - 1, by have := hR.many; omega⟩
    obtain ⟨c1, c2⟩ := round_closed hR
    have hmore := hR.more
    have hw : WalkOk n f (m + 1) (fun k => (solved (lifted f h) n N).B (backs (lifted f h) (solved (lifted f h) n N).B (m + 1 - 1 - k) V)) := fun k hk => hR.walk k hk
    have h1 := lifted_sum (h := h) m hw
    have h2 := walk_diff hG hL m hw
    have c1' : (f ((solved (lifted f h) n N).B (backs (lifted f h) (solved (lifted f h) n N).B (m + 1 - 1 - 0) V)).toNat 0).toNat = V := c1
    have c2' : f ((solved (lifted f h) n N).B (backs (lifted f h) (solved (lifted f h) n N).B (m + 1 - 1 - m) V)).toNat 1 = V := c2
    simp only [c1', c2', Int.toNat_natCast] at h1 h2
    omega
theorem lifted_back (f : Nat → Nat → Int) (h : Nat → Int) : lifted (lifted f h) (fun v => - h v) = f := by
  funext k j
  unfold lifted
  by_cases e : j = 2
  · subst e
    simp
    omega
  · simp [e]
theorem high_law {N : Nat} {f : Nat → Nat → Int} {n : Nat} {h : Nat → Int} (hG : GRight N n f) (hH : GRight N n (lifted f h)) : (solved f n N).L < 0 ↔ (solved (lifted f h) n N).L < 0 := by
  refine ⟨high_one hG hH, fun hl => ?_⟩
  have := high_one (h := fun v => - h v) hH (by rw [lifted_back]; exact hG) hl
  rwa [lifted_back] at this
end Go.Tide
