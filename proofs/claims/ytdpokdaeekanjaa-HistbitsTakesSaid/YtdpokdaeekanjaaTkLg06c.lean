/- Lemmas about the given model and about plain data, which the rows stand on: no statement of the program by itself. -/
import Derived.Test.YtdpokdaeekanjaaTkLg06b
set_option linter.unusedVariables false
namespace Go.Lg
attribute [local irreducible] w64 toU64 toU8 shlU shrU shlB shrB
/-! ### what is put is read, and the other way round -/
theorem getSmall_got {l : List Int} (hb : Bit l) (h : (getSmall l).e = 0) : (getSmall l).n ≤ l.length ∧ l.take (getSmall l).n = smallBits (getSmall l).v := by
  unfold getSmall at *
  by_cases h1 : l.length < 2
  · rw [if_pos h1] at h; exact absurd h (by decide)
  rw [if_neg h1] at h ⊢
  dsimp only at h ⊢
  by_cases h2 : l.length - 2 < sz (dv (l.take 2))
  · rw [if_pos h2] at h; exact absurd h (by decide)
  rw [if_neg h2] at h ⊢
  by_cases h3 : cls (dv ((l.drop 2).take (sz (dv (l.take 2))))) = dv (l.take 2)
  · rw [if_pos h3]
    dsimp only
    refine ⟨by omega, ?_⟩
    have e1 := rowN_self (hb.take 2)
    rw [List.length_take, Nat.min_eq_left (by omega)] at e1
    have e2 := rowN_self ((hb.drop 2).take (sz (dv (l.take 2))))
    rw [List.length_take, List.length_drop, Nat.min_eq_left (by omega)] at e2
    unfold smallBits
    rw [h3, e1, e2, List.take_add]
  · rw [if_neg h3] at h; exact absurd h (by decide)
end Go.Lg
