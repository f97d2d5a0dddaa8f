/- Lemmas about the given model and about plain data, which the rows stand on: no statement of the program by itself. -/
import Derived.Test.YtdpokdaeekanjaaTkLg06c
set_option linter.unusedVariables false
namespace Go.Lg
attribute [local irreducible] w64 toU64 toU8 shlU shrU shlB shrB
/-! ### LAW 06 -/
theorem WR.is {w : bitio_Writer} {L : List Int} (h : WR w L) (b : List UInt8) (hl : b.length = (L.length + 7) / 8) (hv : bv b = dv L * 2 ^ (8 * b.length - L.length)) : w.b = b :=
  WA.inj h.a ⟨by omega, by omega, hv⟩
theorem slc_rest {A : List Int} {p : Nat} (h : p ≤ A.length) : slc A (p : Int) (A.length : Int) = some (A.drop p) := by rw [slc_nat h (Nat.le_refl _), List.take_length]
theorem getSmall_n {l : List Int} : (getSmall l).n ≤ 66 := by
  unfold getSmall
  split
  · simp
  · dsimp only
    have := sz_le (dv (l.take 2))
    split
    · simp
    · split
      · dsimp only; omega
      · simp
/-! all the bits of a row -/
/-! ### VaryRows -/
end Go.Lg
