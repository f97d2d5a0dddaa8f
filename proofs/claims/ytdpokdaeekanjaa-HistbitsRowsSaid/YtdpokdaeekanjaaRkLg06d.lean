/- Lemmas about the given model and about plain data, which the rows stand on: no statement of the program by itself. -/
import Derived.Test.YtdpokdaeekanjaaRkLg06c
set_option linter.unusedVariables false
namespace Go.Lg
attribute [local irreducible] w64 toU64 toU8 shlU shrU shlB shrB
/-! ### LAW 06 -/
theorem WR.is {w : bitio_Writer} {L : List Int} (h : WR w L) (b : List UInt8) (hl : b.length = (L.length + 7) / 8) (hv : bv b = dv L * 2 ^ (8 * b.length - L.length)) : w.b = b :=
  WA.inj h.a ⟨by omega, by omega, hv⟩
/-! all the bits of a row -/
/-! ### VaryRows -/
end Go.Lg
