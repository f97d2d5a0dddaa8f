/- Law 10: the document's reading, put together. -/
import Derived.Test.YtdpokdaeekanjaaRkLg10c
set_option linter.unusedVariables false
namespace Go.Lg
attribute [local irreducible] w64 toU64 toU8 shlU shrU shlB shrB
theorem rSide_off {B : List Int} (hb : Bit B) (q : Nat) (e : Int) : I64 (rSide B q e).s.Offset := by
  unfold rSide
  split
  · show I64 0; unfold I64; omega
  · exact zag_I64 (rS_lt hb)
end Go.Lg
