/- Lemmas about the given model and about plain data, which the rows stand on: no statement of the program by itself. -/
import Derived.Test.YtdpokdaeekanjaaRkLg08d
set_option linter.unusedVariables false
namespace Go.Lg
attribute [local irreducible] w64 toU64 toU8 shlU shrU shlB shrB
/-! ### a bucket -/
/-! ### answers that the document fixes -/
/-! ### the laws -/
theorem light_eq (h : api_Hist) : ref08_Light h = some (decide ((h.Pos.Counts.length : Int) ≤ 300) && decide ((h.Neg.Counts.length : Int) ≤ 300)) := rfl
structure Is (h : api_Hist) : Prop where
  s : I64 h.Scale
  po : I64 h.Pos.Offset
  no : I64 h.Neg.Offset
theorem Is.ok {h : api_Hist} (i : Is h) (a : (h.Pos.Counts.length : Int) ≤ 300) (b : (h.Neg.Counts.length : Int) ≤ 300) : OkH h := ⟨i.s, i.po, i.no, by omega, by omega⟩
/-! ### any bucket of a side -/
end Go.Lg
