/- Lemmas about the given model and about plain data, which the rows stand on: no statement of the program by itself. -/
import Derived.Test.YtmjgdjaneckdaaaLg05i
set_option linter.unusedVariables false
namespace Go.Lg
attribute [local irreducible] w64 toU64 toU8 shlU shrU shlB shrB
theorem awake05 : law05_awake = some true := by
  have h1 : fAdd 4607182418800017408 4607182418800017408 = 4611686018427387904 := by decide +kernel
  have h2 : fSub 9218868437227405312 9218868437227405312 = 9221120237041090561 := by decide +kernel
  have h3 : fLess 13830554455654793216 0 = true := by decide +kernel
  have h4 : num_Odd (9218868437227405313 : UInt64) = some true := by decide +kernel
  unfold law05_awake num_Add num_Sub num_Less
  rw [h1, h2, h3, h4]
  rfl
theorem numAdds (a b : UInt64) : law05_NumAdds a b = some true := by
  unfold law05_NumAdds num_Add num_Sub num_Less
  rw [awake05, bind_some, bifF (by rfl), bind_some, Add_eq, bind_some, bifT (by simp), bind_some, Sub_eq, bind_some, bind_some, bifT (by simp), bind_some, Less_eq, bind_some, bind_some, decide_eq_true rfl]
end Go.Lg
