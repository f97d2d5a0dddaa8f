/- Lemmas about the given model and about plain data, which the rows stand on: no statement of the program by itself. -/
import Derived.Test.YtdpokdaeekanjaaRkLg06b
set_option linter.unusedVariables false
namespace Go.Lg
attribute [local irreducible] w64 toU64 toU8 shlU shrU shlB shrB
/-! ### what is put is read, and the other way round -/
theorem take_app {l m : List Int} {n : Nat} (h : l.length = n) : (l ++ m).take n = l := by subst h; simp
theorem drop_app {l m : List Int} {n : Nat} (h : l.length = n) : (l ++ m).drop n = m := by subst h; simp
theorem getSmall_put {v : Nat} (hv : v < 2 ^ 64) (rest : List Int) : getSmall (smallBits v ++ rest) = ⟨v, (smallBits v).length, 0⟩ := by
  have hc := cls_le v
  have h1 : (smallBits v ++ rest).take 2 = rowN (cls v) 2 := by unfold smallBits; rw [List.append_assoc, take_app (rowN_len _ _)]
  have h2 : (smallBits v ++ rest).drop 2 = rowN v (sz (cls v)) ++ rest := by unfold smallBits; rw [List.append_assoc, drop_app (rowN_len _ _)]
  have h3 : dv (rowN (cls v) 2) = cls v := by rw [rowN_dv]; omega
  have hl : (smallBits v ++ rest).length = 2 + sz (cls v) + rest.length := by rw [List.length_append, smallBits_len]
  unfold getSmall
  rw [if_neg (by omega)]
  dsimp only
  rw [h1, h3, h2, if_neg (by omega), take_app (rowN_len _ _), rowN_dv, Nat.mod_eq_of_lt (cls_lt hv), if_pos rfl, smallBits_len]
end Go.Lg
