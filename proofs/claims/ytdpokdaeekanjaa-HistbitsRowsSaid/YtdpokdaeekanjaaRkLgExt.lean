/- Calls of functions that the model itself answers. -/
import Derived.Test.YtdpokdaeekanjaaRkLgDraw
import Derived.Laws.Externs
set_option linter.unusedVariables false
namespace Go.Lg
open Go
def add64S (a b c : UInt64) : UInt64 := a + b + c
def add64C (a b c : UInt64) : UInt64 := UInt64.ofNat ((a.toNat + b.toNat + c.toNat) / 18446744073709551616)
def X64 (P : Program) (f : FuncId) : Prop := ∀ (a b c : UInt64) (w : World), c.toNat ≤ 1 → (callFunc f #[vu a, vu b, vu c]).run P w = .ok (.value (.tuple [vu (add64S a b c), vu (add64C a b c)].toArray)) w
theorem x64 {P : Program} {f : FuncId} {fn : Func} (hf : P.funcs[f]? = some fn) (h1 : (fn.name == "runtime.NumGoroutine") = false) (h2 : fn.body.isNone = true) (h3 : Extern.findNext fn = none) (h4 : Extern.find fn = some add64Entry) : X64 P f := by
  intro a b c w hc
  have ha := UInt64.toNat_lt a
  have hb := UInt64.toNat_lt b
  rw [run_callFunc_extern hf h1 h2 h3 h4, run_add64 _ _ _ (by omega) (by omega) (by omega) (by omega)]
  simp only [Result.andThen]
  have e1 : (((a.toNat : Int) + (b.toNat : Int) + (c.toNat : Int)) % 18446744073709551616) = ((add64S a b c).toNat : Int) := by
    unfold add64S
    rw [UInt64.toNat_add, UInt64.toNat_add]; omega
  have e2 : (((a.toNat : Int) + (b.toNat : Int) + (c.toNat : Int)) / 18446744073709551616) = ((add64C a b c).toNat : Int) := by
    unfold add64C
    rw [UInt64.toNat_ofNat']; omega
  rw [e1, e2]
section
variable {P : Program} {ρ : Env} {w : World} {ty : TypeId} {f : FuncId} {x y z : Operand} {ats : Array TypeId} {a b c : UInt64}
theorem Y.add64 (h : X64 P f) (hc : c.toNat ≤ 1) (hx : ev ρ x = some (vu a)) (hy : ev ρ y = some (vu b)) (hz : ev ρ z = some (vu c)) :
    Y P (.call { callee := .value (.func f), args := #[x, y, z], argTypes := ats }) ty ρ w (.tuple [vu (add64S a b c), vu (add64C a b c)].toArray) := by
  intro A n o ha ho ht
  obtain ⟨d, op, t, pos, aft, g⟩ := o
  simp only at ho ht
  subst ho
  rw [execOp_call_go]
  have e : (#[] ++ #[x, y, z].map A.eval ++ #[] : Array Value) = #[vu a, vu b, vu c] := by simp [ha.eval hx, ha.eval hy, ha.eval hz]
  rw [e]
  exact h a b c w hc
end
end Go.Lg
