/- Loops over a slice literal round by round; recursion. -/
import Derived.Test.YtdpokdaeekanjaaRkLgExt
import Derived.LoopN
set_option linter.unusedVariables false
namespace Go.Lg
open Go
/-! ### recursion -/
open Classical in
/-- the first answer that comes when one may call oneself so many times -/
noncomputable def fuel {α : Type} (f : Nat → Option α) : Option α := if h : ∃ k, (f k).isSome then f (Classical.choose h) else none
section
variable {P : Program} {n : Nat} {ops : Array Oper} {Q : Exit → Act → World → Prop} {ρ : Env} {w : World} {rest : List Oper} {O : Own}
variable {d : Nat} {ty : TypeId} {pos : String} {aft : Array Edge} {x : Operand}
/-! ### a loop's rounds, one by one -/
theorem At.again {c : Code} {k : Nat} (h : WC P n (Exit.then (Code.rounds P c Q k) Q) c ρ w) : At n (Exit.then (Code.rounds P c Q (k + 1)) Q) .normal ρ w :=
  fun a ha => h a ha
/-! ### a slice literal as an object -/
end
end Go.Lg
