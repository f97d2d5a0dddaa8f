/- == of structures, field by field. -/
import Derived.Test.YtdpokdaeekanjaaRkLgLit
import Derived.Laws.StructEq
import Derived.ChangeKeysEq
set_option linter.unusedVariables false
namespace Go.Lg
open Go
section
variable {P : Program} {ρ : Env} {w : World} {ty t t' : TypeId} {x y : Operand}
def EqV (P : Program) (d : Nat) (t : TypeId) (a b : Value) (r : Bool) : Prop := ∀ w, (Op.equalIn d t a b).run P w = .ok r w
def EqF (P : Program) (d : Nat) (xs ys : Array Value) (fs : List Field) (r : Bool) : Prop := ∀ w, (Op.eqFields d xs ys fs).run P w = .ok r w
theorem EqF.nil {d : Nat} {xs ys : Array Value} : EqF P d xs ys [] true := fun _ => rfl
theorem EqF.cons {d : Nat} {xs ys : Array Value} {f : Field} {fs : List Field} {a b : Value} {r r' : Bool} (hn : f.name ≠ "_") (ha : ∀ w, (part f.type xs f.offset).run P w = .ok a w) (hb : ∀ w, (part f.type ys f.offset).run P w = .ok b w)
    (he : EqV P d f.type a b r) (k : EqF P d xs ys fs r') : EqF P d xs ys (f :: fs) (r && r') := by
  intro w
  simp only [Op.eqFields, Sem.run_ite, Sem.run_bind, ha w, hb w, he w, Result.andThen_ok, if_pos hn]
  cases r
  · simp
  · simpa using k w
theorem EqV.i {d : Nat} {a b : Int} (h : P.underlying t = some (.int .i64)) : EqV P (d + 1) t (vi a) (vi b) (decide (a = b)) := fun w => by
  show (Op.equalIn (d + 1) t (.int .i64 a) (.int .i64 b)).run P w = _
  rw [run_equalIn_int w d t .i64 .i64 a b h]; rfl
theorem EqV.s {d : Nat} {a b : List UInt8} (h : P.underlying t = some .string) : EqV P (d + 1) t (vs a) (vs b) (decide (a = b)) := fun w => by
  show (Op.equalIn (d + 1) t (.string ⟨a.toArray⟩) (.string ⟨b.toArray⟩)).run P w = _
  rw [run_equalIn_string w d t _ _ h, ByteArray.toList_eq, ByteArray.toList_eq]
  by_cases q : a = b
  · subst q; simp
  · simp [q]
theorem EqV.u {d : Nat} {a b : UInt64} (h : P.underlying t = some (.int .u64)) : EqV P (d + 1) t (vu a) (vu b) (decide (a = b)) := fun w => by
  show (Op.equalIn (d + 1) t (.int .u64 (a.toNat : Int)) (.int .u64 (b.toNat : Int))).run P w = _
  rw [run_equalIn_int w d t .u64 .u64 _ _ h]
  congr 1
  rw [Bool.eq_iff_iff, beq_iff_eq, decide_eq_true_eq, Int.ofNat_inj, UInt64.toNat_inj]
theorem EqV.B {d : Nat} {a b : Bool} (h : P.underlying t = some .bool) : EqV P (d + 1) t (.bool a) (.bool b) (decide (a = b)) := fun w => by
  rw [run_equalIn_bool' w d t a b h]
  congr 1
/-- a structure's cells, both ways -/
structure AgOk (P : Program) (t : TypeId) (fs : Array Field) : Prop where
  u : P.underlying t = some (.struct fs)
  p : P.stoodInHeld t = false
  g : P.eqGuardType P.depth t = false
theorem Y.eql_ag {fs : Array Field} {xs ys : List Value} {r : Bool} (hk : AgOk P t fs) (hx : ev ρ x = some (.agg xs.toArray)) (hy : ev ρ y = some (.agg ys.toArray)) (h : EqF P 9999 xs.toArray ys.toArray fs.toList r) :
    Y P (.binOp .eql t x y t') ty ρ w (.bool r) := by
  intro A n o ha ho _
  have hf : P.fieldsOf t = fs := by unfold Program.fieldsOf; rw [hk.u]
  have e1 := run_equalIn_agg w 9999 t xs.toArray ys.toArray (by rw [hf]; exact hk.u) hk.p
  rw [hf, h w] at e1
  simp only [execOp, ho, ha.eval hx, ha.eval hy, Sem.run_bind, run_eqGuard_agg w .eql t x y _ _ hk.g, Result.andThen_ok, run_eql_struct, e1, Sem.run_pure]
end
end Go.Lg
