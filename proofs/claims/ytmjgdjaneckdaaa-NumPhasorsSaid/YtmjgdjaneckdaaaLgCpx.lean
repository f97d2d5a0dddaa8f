/- Complex numbers by their parts' bits. -/
import Derived.Test.YtmjgdjaneckdaaaLgFlt
set_option linter.unusedVariables false
namespace Go.Lg
open Go
section
variable {P : Program} {n : Nat} {ops : Array Oper} {Q : Exit → Act → World → Prop} {ρ : Env} {w : World} {rest : List Oper} {O : Own}
variable {d : Nat} {ty t t' : TypeId} {pos : String} {aft : Array Edge} {x y : Operand} {a b c e : Nat} {ats : Array TypeId}
theorem Y.cplx (hx : ev ρ x = some (.float .f64 a)) (hy : ev ρ y = some (.float .f64 b)) : Y P (.call { callee := .builtin .complex, args := #[x, y], argTypes := ats }) ty ρ w (.complex .f64 a b) := by
  intro A n o ha ho _
  have hb : ∀ u v, Builtin.complex_ u v #[.float .f64 a, .float .f64 b] = pure (.complex .f64 a b) := fun _ _ => rfl
  simp [execOp, ho, resolve, invoke, builtin, ha.eval hx, ha.eval hy, hb]
theorem Y.creal (hx : ev ρ x = some (.complex .f64 a b)) : Y P (.call { callee := .builtin .real, args := #[x], argTypes := ats }) ty ρ w (.float .f64 a) := by
  intro A n o ha ho _
  have hb : ∀ u v, Builtin.real_ u v #[.complex .f64 a b] = pure (.float .f64 a) := fun _ _ => rfl
  simp [execOp, ho, resolve, invoke, builtin, ha.eval hx, hb]
theorem Y.cimag (hx : ev ρ x = some (.complex .f64 a b)) : Y P (.call { callee := .builtin .imag, args := #[x], argTypes := ats }) ty ρ w (.float .f64 b) := by
  intro A n o ha ho _
  have hb : ∀ u v, Builtin.imag_ u v #[.complex .f64 a b] = pure (.float .f64 b) := fun _ _ => rfl
  simp [execOp, ho, resolve, invoke, builtin, ha.eval hx, hb]
theorem Y.fneg (hx : ev ρ x = some (.float .f64 a)) : Y P (.unOp .neg t x) ty ρ w (.float .f64 (a ^^^ 9223372036854775808)) := by
  intro A n o ha ho _
  have e : Op.negFloat .f64 a = a ^^^ 9223372036854775808 := by unfold Op.negFloat; rfl
  simp [execOp, ho, ha.eval hx, Op.unary, e]
theorem arith_run (op : BinOp) (f : Option Nat) (hop : Op.floatArith op .f64 a b = (do
      match f with
      | some r => pure (.float .f64 r)
      | none => pure (.float .f64 (← choose (.nanBits .f64 a b))))) (hf : ∀ r, f = some r → r < 18446744073709551616) :
    ∃ r w', (Op.Complex.arith op .f64 a b).run P w = .ok r w' ∧ Stp [] O w O w' ∧ FRes f r := by
  unfold Op.Complex.arith
  rw [hop]
  cases f with
  | some r => exact ⟨r, w, rfl, Stp.refl _ _ _, hf r rfl, .inl rfl⟩
  | none =>
    have hn := nan_cut (w.tape w.drawn (.nanBits .f64 a b))
    exact ⟨_, w.drew, rfl, stp_drew, hn.2, .inr ⟨rfl, hn.1⟩⟩
theorem WL.cadd (hx : ev ρ x = some (.complex .f64 a b)) (hy : ev ρ y = some (.complex .f64 c e)) (hd : Nat.blt d n = true)
    (h : ∀ r s w', Stp [] O w O w' → FRes (Ieee.double.add a c) r → FRes (Ieee.double.add b e) s → WL P n ops Q rest ((d, .complex .f64 r s) :: ρ) w') :
    WL P n ops Q (⟨some d, .binOp .add t x y t', ty, pos, aft, none⟩ :: rest) ρ w := by
  intro A hA
  refine wpList_plain rfl fun K hK => ?_
  obtain ⟨r, w', h1, h2, h3⟩ := arith_run (P := P) (w := w) (O := O) (a := a) (b := c) .add (Ieee.double.add a c) rfl (fun r hr => Ieee.double.add_lt hr)
  obtain ⟨s, w'', k1, k2, k3⟩ := arith_run (P := P) (w := w') (O := O) (a := b) (b := e) .add (Ieee.double.add b e) rfl (fun r hr => Ieee.double.add_lt hr)
  have hrun : (execOp A.eval ⟨some d, .binOp .add t x y t', ty, pos, aft, none⟩).run P w = .ok (.value (.complex .f64 r s)) w'' := by
    simp [execOp, hA.eval hx, hA.eval hy, eqGuard, Go.binOp, Op.complexOp, h1, k1]
  unfold Oper.wp
  rw [hrun]
  exact hK _ _ (h r s w'' (h2.trans k2) h3 k3 _ (hA.put hd _))
theorem WL.csub (hx : ev ρ x = some (.complex .f64 a b)) (hy : ev ρ y = some (.complex .f64 c e)) (hd : Nat.blt d n = true)
    (h : ∀ r s w', Stp [] O w O w' → FRes (Ieee.double.sub a c) r → FRes (Ieee.double.sub b e) s → WL P n ops Q rest ((d, .complex .f64 r s) :: ρ) w') :
    WL P n ops Q (⟨some d, .binOp .sub t x y t', ty, pos, aft, none⟩ :: rest) ρ w := by
  intro A hA
  refine wpList_plain rfl fun K hK => ?_
  obtain ⟨r, w', h1, h2, h3⟩ := arith_run (P := P) (w := w) (O := O) (a := a) (b := c) .sub (Ieee.double.sub a c) rfl (fun r hr => Ieee.double.sub_lt hr)
  obtain ⟨s, w'', k1, k2, k3⟩ := arith_run (P := P) (w := w') (O := O) (a := b) (b := e) .sub (Ieee.double.sub b e) rfl (fun r hr => Ieee.double.sub_lt hr)
  have hrun : (execOp A.eval ⟨some d, .binOp .sub t x y t', ty, pos, aft, none⟩).run P w = .ok (.value (.complex .f64 r s)) w'' := by
    simp [execOp, hA.eval hx, hA.eval hy, eqGuard, Go.binOp, Op.complexOp, h1, k1]
  unfold Oper.wp
  rw [hrun]
  exact hK _ _ (h r s w'' (h2.trans k2) h3 k3 _ (hA.put hd _))
end
end Go.Lg
