/- Floats by their bits: sums that may be no number, whose bits are drawn. -/
import Derived.Test.YtmjgdjaneckdaaaLgLit
import Derived.Laws.FloatArith
set_option linter.unusedVariables false
namespace Go.Lg
open Go

def fE (n : Nat) : Nat := n / 4503599627370496 % 2048
def fM (n : Nat) : Nat := n % 4503599627370496
def fS (n : Nat) : Bool := decide (9223372036854775808 ≤ n)
/-- is that not a number? -/
def fOdd (n : Nat) : Bool := decide (fE n = 2047 ∧ fM n ≠ 0)
/-- the sum's bits; of what is no sum the odd one's -/
def fAdd (a b : UInt64) : UInt64 := match Ieee.double.add a.toNat b.toNat with
  | some r => UInt64.ofNat r
  | none => 9221120237041090561
/-- the difference's bits -/
def fSub (a b : UInt64) : UInt64 := match Ieee.double.sub a.toNat b.toNat with
  | some r => UInt64.ofNat r
  | none => 9221120237041090561
def fLess (a b : UInt64) : Bool := Ieee.double.order a.toNat b.toNat == some .lt
/-- the one odd one -/
def fCan (n : Nat) : UInt64 := if fOdd n = true then 9221120237041090561 else UInt64.ofNat n

/-- what an operation gives: its answer, or bits that are drawn, of no number -/
def FRes (o : Option Nat) (r : Nat) : Prop := r < 18446744073709551616 ∧ (o = some r ∨ (o = none ∧ fOdd r = true))
theorem nan_cut (t : Nat) : fOdd ((t % 2) * 2 ^ 63 + 0x7ff0000000000000 + 1 + (t / 2) % (2 ^ 52 - 1)) = true ∧ (t % 2) * 2 ^ 63 + 0x7ff0000000000000 + 1 + (t / 2) % (2 ^ 52 - 1) < 18446744073709551616 := by
  have e1 : (2 : Nat) ^ 63 = 9223372036854775808 := by decide
  have e2 : (2 : Nat) ^ 52 - 1 = 4503599627370495 := by decide
  rw [e1, e2]
  have h : t / 2 % 4503599627370495 < 4503599627370495 := Nat.mod_lt _ (by omega)
  generalize t / 2 % 4503599627370495 = q at *
  refine ⟨?_, by omega⟩
  unfold fOdd fE fM
  rw [decide_eq_true_eq]
  omega

section
variable {P : Program} {n : Nat} {ops : Array Oper} {Q : Exit → Act → World → Prop} {ρ : Env} {w : World} {rest : List Oper} {O : Own}
variable {d : Nat} {ty t t' : TypeId} {pos : String} {aft : Array Edge} {x y : Operand} {a b : Nat}

theorem float_run (op : BinOp) (f : Option Nat) (hop : (Go.binOp op t (.float .f64 a) (.float .f64 b)) = (do
      match f with
      | some r => pure (.float .f64 r)
      | none => pure (.float .f64 (← choose (.nanBits .f64 a b))))) (hf : ∀ r, f = some r → r < 18446744073709551616) :
    ∃ r w', (Go.binOp op t (.float .f64 a) (.float .f64 b)).run P w = .ok (.float .f64 r) w' ∧ Stp [] O w O w' ∧ FRes f r := by
  rw [hop]
  cases f with
  | some r => exact ⟨r, w, rfl, Stp.refl _ _ _, hf r rfl, .inl rfl⟩
  | none =>
    have hn := nan_cut (w.tape w.drawn (.nanBits .f64 a b))
    exact ⟨_, w.drew, rfl, stp_drew, hn.2, .inr ⟨rfl, hn.1⟩⟩
theorem WL.fadd (hx : ev ρ x = some (.float .f64 a)) (hy : ev ρ y = some (.float .f64 b)) (hd : Nat.blt d n = true)
    (h : ∀ r w', Stp [] O w O w' → FRes (Ieee.double.add a b) r → WL P n ops Q rest ((d, .float .f64 r) :: ρ) w') :
    WL P n ops Q (⟨some d, .binOp .add t x y t', ty, pos, aft, none⟩ :: rest) ρ w := by
  intro A hA
  refine wpList_plain rfl fun K hK => ?_
  obtain ⟨r, w', h1, h2, h3⟩ := float_run (P := P) (w := w) (O := O) (t := t) (a := a) (b := b) .add (Ieee.double.add a b) rfl (fun r hr => Ieee.double.add_lt hr)
  have hrun : (execOp A.eval ⟨some d, .binOp .add t x y t', ty, pos, aft, none⟩).run P w = .ok (.value (.float .f64 r)) w' := by
    simp [execOp, hA.eval hx, hA.eval hy, eqGuard, h1]
  unfold Oper.wp
  rw [hrun]
  exact hK _ _ (h r w' h2 h3 _ (hA.put hd _))
theorem WL.fsub (hx : ev ρ x = some (.float .f64 a)) (hy : ev ρ y = some (.float .f64 b)) (hd : Nat.blt d n = true)
    (h : ∀ r w', Stp [] O w O w' → FRes (Ieee.double.sub a b) r → WL P n ops Q rest ((d, .float .f64 r) :: ρ) w') :
    WL P n ops Q (⟨some d, .binOp .sub t x y t', ty, pos, aft, none⟩ :: rest) ρ w := by
  intro A hA
  refine wpList_plain rfl fun K hK => ?_
  obtain ⟨r, w', h1, h2, h3⟩ := float_run (P := P) (w := w) (O := O) (t := t) (a := a) (b := b) .sub (Ieee.double.sub a b) rfl (fun r hr => Ieee.double.sub_lt hr)
  have hrun : (execOp A.eval ⟨some d, .binOp .sub t x y t', ty, pos, aft, none⟩).run P w = .ok (.value (.float .f64 r)) w' := by
    simp [execOp, hA.eval hx, hA.eval hy, eqGuard, h1]
  unfold Oper.wp
  rw [hrun]
  exact hK _ _ (h r w' h2 h3 _ (hA.put hd _))
theorem Y.fless (hx : ev ρ x = some (.float .f64 a)) (hy : ev ρ y = some (.float .f64 b)) : Y P (.binOp .lss t x y t') ty ρ w (.bool (Ieee.double.order a b == some .lt)) := by
  intro A n o ha ho _
  simp [execOp, ho, ha.eval hx, ha.eval hy, eqGuard, Go.binOp, Op.floatCmp, FloatKind.format]
/-! the calls that the model answers -/
def XFrom (P : Program) (f : FuncId) : Prop := ∀ (a : UInt64) (w : World), (callFunc f #[vu a]).run P w = .ok (.value (.float .f64 a.toNat)) w
def XBits (P : Program) (f : FuncId) : Prop := ∀ (r : Nat) (w : World), r < 18446744073709551616 → (callFunc f #[.float .f64 r]).run P w = .ok (.value (vu (UInt64.ofNat r))) w
theorem xfrom {f : FuncId} {fn : Func} (hf : P.funcs[f]? = some fn) (h1 : (fn.name == "runtime.NumGoroutine") = false) (h2 : fn.body.isNone = true) (h3 : Extern.findNext fn = none) (h4 : Extern.find fn = some Extern.MathFloatBits.float64frombits) : XFrom P f := by
  intro a w
  rw [run_callFunc_extern hf h1 h2 h3 h4]; rfl
theorem xbits {f : FuncId} {fn : Func} (hf : P.funcs[f]? = some fn) (h1 : (fn.name == "runtime.NumGoroutine") = false) (h2 : fn.body.isNone = true) (h3 : Extern.findNext fn = none) (h4 : Extern.find fn = some Extern.MathFloatBits.float64bits) : XBits P f := by
  intro r w hr
  rw [run_callFunc_extern hf h1 h2 h3 h4]
  have e : ((UInt64.ofNat r).toNat : Int) = (r : Int) := by rw [UInt64.toNat_ofNat']; omega
  show Result.ok (Next.value (Value.int .u64 (r : Int))) w = Result.ok (Next.value (Value.int .u64 ((UInt64.ofNat r).toNat : Int))) w
  rw [e]
theorem Y.ffrom {f : FuncId} {ats : Array TypeId} {a : UInt64} (h : XFrom P f) (hx : ev ρ x = some (vu a)) : Y P (.call { callee := .value (.func f), args := #[x], argTypes := ats }) ty ρ w (.float .f64 a.toNat) := by
  intro A n o ha ho ht
  obtain ⟨d, op, t, pos, aft, g⟩ := o
  simp only at ho ht
  subst ho
  rw [execOp_call_go]
  have e : (#[] ++ #[x].map A.eval ++ #[] : Array Value) = #[vu a] := by simp [ha.eval hx]
  rw [e]
  exact h a w
theorem Y.fbits {f : FuncId} {ats : Array TypeId} {r : Nat} (h : XBits P f) (hr : r < 18446744073709551616) (hx : ev ρ x = some (.float .f64 r)) : Y P (.call { callee := .value (.func f), args := #[x], argTypes := ats }) ty ρ w (vu (UInt64.ofNat r)) := by
  intro A n o ha ho ht
  obtain ⟨d, op, t, pos, aft, g⟩ := o
  simp only at ho ht
  subst ho
  rw [execOp_call_go]
  have e : (#[] ++ #[x].map A.eval ++ #[] : Array Value) = #[.float .f64 r] := by simp [ha.eval hx]
  rw [e]
  exact h r w hr
end
/-- the one odd one, by what the program asks -/
theorem fodd_of {a : UInt64} : decide (9218868437227405312 < (a &&& ~~~9223372036854775808)) = fOdd a.toNat := by
  have hm : (a &&& ~~~9223372036854775808).toNat = a.toNat % 9223372036854775808 := by
    have e : (~~~(9223372036854775808 : UInt64)).toNat = 2 ^ 63 - 1 := by decide
    rw [UInt64.toNat_and, e, Nat.and_two_pow_sub_one_eq_mod]
  have h := UInt64.toNat_lt a
  unfold fOdd fE fM
  rw [decide_eq_decide, UInt64.lt_iff_toNat_lt, hm, show (9218868437227405312 : UInt64).toNat = 9218868437227405312 from rfl]; omega
theorem fcan_res {o : Option Nat} {r : Nat} (h : FRes o r) (ho : ∀ k, o = some k → fOdd k = false) : fCan r = (o.map UInt64.ofNat).getD 9221120237041090561 := by
  rcases h.2 with h | ⟨h, h'⟩
  · subst h
    unfold fCan
    rw [if_neg (by rw [ho r rfl]; simp)]; rfl
  · subst h
    unfold fCan
    rw [if_pos h']; rfl
open Ieee in
theorem word_num {s : Bool} {R : Nat} (h : R ≤ 9218868437227405312) : fOdd (double.word s R) = false ∧ double.word s R < 18446744073709551616 := by
  have hsw : double.signWeight = 9223372036854775808 := by decide
  unfold Format.word
  rw [hsw]
  refine ⟨?_, by split <;> omega⟩
  unfold fOdd fE fM
  rw [decide_eq_false_iff_not]
  split <;> omega
open Ieee in
theorem write_num {d : Datum} (h : d.isNaN = false) : fOdd (double.write d) = false := by
  have hinf : double.infRung = 9218868437227405312 := by decide
  cases d with
  | nan s f => simp [Datum.isNaN] at h
  | infinity s =>
    unfold Format.write
    dsimp only
    rw [hinf]
    exact (word_num (Nat.le_refl _)).1
  | number s m p =>
    unfold Format.write Format.nearest
    dsimp only
    split
    · exact (word_num (by omega)).1
    · rw [hinf]
      exact (word_num (Nat.min_le_right _ _)).1
open Ieee in
theorem sum_num {x y z : Datum} (h : x.sum y = some z) : z.isNaN = false := by
  unfold Datum.sum at h
  split at h
  · cases h
  · cases h
  · split at h
    · cases h; rfl
    · cases h
  · cases h; rfl
  · cases h; rfl
  · cases h; rfl
theorem add_num {a b k : Nat} (h : Ieee.double.add a b = some k) : fOdd k = false := by
  unfold Ieee.Format.add at h
  obtain ⟨z, h1, rfl⟩ := Option.map_eq_some_iff.1 h
  exact write_num (sum_num h1)
theorem sub_num {a b k : Nat} (h : Ieee.double.sub a b = some k) : fOdd k = false := by
  unfold Ieee.Format.sub at h
  obtain ⟨z, h1, rfl⟩ := Option.map_eq_some_iff.1 h
  exact write_num (sum_num h1)
theorem fAdd_res {a b : UInt64} {r : Nat} (h : FRes (Ieee.double.add a.toNat b.toNat) r) : fCan r = fAdd a b := by
  rw [fcan_res h fun _ => add_num]
  unfold fAdd
  cases Ieee.double.add a.toNat b.toNat <;> rfl
theorem fSub_res {a b : UInt64} {r : Nat} (h : FRes (Ieee.double.sub a.toNat b.toNat) r) : fCan r = fSub a b := by
  rw [fcan_res h fun _ => sub_num]
  unfold fSub
  cases Ieee.double.sub a.toNat b.toNat <;> rfl
end Go.Lg
