/- Lemmas about the given model and about plain data, which the rows stand on: no statement of the program by itself. -/
import Derived.Test.YtdpokdaeekanjaaRkLgCore
import Derived.Test.YtdpokdaeekanjaaRkLgPure
set_option linter.unusedVariables false
namespace Go.Lg
open Go
/-! ### Numbers as the model has them (w64, toU64 ..: LgPure) -/
theorem w64_eq (x : Int) : IntKind.i64.wrap x = w64 x := by
  simp only [IntKind.wrap, IntKind.bits, IntKind.signed, w64, Bool.true_and, ge_iff_le, decide_eq_true_eq]
  have e1 : ((2 : Int) ^ 64) = 18446744073709551616 := by decide
  have e2 : ((2 : Int) ^ (64 - 1)) = 9223372036854775808 := by decide
  rw [e1, e2]
  split <;> omega
abbrev vi (x : Int) : Value := .int .i64 x
abbrev vu (x : UInt64) : Value := .int .u64 (x.toNat : Int)
abbrev vb (x : UInt8) : Value := .int .u8 (x.toNat : Int)
abbrev vs (x : List UInt8) : Value := .string ⟨x.toArray⟩
/-- an operation that leaves the world alone and hands back v -/
def Y (P : Program) (op : Op) (ty : TypeId) (ρ : Env) (w : World) (v : Value) : Prop :=
  ∀ (a : Act) (n : Nat) (o : Oper), Fits n ρ a → o.op = op → o.type = ty → (execOp a.eval o).run P w = .ok (.value v) w
section
variable {P : Program} {n : Nat} {ops : Array Oper} {Q : Exit → Act → World → Prop} {ρ : Env} {w : World} {rest : List Oper}
variable {d : Nat} {op : Op} {ty : TypeId} {pos : String} {aft : Array Edge}
theorem WL.y {v : Value} (hy : Y P op ty ρ w v) (hd : Nat.blt d n = true) (h : WL P n ops Q rest ((d, v) :: ρ) w) : WL P n ops Q (⟨some d, op, ty, pos, aft, none⟩ :: rest) ρ w := by
  intro a ha
  refine wpList_plain rfl fun K hK => ?_
  unfold Oper.wp
  rw [hy a n _ ha rfl rfl]
  exact hK _ _ (h _ (ha.put hd v))
/-- another spelling of the value -/
theorem WL.yE {v v' : Value} (hy : Y P op ty ρ w v) (hv : v = v') (hd : Nat.blt d n = true) (h : WL P n ops Q rest ((d, v') :: ρ) w) : WL P n ops Q (⟨some d, op, ty, pos, aft, none⟩ :: rest) ρ w :=
  WL.y (hv ▸ hy) hd h
theorem yielded_of {a : Act} {l : List Oper} {j s : Nat} {b : Bool} (ha : Fits n ρ a) (hj : (l[j]?).bind (·.dst) = some s) (hs : lk ρ s = some (.bool b)) : yielded l.toArray a.tmps j = some b := by
  have h1 := ha.get s _ hs
  unfold yielded
  have : (l.toArray[j]?).bind (·.dst) = some s := by simpa using hj
  rw [this]
  simp [h1]
theorem WL.gT {l : List Oper} {v : Value} {j s : Nat} {b : Bool} (hj : (l[j]?).bind (·.dst) = some s) (hs : lk ρ s = some (.bool b)) (hy : Y P op ty ρ w v) (hd : Nat.blt d n = true)
    (h : WL P n l.toArray Q rest ((d, v) :: ρ) w) : WL P n l.toArray Q (⟨some d, op, ty, pos, aft, some (j, b)⟩ :: rest) ρ w := by
  intro a ha
  refine wpList_step fun K hK => ?_
  have : Region.wanted ⟨some d, op, ty, pos, aft, some (j, b)⟩ (yielded l.toArray a.tmps) = true := by simp [Region.wanted, yielded_of ha hj hs]
  rw [if_pos this]
  unfold Oper.wp
  rw [hy a n _ ha rfl rfl]
  exact hK _ _ (h _ (ha.put hd v))
/-- a guard's value is parted on -/
theorem WL.part {l : List Oper} (s : Nat) {B : Bool} (hs : lk ρ s = some (.bool B)) (ht : B = true → WL P n ops Q l ((s, .bool true) :: ρ) w) (hf : B = false → WL P n ops Q l ((s, .bool false) :: ρ) w) : WL P n ops Q l ρ w := by
  have key : ∀ b, B = b → ∀ a, Fits n ρ a → Fits n ((s, .bool b) :: ρ) a := by
    rintro b rfl a ha
    refine ⟨ha.defers, ha.size, fun i v hv => ?_⟩
    simp only [lk] at hv
    by_cases e : s = i
    · subst e; simp at hv; subst hv; exact ha.get s _ hs
    · have : Nat.beq s i = false := Bool.eq_false_iff.2 fun h => e (Nat.eq_of_beq_eq_true h)
      rw [this] at hv
      exact ha.get i v hv
  intro a ha
  cases hB : B with
  | true => exact ht hB a (key _ hB a ha)
  | false => exact hf hB a (key _ hB a ha)
/-! ### The operations that leave the world alone -/
theorem Y.move {x : Operand} {v : Value} (hx : ev ρ x = some v) : Y P (.move x) ty ρ w v := by
  intro a n o ha ho _; simp [execOp, ho, ha.eval hx]
theorem Y.assign {x : Operand} {v : Value} (hx : ev ρ x = some v) : Y P (.assign x) ty ρ w v := by
  intro a n o ha ho _; simp [execOp, ho, ha.eval hx]
theorem Y.pick {c x y : Operand} {b : Bool} {v : Value} (hc : ev ρ c = some (.bool b)) (hv : ev ρ (bif b then x else y) = some v) : Y P (.pick c x y) ty ρ w v := by
  intro a n o ha ho _
  have h2 := ha.eval hv
  cases b <;> simp [execOp, ho, ha.eval hc, asBool, ← h2]
theorem Y.not {t : TypeId} {x : Operand} {b : Bool} (hx : ev ρ x = some (.bool b)) : Y P (.unOp .not t x) ty ρ w (.bool (!b)) := by
  intro a n o ha ho _; simp [execOp, ho, ha.eval hx, Op.unary]
section bin
variable {t t' : TypeId} {x y : Operand}
theorem Y.bin {k : IntKind} {a b : Int} {v : Value} {bop : BinOp} (hx : ev ρ x = some (.int k a)) (hy : ev ρ y = some (.int k b))
    (hr : (Go.binOp bop t (.int k a) (.int k b)).run P w = .ok v w) : Y P (.binOp bop t x y t') ty ρ w v := by
  intro A n o ha ho _
  simp only [execOp, ho, ha.eval hx, ha.eval hy]
  cases bop <;> simp [eqGuard, hr]
/-! i64 -/
theorem Y.add_i {a b : Int} (hx : ev ρ x = some (vi a)) (hy : ev ρ y = some (vi b)) : Y P (.binOp .add t x y t') ty ρ w (vi (w64 (a + b))) := Y.bin hx hy (by rw [← w64_eq]; rfl)
theorem Y.sub_i {a b : Int} (hx : ev ρ x = some (vi a)) (hy : ev ρ y = some (vi b)) : Y P (.binOp .sub t x y t') ty ρ w (vi (w64 (a - b))) := Y.bin hx hy (by rw [← w64_eq]; rfl)
theorem Y.mul_i {a b : Int} (hx : ev ρ x = some (vi a)) (hy : ev ρ y = some (vi b)) : Y P (.binOp .mul t x y t') ty ρ w (vi (w64 (a * b))) := Y.bin hx hy (by rw [← w64_eq]; rfl)
theorem Y.quo_i {a b : Int} (hb : b ≠ 0) (hx : ev ρ x = some (vi a)) (hy : ev ρ y = some (vi b)) : Y P (.binOp .quo t x y t') ty ρ w (vi (w64 (a.tdiv b))) :=
  Y.bin hx hy (by rw [← w64_eq]; simp [binOp, Op.intDiv, hb])
theorem Y.rem_i {a b : Int} (hb : b ≠ 0) (hx : ev ρ x = some (vi a)) (hy : ev ρ y = some (vi b)) : Y P (.binOp .rem t x y t') ty ρ w (vi (a.tmod b)) :=
  Y.bin hx hy (by simp [binOp, Op.intDiv, hb])
theorem Y.lss_i {a b : Int} (hx : ev ρ x = some (vi a)) (hy : ev ρ y = some (vi b)) : Y P (.binOp .lss t x y t') ty ρ w (.bool (decide (a < b))) := Y.bin hx hy rfl
theorem Y.leq_i {a b : Int} (hx : ev ρ x = some (vi a)) (hy : ev ρ y = some (vi b)) : Y P (.binOp .leq t x y t') ty ρ w (.bool (decide (a ≤ b))) := Y.bin hx hy rfl
theorem Y.gtr_i {a b : Int} (hx : ev ρ x = some (vi a)) (hy : ev ρ y = some (vi b)) : Y P (.binOp .gtr t x y t') ty ρ w (.bool (decide (b < a))) := Y.bin hx hy rfl
theorem Y.geq_i {a b : Int} (hx : ev ρ x = some (vi a)) (hy : ev ρ y = some (vi b)) : Y P (.binOp .geq t x y t') ty ρ w (.bool (decide (b ≤ a))) := Y.bin hx hy rfl
theorem Y.eql_i {a b : Int} (hx : ev ρ x = some (vi a)) (hy : ev ρ y = some (vi b)) : Y P (.binOp .eql t x y t') ty ρ w (.bool (decide (a = b))) :=
  Y.bin hx hy (by simp [binOp, Op.intCmp]; rfl)
theorem Y.neq_i {a b : Int} (hx : ev ρ x = some (vi a)) (hy : ev ρ y = some (vi b)) : Y P (.binOp .neq t x y t') ty ρ w (.bool (!decide (a = b))) :=
  Y.bin hx hy (by simp [binOp, Op.intCmp, bne]; rfl)
theorem Y.neg_i {a : Int} (hx : ev ρ x = some (vi a)) : Y P (.unOp .neg t x) ty ρ w (vi (w64 (0 - a))) := by
  intro A n o ha ho _; rw [← w64_eq]; simp [execOp, ho, ha.eval hx, Op.unary, Op.intArith]
/-! UInt64 -/
theorem wrap_u64 (x : Int) : IntKind.u64.wrap x = x % 18446744073709551616 := rfl
theorem wrap_u8 (x : Int) : IntKind.u8.wrap x = x % 256 := rfl
theorem Y.add_u {a b : UInt64} (hx : ev ρ x = some (vu a)) (hy : ev ρ y = some (vu b)) : Y P (.binOp .add t x y t') ty ρ w (vu (a + b)) :=
  Y.bin hx hy (by simp only [binOp, Op.intArith, wrap_u64, vu, UInt64.toNat_add]; simp)
theorem Y.sub_u {a b : UInt64} (hx : ev ρ x = some (vu a)) (hy : ev ρ y = some (vu b)) : Y P (.binOp .sub t x y t') ty ρ w (vu (a - b)) :=
  Y.bin hx hy (by
    have h1 := a.toNat_lt; have h2 := b.toNat_lt
    simp only [binOp, Op.intArith, wrap_u64, vu, UInt64.toNat_sub]
    have : ((a.toNat : Int) - b.toNat) % 18446744073709551616 = (((2 ^ 64 - b.toNat + a.toNat) % 2 ^ 64 : Nat) : Int) := by omega
    simp [this])
theorem Y.mul_u {a b : UInt64} (hx : ev ρ x = some (vu a)) (hy : ev ρ y = some (vu b)) : Y P (.binOp .mul t x y t') ty ρ w (vu (a * b)) :=
  Y.bin hx hy (by simp only [binOp, Op.intArith, wrap_u64, vu, UInt64.toNat_mul]; simp)
theorem u64_ne {b : UInt64} (hb : b ≠ 0) : ((b.toNat : Nat) : Int) ≠ 0 := by
  intro h; apply hb; exact UInt64.toNat_inj.1 (by simp; omega)
theorem Y.quo_u {a b : UInt64} (hb : b ≠ 0) (hx : ev ρ x = some (vu a)) (hy : ev ρ y = some (vu b)) : Y P (.binOp .quo t x y t') ty ρ w (vu (a / b)) :=
  Y.bin hx hy (by
    have h1 := a.toNat_lt
    have h3 := Nat.div_le_self a.toNat b.toNat
    simp only [binOp, Op.intDiv, wrap_u64, vu, UInt64.toNat_div, if_neg (u64_ne hb)]
    have : (Int.tdiv (a.toNat : Int) (b.toNat : Int)) % 18446744073709551616 = ((a.toNat / b.toNat : Nat) : Int) := by
      rw [Int.tdiv_eq_ediv_of_nonneg (by omega), ← Int.natCast_ediv]
      generalize a.toNat / b.toNat = q at *
      omega
    rw [this]; rfl)
theorem Y.rem_u {a b : UInt64} (hb : b ≠ 0) (hx : ev ρ x = some (vu a)) (hy : ev ρ y = some (vu b)) : Y P (.binOp .rem t x y t') ty ρ w (vu (a % b)) :=
  Y.bin hx hy (by
    simp only [binOp, Op.intDiv, vu, UInt64.toNat_mod, if_neg (u64_ne hb)]
    have : (Int.tmod (a.toNat : Int) (b.toNat : Int)) = ((a.toNat % b.toNat : Nat) : Int) := by
      rw [Int.tmod_eq_emod_of_nonneg (by omega)]; simp
    simp [this])
theorem u64_lt (a b : UInt64) : decide ((a.toNat : Int) < b.toNat) = decide (a < b) := by simp [UInt64.lt_iff_toNat_lt]
theorem u64_eq (a b : UInt64) : ((a.toNat : Int) == b.toNat) = decide (a = b) := by
  by_cases h : a = b
  · simp [h]
  · have : (a.toNat : Int) ≠ b.toNat := fun e => h (UInt64.toNat_inj.1 (by omega))
    simp only [h, decide_false]; exact beq_eq_false_iff_ne.2 this
theorem Y.lss_u {a b : UInt64} (hx : ev ρ x = some (vu a)) (hy : ev ρ y = some (vu b)) : Y P (.binOp .lss t x y t') ty ρ w (.bool (decide (a < b))) :=
  Y.bin hx hy (by rw [← u64_lt]; rfl)
theorem Y.gtr_u {a b : UInt64} (hx : ev ρ x = some (vu a)) (hy : ev ρ y = some (vu b)) : Y P (.binOp .gtr t x y t') ty ρ w (.bool (decide (b < a))) :=
  Y.bin hx hy (by rw [← u64_lt]; rfl)
theorem Y.eql_u {a b : UInt64} (hx : ev ρ x = some (vu a)) (hy : ev ρ y = some (vu b)) : Y P (.binOp .eql t x y t') ty ρ w (.bool (decide (a = b))) :=
  Y.bin hx hy (by rw [← u64_eq]; rfl)
theorem Y.neq_u {a b : UInt64} (hx : ev ρ x = some (vu a)) (hy : ev ρ y = some (vu b)) : Y P (.binOp .neq t x y t') ty ρ w (.bool (!decide (a = b))) :=
  Y.bin hx hy (by rw [← u64_eq]; rfl)
theorem bv64 (a : UInt64) : BitVec.ofInt 64 (a.toNat : Int) = a.toBitVec := by
  apply BitVec.eq_of_toNat_eq
  have := a.toNat_lt
  simp only [BitVec.toNat_ofInt, UInt64.toNat_toBitVec]
  omega
theorem wrap_bv64 (v : BitVec 64) : IntKind.u64.wrap (v.toNat : Int) = v.toNat := by
  have := v.isLt; rw [wrap_u64]; omega
theorem Y.and_u {a b : UInt64} (hx : ev ρ x = some (vu a)) (hy : ev ρ y = some (vu b)) : Y P (.binOp .and t x y t') ty ρ w (vu (a &&& b)) :=
  Y.bin hx hy (by simp only [binOp, Op.intBits, IntKind.bits, vu, bv64, wrap_bv64]; rfl)
theorem Y.or_u {a b : UInt64} (hx : ev ρ x = some (vu a)) (hy : ev ρ y = some (vu b)) : Y P (.binOp .or t x y t') ty ρ w (vu (a ||| b)) :=
  Y.bin hx hy (by simp only [binOp, Op.intBits, IntKind.bits, vu, bv64, wrap_bv64]; rfl)
theorem Y.xor_u {a b : UInt64} (hx : ev ρ x = some (vu a)) (hy : ev ρ y = some (vu b)) : Y P (.binOp .xor t x y t') ty ρ w (vu (a ^^^ b)) :=
  Y.bin hx hy (by simp only [binOp, Op.intBits, IntKind.bits, vu, bv64, wrap_bv64]; rfl)
/-! UInt8 -/
theorem bv8 (a : UInt8) : BitVec.ofInt 8 (a.toNat : Int) = a.toBitVec := by
  apply BitVec.eq_of_toNat_eq
  have := a.toNat_lt
  simp only [BitVec.toNat_ofInt, UInt8.toNat_toBitVec]
  omega
theorem wrap_bv8 (v : BitVec 8) : IntKind.u8.wrap (v.toNat : Int) = v.toNat := by
  have := v.isLt; rw [wrap_u8]; omega
theorem Y.sub_b {a b : UInt8} (hx : ev ρ x = some (vb a)) (hy : ev ρ y = some (vb b)) : Y P (.binOp .sub t x y t') ty ρ w (vb (a - b)) :=
  Y.bin hx hy (by
    have h1 := a.toNat_lt; have h2 := b.toNat_lt
    simp only [binOp, Op.intArith, wrap_u8, vb, UInt8.toNat_sub]
    have : ((a.toNat : Int) - b.toNat) % 256 = (((2 ^ 8 - b.toNat + a.toNat) % 2 ^ 8 : Nat) : Int) := by omega
    simp [this])
theorem u8_eq (a b : UInt8) : ((a.toNat : Int) == b.toNat) = decide (a = b) := by
  by_cases h : a = b
  · simp [h]
  · have : (a.toNat : Int) ≠ b.toNat := fun e => h (UInt8.toNat_inj.1 (by omega))
    simp only [h, decide_false]; exact beq_eq_false_iff_ne.2 this
theorem Y.neq_b {a b : UInt8} (hx : ev ρ x = some (vb a)) (hy : ev ρ y = some (vb b)) : Y P (.binOp .neq t x y t') ty ρ w (.bool (!decide (a = b))) :=
  Y.bin hx hy (by rw [← u8_eq]; rfl)
theorem Y.and_b {a b : UInt8} (hx : ev ρ x = some (vb a)) (hy : ev ρ y = some (vb b)) : Y P (.binOp .and t x y t') ty ρ w (vb (a &&& b)) :=
  Y.bin hx hy (by simp only [binOp, Op.intBits, IntKind.bits, vb, bv8, wrap_bv8]; rfl)
theorem Y.or_b {a b : UInt8} (hx : ev ρ x = some (vb a)) (hy : ev ρ y = some (vb b)) : Y P (.binOp .or t x y t') ty ρ w (vb (a ||| b)) :=
  Y.bin hx hy (by simp only [binOp, Op.intBits, IntKind.bits, vb, bv8, wrap_bv8]; rfl)
/-! bools -/
end bin
/-! ### shifts -/
section sh
variable {t t' : TypeId} {x y : Operand}
theorem run_shl (k yk : IntKind) (a : Int) (m : Nat) : (Op.shift .shl k a yk (m : Int)).run P w = .ok (.int k (k.wrap (a * 2 ^ min m k.bits))) w := by
  simp [Op.shift, show ¬ ((m : Int) < 0) by omega]
theorem run_shr (k yk : IntKind) (a : Int) (m : Nat) : (Op.shift .shr k a yk (m : Int)).run P w = .ok (.int k (a.fdiv (2 ^ min m k.bits))) w := by
  simp [Op.shift, show ¬ ((m : Int) < 0) by omega]
theorem Y.sh {k yk : IntKind} {a b : Int} {v : Value} {bop : BinOp} (hb : bop = .shl ∨ bop = .shr) (hx : ev ρ x = some (.int k a)) (hy : ev ρ y = some (.int yk b))
    (hr : (Op.shift bop k a yk b).run P w = .ok v w) : Y P (.binOp bop t x y t') ty ρ w v := by
  intro A n o ha ho _
  simp only [execOp, ho, ha.eval hx, ha.eval hy]
  rcases hb with rfl | rfl <;> simp [eqGuard, binOp, hr]
theorem natCast_shl (a m : Nat) : ((a : Int) * 2 ^ m) = ((a * 2 ^ m : Nat) : Int) := by simp
theorem vu_shl (a : UInt64) (m : Nat) : Value.int .u64 (IntKind.u64.wrap ((a.toNat : Int) * 2 ^ min m IntKind.u64.bits)) = vu (shlU a m) := by
  simp only [vu, shlU, IntKind.bits, natCast_shl, wrap_u64, UInt64.toNat_ofNat']; simp
theorem vu_shr (a : UInt64) (m : Nat) : Value.int .u64 (Int.fdiv (a.toNat : Int) (2 ^ min m IntKind.u64.bits)) = vu (shrU a m) := by
  have h := a.toNat_lt
  have h2 := Nat.div_le_self a.toNat (2 ^ min m 64)
  have e : (Int.fdiv (a.toNat : Int) (2 ^ min m 64)) = ((a.toNat / 2 ^ min m 64 : Nat) : Int) := by
    rw [show ((2 : Int) ^ min m 64) = ((2 ^ min m 64 : Nat) : Int) by simp]
    rw [Int.fdiv_eq_ediv_of_nonneg _ (Int.natCast_nonneg _)]; simp
  simp only [vu, shrU, IntKind.bits, e, UInt64.toNat_ofNat']
  rw [Nat.mod_eq_of_lt (Nat.lt_of_le_of_lt h2 h)]
theorem vb_shl (a : UInt8) (m : Nat) : Value.int .u8 (IntKind.u8.wrap ((a.toNat : Int) * 2 ^ min m IntKind.u8.bits)) = vb (shlB a m) := by
  simp only [vb, shlB, IntKind.bits, natCast_shl, wrap_u8, UInt8.toNat_ofNat']; simp
theorem vb_shr (a : UInt8) (m : Nat) : Value.int .u8 (Int.fdiv (a.toNat : Int) (2 ^ min m IntKind.u8.bits)) = vb (shrB a m) := by
  have h := a.toNat_lt
  have h2 := Nat.div_le_self a.toNat (2 ^ min m 8)
  have e : (Int.fdiv (a.toNat : Int) (2 ^ min m 8)) = ((a.toNat / 2 ^ min m 8 : Nat) : Int) := by
    rw [show ((2 : Int) ^ min m 8) = ((2 ^ min m 8 : Nat) : Int) by simp]
    rw [Int.fdiv_eq_ediv_of_nonneg _ (Int.natCast_nonneg _)]; simp
  simp only [vb, shrB, IntKind.bits, e, UInt8.toNat_ofNat']
  rw [Nat.mod_eq_of_lt (Nat.lt_of_le_of_lt h2 h)]
theorem vi_shr (a : Int) (m : Nat) : Value.int .i64 (Int.fdiv a (2 ^ min m IntKind.i64.bits)) = vi (shrI a m) := by
  simp only [vi, shrI, IntKind.bits]
  rw [Int.fdiv_eq_ediv_of_nonneg _ (by exact Int.le_of_lt (Int.pow_pos (by omega)))]
/-- the count: of an unsigned kind, or of a signed one that is not below 0 -/
theorem Y.shl_uu {a : UInt64} {m : UInt64} (hx : ev ρ x = some (vu a)) (hy : ev ρ y = some (vu m)) : Y P (.binOp .shl t x y t') ty ρ w (vu (shlU a m.toNat)) :=
  Y.sh (.inl rfl) hx hy (by rw [run_shl, vu_shl])
theorem Y.shr_uu {a : UInt64} {m : UInt64} (hx : ev ρ x = some (vu a)) (hy : ev ρ y = some (vu m)) : Y P (.binOp .shr t x y t') ty ρ w (vu (shrU a m.toNat)) :=
  Y.sh (.inr rfl) hx hy (by rw [run_shr, vu_shr])
theorem Y.shl_bu {a : UInt8} {m : UInt64} (hx : ev ρ x = some (vb a)) (hy : ev ρ y = some (vu m)) : Y P (.binOp .shl t x y t') ty ρ w (vb (shlB a m.toNat)) :=
  Y.sh (.inl rfl) hx hy (by rw [run_shl, vb_shl])
theorem Y.shr_bu {a : UInt8} {m : UInt64} (hx : ev ρ x = some (vb a)) (hy : ev ρ y = some (vu m)) : Y P (.binOp .shr t x y t') ty ρ w (vb (shrB a m.toNat)) :=
  Y.sh (.inr rfl) hx hy (by rw [run_shr, vb_shr])
theorem Y.shr_iu {a : Int} {m : UInt64} (hx : ev ρ x = some (vi a)) (hy : ev ρ y = some (vu m)) : Y P (.binOp .shr t x y t') ty ρ w (vi (shrI a m.toNat)) :=
  Y.sh (.inr rfl) hx hy (by rw [run_shr, vi_shr])
end sh
/-! ### conversions among integers: the kinds of source and target are closed facts of the program -/
section conv
variable {s t : TypeId} {x : Operand}
theorem Y.conv {k k' : IntKind} {a : Int} {sd : TypeDesc} (hs : P.underlying s = some sd) (ht : P.underlying t = some (.int k')) (hx : ev ρ x = some (.int k a)) : Y P (.convert s t x) ty ρ w (.int k' (k'.wrap a)) := by
  intro A n o ha ho _
  simp only [execOp, ho, ha.eval hx]
  simp [convert, run_underlying hs, run_underlying ht, Conv.intToInt]
theorem toU64_toNat (a : Int) : ((toU64 a).toNat : Int) = a % 18446744073709551616 := by
  simp only [toU64, UInt64.toNat_ofNat']; omega
theorem toU8_toNat (a : Int) : ((toU8 a).toNat : Int) = a % 256 := by
  simp only [toU8, UInt8.toNat_ofNat']; omega
theorem Y.conv_iu {a : Int} {sd : TypeDesc} (hs : P.underlying s = some sd) (ht : P.underlying t = some (.int .u64)) (hx : ev ρ x = some (vi a)) : Y P (.convert s t x) ty ρ w (vu (toU64 a)) := by
  have := Y.conv (P := P) (ty := ty) (w := w) hs ht hx; simp only [wrap_u64] at this; simpa only [vu, toU64_toNat] using this
theorem Y.conv_ib {a : Int} {sd : TypeDesc} (hs : P.underlying s = some sd) (ht : P.underlying t = some (.int .u8)) (hx : ev ρ x = some (vi a)) : Y P (.convert s t x) ty ρ w (vb (toU8 a)) := by
  have := Y.conv (P := P) (ty := ty) (w := w) hs ht hx; simp only [wrap_u8] at this; simpa only [vb, toU8_toNat] using this
theorem Y.conv_ui {a : UInt64} {sd : TypeDesc} (hs : P.underlying s = some sd) (ht : P.underlying t = some (.int .i64)) (hx : ev ρ x = some (vu a)) : Y P (.convert s t x) ty ρ w (vi (w64 (a.toNat : Int))) := by rw [← w64_eq]; exact Y.conv hs ht hx
theorem Y.conv_ub {a : UInt64} {sd : TypeDesc} (hs : P.underlying s = some sd) (ht : P.underlying t = some (.int .u8)) (hx : ev ρ x = some (vu a)) : Y P (.convert s t x) ty ρ w (vb a.toUInt8) := by
  have := Y.conv (P := P) (ty := ty) (w := w) hs ht hx
  rw [wrap_u8, show (a.toNat : Int) % 256 = (a.toUInt8.toNat : Int) by simp] at this; exact this
theorem Y.conv_bu {a : UInt8} {sd : TypeDesc} (hs : P.underlying s = some sd) (ht : P.underlying t = some (.int .u64)) (hx : ev ρ x = some (vb a)) : Y P (.convert s t x) ty ρ w (vu a.toUInt64) := by
  have := Y.conv (P := P) (ty := ty) (w := w) hs ht hx
  have h := a.toNat_lt
  rw [wrap_u64, show (a.toNat : Int) % 18446744073709551616 = (a.toUInt64.toNat : Int) by simp; omega] at this; exact this
end conv
end
end Go.Lg
