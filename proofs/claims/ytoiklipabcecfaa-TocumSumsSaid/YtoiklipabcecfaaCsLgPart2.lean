/- Lemmas about the given model and about plain data, which the rows stand on: no statement of the program by itself. -/
import Derived.Test.YtoiklipabcecfaaCsLgPart1
import Derived.Test.YtoiklipabcecfaaCsLgPart0
set_option linter.unusedVariables false
namespace Go.Lg
open Ieee
attribute [local irreducible] w64 toU64 toU8 shlU shrU shlB shrB
/-- the other sign -/
def fMinus (b : UInt64) : UInt64 := if fS b.toNat then b - 9223372036854775808 else b + 9223372036854775808
theorem fMinus_nat (b : UInt64) : fS (fMinus b).toNat = !fS b.toNat ∧ fE (fMinus b).toNat = fE b.toNat ∧ fM (fMinus b).toNat = fM b.toNat := by
  have h := UInt64.toNat_lt b
  have n : (9223372036854775808 : UInt64).toNat = 9223372036854775808 := rfl
  unfold fMinus
  by_cases q : 9223372036854775808 ≤ b.toNat
  · have e : (b - 9223372036854775808).toNat = b.toNat - 9223372036854775808 := by rw [UInt64.toNat_sub, n]; omega
    unfold fS
    rw [decide_eq_true q, if_pos rfl, e]
    unfold fE fM
    exact ⟨decide_eq_false (by omega), by omega, by omega⟩
  · have e : (b + 9223372036854775808).toNat = b.toNat + 9223372036854775808 := by rw [UInt64.toNat_add, n]; omega
    unfold fS
    rw [decide_eq_false q, if_neg (by simp), e]
    unfold fE fM
    exact ⟨decide_eq_true (by omega), by omega, by omega⟩
theorem fW_congr {m n : Nat} (h : fE m = fE n) (h' : fM m = fM n) : fW m = fW n ∧ fX m = fX n := by
  unfold fW fX
  rw [h, h']
  exact ⟨rfl, rfl⟩
theorem read_minus (b : UInt64) : double.read (fMinus b).toNat = (double.read b.toNat).opposite := by
  obtain ⟨h1, h2, h3⟩ := fMinus_nat b
  obtain ⟨h4, h5⟩ := fW_congr h2 h3
  rw [read_eq (UInt64.toNat_lt _), read_eq (UInt64.toNat_lt _), h1, h2, h3, h4, h5]
  by_cases a : fE b.toNat = 2047
  · rw [if_pos a, if_pos a]
    by_cases c : fM b.toNat = 0
    · rw [if_pos c, if_pos c]; rfl
    · rw [if_neg c, if_neg c]; rfl
  · rw [if_neg a, if_neg a]; rfl
theorem sub_add (a b : UInt64) : fSub a b = fAdd a (fMinus b) := by
  unfold fSub fAdd Format.sub Format.add
  rw [read_minus]
/-! ### which is below -/
/-- a finite float's size in the least unit -/
def fZ (n : Nat) : Nat := fW n * 2 ^ (fX n - 1)
theorem fZ_mono {m n : Nat} (hm : fE m ≠ 2047) (hn : fE n ≠ 2047) : (fZ m < fZ n ↔ m % 9223372036854775808 < n % 9223372036854775808) := by
  have key : ∀ {m n : Nat}, fE m ≠ 2047 → fE n ≠ 2047 → m % 9223372036854775808 < n % 9223372036854775808 → fZ m < fZ n := by
    intro m n hm hn h
    have a1 := fM_lt m; have a2 := fM_lt n; have b1 := fE_lt m; have b2 := fE_lt n
    have em : m % 9223372036854775808 = fE m * 4503599627370496 + fM m := by unfold fE fM; omega
    have en : n % 9223372036854775808 = fE n * 4503599627370496 + fM n := by unfold fE fM; omega
    rw [em, en] at h
    unfold fZ
    by_cases he : fX m = fX n
    · rw [he]
      have hp := Nat.two_pow_pos (fX n - 1)
      refine (Nat.mul_lt_mul_right hp).2 ?_
      unfold fX at he
      unfold fW
      split at he <;> split at he <;> simp only [*, if_true, if_false] <;> omega
    · have hlt : fX m < fX n := by
        unfold fX at *
        split <;> split <;> simp_all <;> omega
      have hn0 : fE n ≠ 0 := by
        intro e
        unfold fX at hlt
        rw [if_pos e] at hlt
        split at hlt <;> omega
      have hwn : 4503599627370496 ≤ fW n := by unfold fW; rw [if_neg hn0]; omega
      have hwm : fW m < 9007199254740992 := (fW_facts m).1
      have hfm : 1 ≤ fX m := (fW_facts m).2.2.1
      have e1 : 2 ^ (fX n - 1) = 2 ^ (fX m - 1) * 2 ^ (fX n - fX m) := by rw [← Nat.pow_add]; congr 1; omega
      have h2 : 2 ^ 1 ≤ 2 ^ (fX n - fX m) := Nat.pow_le_pow_right (by omega) (by omega)
      rw [Nat.pow_one] at h2
      have hp := Nat.two_pow_pos (fX m - 1)
      have l1 : fW m * 2 ^ (fX m - 1) < 9007199254740992 * 2 ^ (fX m - 1) := (Nat.mul_lt_mul_right hp).2 hwm
      have l2 : 4503599627370496 * (2 ^ (fX m - 1) * 2) ≤ fW n * (2 ^ (fX m - 1) * 2 ^ (fX n - fX m)) := Nat.mul_le_mul hwn (Nat.mul_le_mul_left _ h2)
      rw [e1]
      omega
  constructor
  · intro h
    apply Decidable.byContradiction
    intro q
    by_cases e : m % 9223372036854775808 = n % 9223372036854775808
    · have a : fE m = fE n := by unfold fE; omega
      have b : fM m = fM n := by unfold fM; omega
      obtain ⟨c, d⟩ := fW_congr a b
      unfold fZ at h
      rw [c, d] at h
      omega
    · have := key hn hm (by omega)
      omega
  · exact key hm hn
theorem fZ_scale (n : Nat) (B : Nat) (hB : 1 ≤ B) (h : B ≤ fX n) : fW n * 2 ^ (fX n - B) * 2 ^ (B - 1) = fZ n := by
  unfold fZ
  rw [Nat.mul_assoc, ← Nat.pow_add]
  congr 2; omega
theorem order_fin {a b : Nat} (ha : a < 18446744073709551616) (hb : b < 18446744073709551616) (fa : fE a ≠ 2047) (fb : fE b ≠ 2047) :
    (double.order a b = some .lt) ↔ ((if fS a then -(fZ a : Int) else (fZ a : Int)) < (if fS b then -(fZ b : Int) else (fZ b : Int))) := by
  have ra := read_eq ha
  have rb := read_eq hb
  rw [if_neg fa] at ra
  rw [if_neg fb] at rb
  have xa := (fW_facts a).2.2.1
  have xb := (fW_facts b).2.2.1
  unfold Format.order
  rw [ra, rb]
  unfold Datum.order
  have hbm : min ((fX a : Int) - 1075) ((fX b : Int) - 1075) = ((min (fX a) (fX b) : Nat) : Int) - 1075 := by omega
  simp only [hbm]
  rw [show ((fX a : Int) - 1075 - (((min (fX a) (fX b) : Nat) : Int) - 1075)).toNat = fX a - min (fX a) (fX b) by omega, show ((fX b : Int) - 1075 - (((min (fX a) (fX b) : Nat) : Int) - 1075)).toNat = fX b - min (fX a) (fX b) by omega, signed_eq, signed_eq]
  have s1 := fZ_scale a (min (fX a) (fX b)) (by omega) (by omega)
  have s2 := fZ_scale b (min (fX a) (fX b)) (by omega) (by omega)
  have hp := Nat.two_pow_pos (min (fX a) (fX b) - 1)
  generalize fW a * 2 ^ (fX a - min (fX a) (fX b)) = X at *
  generalize fW b * 2 ^ (fX b - min (fX a) (fX b)) = Y at *
  generalize 2 ^ (min (fX a) (fX b) - 1) = P at *
  rw [← s1, ← s2]
  have c1 : X * P < Y * P ↔ X < Y := Nat.mul_lt_mul_right hp
  have c2 : Y * P < X * P ↔ Y < X := Nat.mul_lt_mul_right hp
  have z1 : X * P = 0 ↔ X = 0 := by rw [Nat.mul_eq_zero]; omega
  have z2 : Y * P = 0 ↔ Y = 0 := by rw [Nat.mul_eq_zero]; omega
  rw [Option.some.injEq, Int.compare_eq_lt]
  generalize X * P = X' at *
  generalize Y * P = Y' at *
  cases fS a <;> cases fS b <;> simp only [if_true, if_false, Bool.false_eq_true] <;> omega
end Go.Lg
namespace Go.Lg
open Ieee
attribute [local irreducible] w64 toU64 toU8 shlU shrU shlB shrB
def lessN (a b : Nat) : Bool :=
  if a % 9223372036854775808 = 0 ∧ b % 9223372036854775808 = 0 then false
  else if fS a = true ∧ fS b = true then decide (b % 9223372036854775808 < a % 9223372036854775808)
  else if fS a = false ∧ fS b = false then decide (a % 9223372036854775808 < b % 9223372036854775808)
  else fS a
theorem fLess_eq {a b : UInt64} (oa : fOdd a.toNat = false) (ob : fOdd b.toNat = false) : fLess a b = lessN a.toNat b.toNat := by
  have la := UInt64.toNat_lt a
  have lb := UInt64.toNat_lt b
  have oa := of_decide_eq_false oa
  have ob := of_decide_eq_false ob
  have ra := read_eq la
  have rb := read_eq lb
  have a1 := fM_lt a.toNat; have a2 := fE_lt a.toNat; have b1 := fM_lt b.toNat; have b2 := fE_lt b.toNat
  have em : a.toNat % 9223372036854775808 = fE a.toNat * 4503599627370496 + fM a.toNat := by unfold fE fM; omega
  have en : b.toNat % 9223372036854775808 = fE b.toNat * 4503599627370496 + fM b.toNat := by unfold fE fM; omega
  unfold fLess
  generalize a.toNat = m at *
  generalize b.toNat = n at *
  by_cases ia : fE m = 2047
  · have Ma : fM m = 0 := Decidable.byContradiction fun q => oa ⟨ia, q⟩
    rw [if_pos ia, if_pos Ma] at ra
    by_cases ib : fE n = 2047
    · have Mb : fM n = 0 := Decidable.byContradiction fun q => ob ⟨ib, q⟩
      rw [if_pos ib, if_pos Mb] at rb
      unfold Format.order lessN
      rw [ra, rb, em, en, ia, ib, Ma, Mb]
      cases fS m <;> cases fS n <;> decide
    · rw [if_neg ib] at rb
      unfold Format.order lessN
      rw [ra, rb, em, en, ia, Ma, if_neg (by omega)]
      cases fS m <;> cases fS n <;> simp [Datum.order] <;> omega
  · rw [if_neg ia] at ra
    by_cases ib : fE n = 2047
    · have Mb : fM n = 0 := Decidable.byContradiction fun q => ob ⟨ib, q⟩
      rw [if_pos ib, if_pos Mb] at rb
      unfold Format.order lessN
      rw [ra, rb, em, en, ib, Mb, if_neg (by omega)]
      cases fS m <;> cases fS n <;> simp [Datum.order] <;> omega
    · have ho := order_fin la lb ia ib
      have h1 := fZ_mono ia ib
      have h2 := fZ_mono ib ia
      have hz : ∀ k, fE k ≠ 2047 → (fZ k = 0 ↔ k % 9223372036854775808 = 0) := by
        intro k _
        have hp := Nat.two_pow_pos (fX k - 1)
        unfold fZ
        rw [Nat.mul_eq_zero]
        constructor
        · intro q
          rcases q with q | q
          · have := (fW_facts k).2.2.2 q
            unfold fE fM at this; omega
          · omega
        · intro q
          left
          have e : fE k = 0 := by unfold fE; omega
          have e2 : fM k = 0 := by unfold fM; omega
          unfold fW; rw [if_pos e, e2]
      have z1 := hz m ia
      have z2 := hz n ib
      clear em en
      rw [Bool.eq_iff_iff, beq_iff_eq, ho]
      unfold lessN
      generalize m % 9223372036854775808 = x at *
      generalize n % 9223372036854775808 = y at *
      generalize fZ m = X at *
      generalize fZ n = Y at *
      clear ho ra rb hz
      generalize fS m = s
      generalize fS n = t
      by_cases h0 : x = 0 ∧ y = 0
      · have hX := z1.2 h0.1
        have hY := z2.2 h0.2
        rw [if_pos h0, hX, hY]
        cases s <;> cases t <;> simp
      · rw [if_neg h0]
        cases s <;> cases t
        · rw [if_neg (by simp), if_neg (by simp), if_neg (by simp), if_pos ⟨rfl, rfl⟩, decide_eq_true_eq]; omega
        · rw [if_neg (by simp), if_pos rfl, if_neg (by simp), if_neg (by simp)]
          simp only [Bool.false_eq_true, iff_false]; omega
        · rw [if_pos rfl, if_neg (by simp), if_neg (by simp), if_neg (by simp)]
          simp only [iff_true]; omega
        · rw [if_pos rfl, if_pos rfl, if_pos ⟨rfl, rfl⟩, decide_eq_true_eq]; omega
end Go.Lg
namespace Go.Lg
attribute [local irreducible] w64 toU64 toU8 shlU shrU shlB shrB
end Go.Lg
namespace Go.Lg
open Ieee
attribute [local irreducible] w64 toU64 toU8 shlU shrU shlB shrB
theorem and_exp (n : Nat) : n &&& 9218868437227405312 = fE n * 4503599627370496 := by
  have h : n &&& (2047 <<< 52) = ((n >>> 52) &&& 2047) <<< 52 := by
    apply Nat.eq_of_testBit_eq
    intro i
    simp only [Nat.testBit_and, Nat.testBit_shiftLeft, Nat.testBit_shiftRight]
    by_cases q : 52 ≤ i
    · rw [decide_eq_true q, Bool.true_and, Bool.true_and, show 52 + (i - 52) = i by omega]
    · rw [decide_eq_false q, Bool.false_and, Bool.and_false, Bool.false_and]
  have e1 : (2047 <<< 52 : Nat) = 9218868437227405312 := by decide
  have e2 : (2 : Nat) ^ 52 = 4503599627370496 := by decide
  have e3 : (2047 : Nat) = 2 ^ 11 - 1 := by decide
  rw [e1] at h
  rw [h, e3, Nat.and_two_pow_sub_one_eq_mod, Nat.shiftLeft_eq, Nat.shiftRight_eq_div_pow, e2]; rfl
theorem numFinite_eq (a : UInt64) : num_Finite a = some (decide (fE a.toNat ≠ 2047)) := by
  unfold num_Finite
  rw [lett_eq]
  congr 1
  rw [Bool.eq_iff_iff, Bool.not_eq_true', decide_eq_false_iff_not, decide_eq_true_eq, ← UInt64.toNat_inj, UInt64.toNat_and, show (9218868437227405312 : UInt64).toNat = 9218868437227405312 from rfl, and_exp]; omega
end Go.Lg
namespace Go.Lg
structure api_Pair where
  Key : List UInt8
  Val : List UInt8
  deriving DecidableEq
structure api_Point where
  Name : List UInt8
  Attrs : List api_Pair
  Kind : Int
  Temp : Int
  Mono : Bool
  Start : Int
  Time : Int
  Int_ : Int
  Re : UInt64
  Im : UInt64
  Hist : api_Hist
  Flags : Int
  deriving DecidableEq
structure api_State where
  Some : Bool
  Start : Int
  Time : Int
  Int_ : Int
  Re : UInt64
  Im : UInt64
  Hist : api_Hist
  deriving DecidableEq
structure todelta_value where
  i : Int
  re : UInt64
  im : UInt64
  h : api_Hist
  deriving DecidableEq
structure ref15_Step where
  S : api_State
  P : api_Point
  E : Int
  deriving DecidableEq
noncomputable def label_small (a0 : UInt8) : Option Bool :=
 lett (((decide (97 ≤ a0)) && (decide (a0 ≤ 122)))) fun t12 =>
 some t12
noncomputable def label_isName_lp1 (a0 : List UInt8) : Int → Option (Rnd Int Unit Bool) := fun x36 =>
 bif decide (x36 < (a0.length : Int)) then
 (idx a0 x36).bind fun e50 =>
 (label_small e50).bind fun r63 =>
 bif ((((!r63) && ((decide (e50 < 48)) || (decide (57 < e50)))) && (!decide (e50 = 95))) && (!decide (e50 = 46))) then
 outr (some false)
 else
 some (.next (w64 (x36 + 1)))
 else
 some (.brk ())
noncomputable def label_isName (a0 : List UInt8) : Option Bool :=
 (bif ((decide (a0 = [])) || (decide (32 < (a0.length : Int)))) then
 some true
 else
 (idx a0 0).bind fun c19 =>
 (label_small c19).bind fun r20 =>
 some (!r20) : Option Bool).bind fun x12 =>
 bif x12 then
 some false
 else
 flow (loop (label_isName_lp1 a0) 0) fun (_ : Unit) =>
 some true
noncomputable def label_isValue_lp1 (a0 : List UInt8) : Int → Option (Rnd Int Unit Bool) := fun x19 =>
 bif decide (x19 < (a0.length : Int)) then
 (idx a0 x19).bind fun e27 =>
 flow ((lett (decide (e27 < 33)) fun t44 =>
 bif t44 then
 some t44
 else
 lett (decide (126 < e27)) fun t46 =>
 bif t46 then
 some t46
 else
 lett (decide (e27 = 61)) fun t48 =>
 bif t48 then
 some t48
 else
 lett (decide (e27 = 59)) fun t50 =>
 bif t50 then
 some t50
 else
 lett (decide (e27 = 44)) fun t52 =>
 some t52 : Option Bool).bind fun x41 =>
 bif x41 then
 outs (outr (some false))
 else
 some (.go ())) fun (_ : Unit) =>
 some (.next (w64 (x19 + 1)))
 else
 some (.brk ())
noncomputable def label_isValue (a0 : List UInt8) : Option Bool :=
 bif ((decide (a0 = [])) || (decide (32 < (a0.length : Int)))) then
 some false
 else
 flow (loop (label_isValue_lp1 a0) 0) fun (_ : Unit) =>
 some true
noncomputable def label_Check_lp2 (e40 : api_Pair) (t89 : List api_Pair) : Int → Option (Rnd Int Unit Int) := fun x109 =>
 bif decide (x109 < (t89.length : Int)) then
 (idx t89 x109).bind fun e123 =>
 (lett (decide (e123.Key = e40.Key)) fun t151 =>
 some t151 : Option Bool).bind fun x136 =>
 bif x136 then
 outr (some x109)
 else
 some (.next (w64 (x109 + 1)))
 else
 some (.brk ())
noncomputable def label_Check_lp1 (a1 : List api_Pair) : Int → Option (Rnd Int Unit Int) := fun x26 =>
 bif decide (x26 < (a1.length : Int)) then
 (idx a1 x26).bind fun e40 =>
 (label_isName e40.Key).bind fun r61 =>
 (bif (!r61) then
 some true
 else
 (label_isValue e40.Val).bind fun r78 =>
 some (!r78) : Option Bool).bind fun x70 =>
 bif x70 then
 outr (some 3)
 else
 (slc a1 0 x26).bind fun t89 =>
 ((flow (loop (label_Check_lp2 e40 t89) 0) fun (_ : Unit) =>
 some (-1) : Option Int).bind fun x103 =>
 lett (decide (0 ≤ x103)) fun t153 =>
 some t153 : Option Bool).bind fun x97 =>
 bif x97 then
 outr (some 8)
 else
 some (.next (w64 (x26 + 1)))
 else
 some (.brk ())
noncomputable def label_Check (a0 : List UInt8) (a1 : List api_Pair) : Option Int :=
 (label_isName a0).bind fun r12 =>
 bif (!r12) then
 some 3
 else
 bif decide (4 < (a1.length : Int)) then
 some 4
 else
 flow (loop (label_Check_lp1 a1) 0) fun (_ : Unit) =>
 some 0
noncomputable def point_kinds (a0 : api_Point) : Option Bool :=
 lett (decide (a0.Kind = 3)) fun t31 =>
 bif t31 then
 lett (decide (a0.Temp = 0)) fun t33 =>
 some t33
 else
 (lett (decide (a0.Kind = 1)) fun t38 =>
 bif t38 then
 some t38
 else
 lett (decide (a0.Kind = 2)) fun t40 =>
 bif t40 then
 some t40
 else
 lett (decide (a0.Kind = 4)) fun t42 =>
 bif t42 then
 some t42
 else
 lett (decide (a0.Kind = 5)) fun t44 =>
 some t44 : Option Bool).bind fun x35 =>
 bif x35 then
 lett (((decide (a0.Temp = 1)) || (decide (a0.Temp = 2)))) fun t47 =>
 some t47
 else
 some false
noncomputable def point_sum (a0 : api_Point) : Option Bool :=
 lett (((decide (a0.Kind = 1)) || (decide (a0.Kind = 2)))) fun t32 =>
 some t32
noncomputable def point_times (a0 : api_Point) : Option Bool :=
 bif ((decide (a0.Start < 0)) || (decide (4503599627370496 < a0.Time))) then
 some false
 else
 bif decide (a0.Kind = 3) then
 lett (decide (a0.Start = a0.Time)) fun t35 =>
 some t35
 else
 lett (decide (a0.Start < a0.Time)) fun t37 =>
 some t37
noncomputable def point_bare (a0 : api_Hist) : Option Bool :=
 lett ((((((decide (a0.Scale = 0)) && (decide (a0.Zero = 0))) && (decide (a0.Pos.Offset = 0))) && (decide (a0.Neg.Offset = 0))) && (decide (w64 ((a0.Pos.Counts.length : Int) + (a0.Neg.Counts.length : Int)) = 0)))) fun t32 =>
 some t32
noncomputable def point_own (a0 : api_Point) : Option Bool :=
 lett ((((decide (a0.Kind = 2)) || (decide (a0.Kind = 3))) || (decide (a0.Kind = 5)))) fun float33 =>
 lett (((!decide (a0.Kind = 1)) && (!decide (a0.Int_ = 0)))) fun t35 =>
 bif t35 then
 bif t35 then
 some false
 else
 some true
 else
 lett (((!float33) && (!decide (a0.Re = 0)))) fun t41 =>
 bif t41 then
 bif t41 then
 some false
 else
 some true
 else
 lett (((!decide (a0.Kind = 5)) && (!decide (a0.Im = 0)))) fun t47 =>
 bif t47 then
 bif t47 then
 some false
 else
 some true
 else
 (bif (!decide (a0.Kind = 4)) then
 (point_bare a0.Hist).bind fun r61 =>
 some (!r61)
 else
 some false : Option Bool).bind fun x52 =>
 bif x52 then
 bif x52 then
 some false
 else
 some true
 else
 lett (((decide (a0.Flags < 0)) || (decide (31 < a0.Flags)))) fun t76 =>
 bif t76 then
 some false
 else
 some true
noncomputable def point_Check (a0 : api_Point) : Option Int :=
 (label_Check a0.Name a0.Attrs).bind fun r32 =>
 bif (!decide (r32 = 0)) then
 some r32
 else
 (point_kinds a0).bind fun r49 =>
 lett ((!r49)) fun t58 =>
 bif t58 then
 some 14
 else
 ((bif a0.Mono then
 (point_sum a0).bind fun r78 =>
 some (!r78)
 else
 some false : Option Bool).bind fun x68 =>
 bif x68 then
 some x68
 else
 (point_times a0).bind fun r95 =>
 lett ((!r95)) fun t104 =>
 some t104 : Option Bool).bind fun x61 =>
 bif x61 then
 some 1
 else
 (point_own a0).bind fun r115 =>
 lett ((!r115)) fun t124 =>
 bif t124 then
 some 3
 else
 (bif (a0.Mono && (decide (a0.Kind = 2))) then
 (num_Finite a0.Re).bind fun r136 =>
 some (!r136)
 else
 some false : Option Bool).bind fun x129 =>
 bif x129 then
 some 11
 else
 (bif a0.Mono then
 (bif decide (a0.Int_ < 0) then
 some true
 else
 (num_Less a0.Re (0 : UInt64)).bind fun r162 =>
 some r162 : Option Bool).bind fun x155 =>
 some x155
 else
 some false : Option Bool).bind fun x148 =>
 bif x148 then
 some 1
 else
 lett (decide (a0.Kind = 4)) fun t174 =>
 bif t174 then
 (hist_Check a0.Hist).bind fun r182 =>
 some r182
 else
 some 0
def slices_Clone_api_Pair_api_Pair (a0 : List api_Pair) : Option (List api_Pair) := app [] a0
noncomputable def point_Clone (a0 : api_Point) : Option api_Point :=
 (slices_Clone_api_Pair_api_Pair a0.Attrs).bind fun r39 =>
 (hist_Clone a0.Hist).bind fun r67 =>
 some (api_Point.mk a0.Name r39 a0.Kind a0.Temp a0.Mono a0.Start a0.Time a0.Int_ a0.Re a0.Im r67 a0.Flags)
noncomputable def ref11_Light_lp1 (a0 : List api_Pair) : Int → Option (Rnd Int Unit Bool) := fun i14 =>
 bif decide (i14 < (a0.length : Int)) then
 (idx a0 i14).bind fun e22 =>
 (bif decide (100 < (e22.Key.length : Int)) then
 some true
 else
 (idx a0 i14).bind fun e38 =>
 some (decide (100 < (e38.Val.length : Int))) : Option Bool).bind fun x34 =>
 bif x34 then
 outr (some false)
 else
 lett (w64 (i14 + 1)) fun i52 =>
 some (.next i52)
 else
 some (.brk ())
noncomputable def ref11_Light (a0 : List api_Pair) : Option Bool :=
 bif decide (20 < (a0.length : Int)) then
 some false
 else
 flow (loop (ref11_Light_lp1 a0) 0) fun (_ : Unit) =>
 some true
noncomputable def ref12_Light (a0 : api_Point) : Option Bool :=
 (bif decide ((a0.Name.length : Int) ≤ 100) then
 (ref11_Light a0.Attrs).bind fun r39 =>
 some r39
 else
 some false : Option Bool).bind fun x31 =>
 (bif x31 then
 (ref08_Light a0.Hist).bind fun r60 =>
 some r60
 else
 some false : Option Bool).bind fun x48 =>
 some x48
noncomputable def ref12_Some_lp1 (a0 : List api_Point) : Int → Option (Rnd Int Unit Bool) := fun i14 =>
 bif decide (i14 < (a0.length : Int)) then
 (idx a0 i14).bind fun e29 =>
 (ref12_Light e29).bind fun r47 =>
 bif (!r47) then
 outr (some false)
 else
 lett (w64 (i14 + 1)) fun i58 =>
 some (.next i58)
 else
 some (.brk ())
noncomputable def ref12_Some (a0 : List api_Point) (a1 : Int) : Option Bool :=
 bif decide (a1 < (a0.length : Int)) then
 some false
 else
 flow (loop (ref12_Some_lp1 a0) 0) fun (_ : Unit) =>
 some true
noncomputable def ref15_Wide (a0 : Int) (a1 : Int) (a2 : Bool) : Option Bool :=
 lett (w64 (a0.tdiv 2)) fun hv11 =>
 lett (a0.tmod 2) fun r12 =>
 lett (w64 (a1.tdiv 2)) fun k13 =>
 lett (a1.tmod 2) fun q14 =>
 (bif a2 then
 lett (w64 (0 - k13)) fun k20 =>
 lett (w64 (0 - q14)) fun q21 =>
 some (k20, q21)
 else
 some (k13, q14) : Option (Int × Int)).bind fun (k15, q16) =>
 lett (w64 (hv11 + k15)) fun half22 =>
 lett (w64 (r12 + q16)) fun rest23 =>
 (bif decide (1 < rest23) then
 lett (w64 (half22 + 1)) fun half29 =>
 lett (w64 (rest23 - 2)) fun rest30 =>
 some (half29, rest30)
 else
 some (half22, rest23) : Option (Int × Int)).bind fun (half24, rest25) =>
 (bif decide (rest25 < (-1)) then
 lett (w64 (half24 - 1)) fun half36 =>
 lett (w64 (rest25 + 2)) fun rest37 =>
 some (half36, rest37)
 else
 some (half24, rest25) : Option (Int × Int)).bind fun (half31, rest32) =>
 bif ((decide (4611686018427387904 < half31)) || (decide (half31 < (-4611686018427387904)))) then
 some true
 else
 bif decide (half31 = 4611686018427387904) then
 lett (decide (0 ≤ rest32)) fun t42 =>
 some t42
 else
 lett (((decide (half31 = (-4611686018427387904))) && (decide (rest32 < 0)))) fun t45 =>
 some t45
noncomputable def tocum_check (a0 : api_State) (a1 : api_Point) : Option Int :=
 lett ((!a0.Some)) fun t50 =>
 bif t50 then
 some 0
 else
 lett (decide (a1.Time ≤ a0.Time)) fun t53 =>
 bif t53 then
 some 9
 else
 lett (decide (a1.Start < a0.Time)) fun t56 =>
 bif t56 then
 some 10
 else
 some 0
noncomputable def tocum_Together_lp1 (a2 : Int) : (Int × UInt64 × Int × List UInt64 × Int × List UInt64 × Int × UInt64 × Int × List UInt64 × Int × List UInt64) → Option (Rnd (Int × UInt64 × Int × List UInt64 × Int × List UInt64 × Int × UInt64 × Int × List UInt64 × Int × List UInt64) Unit (api_Hist × Bool)) := fun (c139, c140, c141, c142, c145, c146, c150, c151, c152, c153, c156, c157) =>
 (fold_Merge (api_Hist.mk c139 c140 (api_Side.mk c141 c142) (api_Side.mk c145 c146)) (api_Hist.mk c150 c151 (api_Side.mk c152 c153) (api_Side.mk c156 c157))).bind fun (r176, r177) =>
 lett (decide (r177 = 4)) fun t210 =>
 bif t210 then
 outr (some ((api_Hist.mk 0 0 (api_Side.mk 0 []) (api_Side.mk 0 [])), false))
 else
 lett (((decide (r177 = 0)) && (decide ((max (r176.Pos.Counts.length : Int) (r176.Neg.Counts.length : Int)) ≤ a2)))) fun t228 =>
 bif t228 then
 outr (some (r176, true))
 else
 lett (decide (c139 = (-10))) fun t250 =>
 bif t250 then
 outr (some ((api_Hist.mk 0 0 (api_Side.mk 0 []) (api_Side.mk 0 [])), false))
 else
 (hist_Down (api_Hist.mk c139 c140 (api_Side.mk c141 c142) (api_Side.mk c145 c146)) 1).bind fun (r271, r272) =>
 (hist_Down (api_Hist.mk c150 c151 (api_Side.mk c152 c153) (api_Side.mk c156 c157)) 1).bind fun (r314, r315) =>
 some (.next (r271.Scale, r271.Zero, r271.Pos.Offset, r271.Pos.Counts, r271.Neg.Offset, r271.Neg.Counts, r314.Scale, r314.Zero, r314.Pos.Offset, r314.Pos.Counts, r314.Neg.Offset, r314.Neg.Counts))
noncomputable def tocum_Together (a0 : api_Hist) (a1 : api_Hist) (a2 : Int) : Option (api_Hist × Bool) :=
 (fold_Level a0 a1).bind fun (r61, r62, r63) =>
 bif (!decide (r63 = 0)) then
 some ((api_Hist.mk 0 0 (api_Side.mk 0 []) (api_Side.mk 0 [])), false)
 else
 flow (loop (tocum_Together_lp1 a2) (r61.Scale, r61.Zero, r61.Pos.Offset, r61.Pos.Counts, r61.Neg.Offset, r61.Neg.Counts, r62.Scale, r62.Zero, r62.Pos.Offset, r62.Pos.Counts, r62.Neg.Offset, r62.Neg.Counts)) fun (_ : Unit) => none
noncomputable def tocum_finite_lp1 (a0 : List UInt64) : Int → Option (Rnd Int Unit Bool) := fun x12 =>
 bif decide (x12 < (a0.length : Int)) then
 (idx a0 x12).bind fun e26 =>
 (num_Finite e26).bind fun r39 =>
 bif (!r39) then
 outr (some false)
 else
 some (.next (w64 (x12 + 1)))
 else
 some (.brk ())
noncomputable def tocum_finite (a0 : List UInt64) : Option Bool :=
 flow (loop (tocum_finite_lp1 a0) 0) fun (_ : Unit) =>
 some true
noncomputable def tocum_add (a0 : api_State) (a1 : api_Point) (a2 : Int) : Option (Bool × api_State) :=
 lett (decide (a1.Kind = 1)) fun t34 =>
 bif t34 then
 lett (w64 (a0.Int_ + a1.Int_)) fun sum41 =>
 bif ((!decide (decide (a0.Int_ < sum41) = decide (0 < a1.Int_))) && (!decide (a1.Int_ = 0))) then
 some (false, a0)
 else
 some (true, (api_State.mk a0.Some a0.Start a0.Time sum41 a0.Re a0.Im a0.Hist))
 else
 lett (decide (a1.Kind = 4)) fun t122 =>
 bif t122 then
 ((tocum_Together a0.Hist a1.Hist a2).bind fun (r179, r180) =>
 some (r179.Scale, r179.Zero, r179.Pos.Offset, r179.Pos.Counts, r179.Neg.Offset, r179.Neg.Counts, r180)).bind fun (x154, x155, x156, x157, x160, x161, x164) =>
 bif (!x164) then
 some (false, a0)
 else
 some (true, (api_State.mk a0.Some a0.Start a0.Time a0.Int_ a0.Re a0.Im (api_Hist.mk x154 x155 (api_Side.mk x156 x157) (api_Side.mk x160 x161))))
 else
 (num_AddPhasor a0.Re a0.Im a1.Re a1.Im).bind fun (r352, r353) =>
 (tocum_finite [r352, r353]).bind fun r390 =>
 (bif (!r390) then
 (tocum_finite [a0.Re, a0.Im, a1.Re, a1.Im]).bind fun r480 =>
 some r480
 else
 some false).bind fun x405 =>
 bif x405 then
 some (false, a0)
 else
 some (true, (api_State.mk a0.Some a0.Start a0.Time a0.Int_ r352 r353 a0.Hist))
noncomputable def tocum_answer (a0 : api_State) (a1 : api_Point) (a2 : Int) : Option api_Point :=
 (point_Clone a1).bind fun r61 =>
 lett (decide (a1.Kind = 1)) fun t162 =>
 bif t162 then
 some (api_Point.mk r61.Name r61.Attrs r61.Kind 1 r61.Mono a0.Start r61.Time a0.Int_ 0 0 (api_Hist.mk 0 0 (api_Side.mk 0 []) (api_Side.mk 0 [])) a2)
 else
 lett (decide (a1.Kind = 2)) fun t207 =>
 bif t207 then
 some (api_Point.mk r61.Name r61.Attrs r61.Kind 1 r61.Mono a0.Start r61.Time 0 a0.Re 0 (api_Hist.mk 0 0 (api_Side.mk 0 []) (api_Side.mk 0 [])) a2)
 else
 lett (decide (a1.Kind = 5)) fun t252 =>
 bif t252 then
 some (api_Point.mk r61.Name r61.Attrs r61.Kind 1 r61.Mono a0.Start r61.Time 0 a0.Re a0.Im (api_Hist.mk 0 0 (api_Side.mk 0 []) (api_Side.mk 0 [])) a2)
 else
 (hist_Clone a0.Hist).bind fun r383 =>
 some (api_Point.mk r61.Name r61.Attrs r61.Kind 1 r61.Mono a0.Start r61.Time 0 0 0 r383 a2)
noncomputable def tocum_Next (a0 : api_State) (a1 : api_Point) (a2 : Int) : Option (api_State × api_Point × Int) :=
 (point_Check a1).bind fun r70 =>
 (lett ((!decide (r70 = 0))) fun t96 =>
 bif t96 then
 some (a1.Hist.Scale, a1.Hist.Zero, a1.Hist.Pos.Offset, a1.Hist.Pos.Counts, a1.Hist.Neg.Offset, a1.Hist.Neg.Counts, r70)
 else
 lett ((!decide (a1.Temp = 2))) fun t102 =>
 bif t102 then
 some (a1.Hist.Scale, a1.Hist.Zero, a1.Hist.Pos.Offset, a1.Hist.Pos.Counts, a1.Hist.Neg.Offset, a1.Hist.Neg.Counts, 14)
 else
 lett ((!decide (a1.Flags = 0))) fun t106 =>
 bif t106 then
 some (a1.Hist.Scale, a1.Hist.Zero, a1.Hist.Pos.Offset, a1.Hist.Pos.Counts, a1.Hist.Neg.Offset, a1.Hist.Neg.Counts, 3)
 else
 lett (decide (a1.Kind = 4)) fun t110 =>
 bif t110 then
 (hist_Fit a1.Hist a2).bind fun (r114, r115) =>
 some (r114.Scale, r114.Zero, r114.Pos.Offset, r114.Pos.Counts, r114.Neg.Offset, r114.Neg.Counts, r115)
 else
 some (a1.Hist.Scale, a1.Hist.Zero, a1.Hist.Pos.Offset, a1.Hist.Pos.Counts, a1.Hist.Neg.Offset, a1.Hist.Neg.Counts, r70) : Option (Int × UInt64 × Int × List UInt64 × Int × List UInt64 × Int)).bind fun (c80, c81, c82, c83, c86, c87, e90) =>
 (bif decide (e90 = 0) then
 (tocum_check a0 (api_Point.mk a1.Name a1.Attrs a1.Kind a1.Temp a1.Mono a1.Start a1.Time a1.Int_ a1.Re a1.Im (api_Hist.mk c80 c81 (api_Side.mk c82 c83) (api_Side.mk c86 c87)) a1.Flags)).bind fun r172 =>
 some r172
 else
 some e90 : Option Int).bind fun e146 =>
 bif (!decide (e146 = 0)) then
 some ((api_State.mk false 0 0 0 0 0 (api_Hist.mk 0 0 (api_Side.mk 0 []) (api_Side.mk 0 []))), (api_Point.mk [] [] 0 0 false 0 0 0 0 0 (api_Hist.mk 0 0 (api_Side.mk 0 []) (api_Side.mk 0 [])) 0), e146)
 else
 (lett ((!a0.Some)) fun t310 =>
 bif t310 then
 some (1, true, a0.Start, a1.Time, a0.Int_, a0.Re, a0.Im, a0.Hist.Scale, a0.Hist.Zero, a0.Hist.Pos.Offset, a0.Hist.Pos.Counts, a0.Hist.Neg.Offset, a0.Hist.Neg.Counts)
 else
 lett (decide (a0.Time < a1.Start)) fun t347 =>
 bif t347 then
 some (8, true, a0.Start, a1.Time, a0.Int_, a0.Re, a0.Im, a0.Hist.Scale, a0.Hist.Zero, a0.Hist.Pos.Offset, a0.Hist.Pos.Counts, a0.Hist.Neg.Offset, a0.Hist.Neg.Counts)
 else
 (tocum_add (api_State.mk true a0.Start a1.Time a0.Int_ a0.Re a0.Im a0.Hist) (api_Point.mk a1.Name a1.Attrs a1.Kind a1.Temp a1.Mono a1.Start a1.Time a1.Int_ a1.Re a1.Im (api_Hist.mk c80 c81 (api_Side.mk c82 c83) (api_Side.mk c86 c87)) a1.Flags) a2).bind fun (r431, r432) =>
 lett ((!r431)) fun t449 =>
 bif t449 then
 some (16, r432.Some, r432.Start, r432.Time, r432.Int_, r432.Re, r432.Im, r432.Hist.Scale, r432.Hist.Zero, r432.Hist.Pos.Offset, r432.Hist.Pos.Counts, r432.Hist.Neg.Offset, r432.Hist.Neg.Counts)
 else
 some (0, r432.Some, r432.Start, r432.Time, r432.Int_, r432.Re, r432.Im, r432.Hist.Scale, r432.Hist.Zero, r432.Hist.Pos.Offset, r432.Hist.Pos.Counts, r432.Hist.Neg.Offset, r432.Hist.Neg.Counts) : Option (Int × Bool × Int × Int × Int × UInt64 × UInt64 × Int × UInt64 × Int × List UInt64 × Int × List UInt64)).bind fun (flags280, c282, c283, c284, c285, c286, c287, c288, c289, c290, c291, c294, c295) =>
 (bif (!decide (flags280 = 0)) then
 some (true, a1.Start, a1.Time, a1.Int_, a1.Re, a1.Im, c80, c81, c82, c83, c86, c87)
 else
 some (c282, c283, c284, c285, c286, c287, c288, c289, c290, c291, c294, c295) : Option (Bool × Int × Int × Int × UInt64 × UInt64 × Int × UInt64 × Int × List UInt64 × Int × List UInt64)).bind fun (c486, c487, c488, c489, c490, c491, c492, c493, c494, c495, c498, c499) =>
 (hist_Clone (api_Hist.mk c492 c493 (api_Side.mk c494 c495) (api_Side.mk c498 c499))).bind fun r521 =>
 (tocum_answer (api_State.mk c486 c487 c488 c489 c490 c491 r521) (api_Point.mk a1.Name a1.Attrs a1.Kind a1.Temp a1.Mono a1.Start a1.Time a1.Int_ a1.Re a1.Im (api_Hist.mk c80 c81 (api_Side.mk c82 c83) (api_Side.mk c86 c87)) a1.Flags) flags280).bind fun r606 =>
 some ((api_State.mk c486 c487 c488 c489 c490 c491 r521), r606, 0)
noncomputable def law16_awake  : Option Bool :=
 (tocum_Next (api_State.mk false 0 0 0 0 0 (api_Hist.mk 0 0 (api_Side.mk 0 []) (api_Side.mk 0 []))) (api_Point.mk [120] [] 1 2 false 0 10 5 0 0 (api_Hist.mk 0 0 (api_Side.mk 0 []) (api_Side.mk 0 [])) 0) 10).bind fun (r19, r20, r21) =>
 (tocum_Next r19 (api_Point.mk [120] [] 1 2 false 10 20 3 0 0 (api_Hist.mk 0 0 (api_Side.mk 0 []) (api_Side.mk 0 [])) 0) 10).bind fun (r124, r125, r126) =>
 (tocum_Next r124 (api_Point.mk [120] [] 1 2 false 25 30 2 0 0 (api_Hist.mk 0 0 (api_Side.mk 0 []) (api_Side.mk 0 [])) 0) 10).bind fun (r219, r220, r221) =>
 lett (((((((((((((decide (r21 = 0)) && (decide (r126 = 0))) && (decide (r221 = 0))) && (decide (r20.Flags = 1))) && (decide (r20.Int_ = 5))) && (decide (r20.Temp = 1))) && (decide (r125.Flags = 0))) && (decide (r125.Int_ = 8))) && (decide (r125.Start = 0))) && (decide (r220.Flags = 8))) && (decide (r220.Int_ = 2))) && (decide (r220.Start = 25)))) fun t376 =>
 some t376
noncomputable def ref16_Together_lp1 (a2 : Int) (r61 : ref09_Pair) : Int → Option (Rnd Int Unit (api_Hist × Bool)) := fun s118 =>
 bif decide ((-10) ≤ s118) then
 (ref08_Down r61.X (w64 (r61.X.Scale - s118))).bind fun (r137, r138) =>
 (ref08_Down r61.Y (w64 (r61.X.Scale - s118))).bind fun (r184, r185) =>
 (ref09_Merge r137 r184).bind fun (r231, r232) =>
 bif decide (r232 = 4) then
 outr (some ((api_Hist.mk 0 0 (api_Side.mk 0 []) (api_Side.mk 0 [])), false))
 else
 bif (((decide (r232 = 0)) && (decide ((r231.Pos.Counts.length : Int) ≤ a2))) && (decide ((r231.Neg.Counts.length : Int) ≤ a2))) then
 outr (some (r231, true))
 else
 lett (w64 (s118 - 1)) fun s309 =>
 some (.next s309)
 else
 some (.brk ())
noncomputable def ref16_Together (a0 : api_Hist) (a1 : api_Hist) (a2 : Int) : Option (api_Hist × Bool) :=
 (ref09_Level a0 a1).bind fun r61 =>
 bif (!decide (r61.E = 0)) then
 some ((api_Hist.mk 0 0 (api_Side.mk 0 []) (api_Side.mk 0 [])), false)
 else
 flow (loop (ref16_Together_lp1 a2 r61) r61.X.Scale) fun (_ : Unit) =>
 some ((api_Hist.mk 0 0 (api_Side.mk 0 []) (api_Side.mk 0 [])), false)
noncomputable def law16_one_lp1 (a0 : List api_Point) : Int → Option (Rnd Int Unit Bool) := fun i23 =>
 bif decide (i23 < (a0.length : Int)) then
 (idx a0 i23).bind fun e47 =>
 (idx a0 0).bind fun e79 =>
 (bif (!decide (e47.Kind = e79.Kind)) then
 some true
 else
 (idx a0 i23).bind fun e127 =>
 (idx a0 0).bind fun e158 =>
 some (!decide (e127.Mono = e158.Mono))).bind fun x113 =>
 bif x113 then
 outr (some false)
 else
 lett (w64 (i23 + 1)) fun i194 =>
 some (.next i194)
 else
 some (.brk ())
noncomputable def law16_one (a0 : List api_Point) : Option Bool :=
 (ref12_Some a0 20).bind fun r12 =>
 bif (!r12) then
 some false
 else
 flow (loop (law16_one_lp1 a0) 0) fun (_ : Unit) =>
 some true
noncomputable def law16_play_k2 (a0 : List api_Point) (in20 : List api_Point) (out23 : List api_Point) (c27 : Bool) (c28 : Int) (c29 : Int) (c30 : Int) (c31 : UInt64) (c32 : UInt64) (c33 : Int) (c34 : UInt64) (c35 : Int) (c36 : List UInt64) (c39 : Int) (c40 : List UInt64) (i43 : Int) : (Bool × Int × Int × Int × UInt64 × UInt64 × Int × UInt64 × Int × List UInt64 × Int × List UInt64 × List UInt8 × List api_Pair × Int × Int × Bool × Int × Int × Int × UInt64 × UInt64 × Int × UInt64 × Int × List UInt64 × Int × List UInt64 × Int × Int) → Option (List api_Point × List api_Point × Bool × Int × Int × Int × UInt64 × UInt64 × Int × UInt64 × Int × List UInt64 × Int × List UInt64) := fun (x140, x141, x142, x143, x144, x145, x146, x147, x148, x149, x152, x153, x156, x157, x160, x161, x162, x163, x164, x165, x166, x167, x168, x169, x170, x171, x174, x175, x178, x179) =>
 bif decide (x179 = 0) then
 (idx a0 i43).bind fun e650 =>
 (app in20 [e650]).bind fun xs688 =>
 (app out23 [(api_Point.mk x156 x157 x160 x161 x162 x163 x164 x165 x166 x167 (api_Hist.mk x168 x169 (api_Side.mk x170 x171) (api_Side.mk x174 x175)) x178)]).bind fun xs715 =>
 some (xs688, xs715, x140, x141, x142, x143, x144, x145, x146, x147, x148, x149, x152, x153)
 else
 some (in20, out23, c27, c28, c29, c30, c31, c32, c33, c34, c35, c36, c39, c40)
noncomputable def law16_play_lp1 (a0 : List api_Point) (a1 : Int) : (List api_Point × List api_Point × Bool × Int × Int × Int × UInt64 × UInt64 × Int × UInt64 × Int × List UInt64 × Int × List UInt64 × Int) → Option (Rnd (List api_Point × List api_Point × Bool × Int × Int × Int × UInt64 × UInt64 × Int × UInt64 × Int × List UInt64 × Int × List UInt64 × Int) (List api_Point × List api_Point) (List api_Point × List api_Point)) := fun (in20, out23, c27, c28, c29, c30, c31, c32, c33, c34, c35, c36, c39, c40, i43) =>
 bif decide (i43 < (a0.length : Int)) then
 ((idx a0 i43).bind fun e107 =>
 (tocum_Next (api_State.mk c27 c28 c29 c30 c31 c32 (api_Hist.mk c33 c34 (api_Side.mk c35 c36) (api_Side.mk c39 c40))) e107 a1).bind fun (r188, r189, r190) =>
 law16_play_k2 a0 in20 out23 c27 c28 c29 c30 c31 c32 c33 c34 c35 c36 c39 c40 i43 (r188.Some, r188.Start, r188.Time, r188.Int_, r188.Re, r188.Im, r188.Hist.Scale, r188.Hist.Zero, r188.Hist.Pos.Offset, r188.Hist.Pos.Counts, r188.Hist.Neg.Offset, r188.Hist.Neg.Counts, r189.Name, r189.Attrs, r189.Kind, r189.Temp, r189.Mono, r189.Start, r189.Time, r189.Int_, r189.Re, r189.Im, r189.Hist.Scale, r189.Hist.Zero, r189.Hist.Pos.Offset, r189.Hist.Pos.Counts, r189.Hist.Neg.Offset, r189.Hist.Neg.Counts, r189.Flags, r190) : Option (List api_Point × List api_Point × Bool × Int × Int × Int × UInt64 × UInt64 × Int × UInt64 × Int × List UInt64 × Int × List UInt64)).bind fun (in66, out69, c73, c74, c75, c76, c77, c78, c79, c80, c81, c82, c85, c86) =>
 lett (w64 (i43 + 1)) fun i810 =>
 some (.next (in66, out69, c73, c74, c75, c76, c77, c78, c79, c80, c81, c82, c85, c86, i810))
 else
 some (.brk (in20, out23))
noncomputable def law16_play (a0 : List api_Point) (a1 : Int) : Option (List api_Point × List api_Point) :=
 flow (loop (law16_play_lp1 a0 a1) ([], [], false, 0, 0, 0, 0, 0, 0, 0, 0, [], 0, [], 0)) fun (in47, out50) =>
 some (in47, out50)
noncomputable def law16_TocumSums_lp2 (a0 : List api_Point) (r83 : List api_Point) (r84 : List api_Point) (i100 : Int) : (Int × Int × UInt64 × Int × List UInt64 × Int × List UInt64 × Int) → Option (Rnd (Int × Int × UInt64 × Int × List UInt64 × Int × List UInt64 × Int) (Int × Int × UInt64 × Int × List UInt64 × Int × List UInt64) (Flow (Int × Int × UInt64 × Int × List UInt64 × Int × List UInt64) (Flow Int (Rnd (Int × Int) Unit Bool)))) := fun (sum186, c188, c189, c190, c191, c194, c195, k198) =>
 bif decide (k198 ≤ i100) then
 flow ((idx a0 0).bind fun e241 =>
 bif decide (e241.Kind = 1) then
 (idx r83 k198).bind fun e265 =>
 (ref15_Wide sum186 e265.Int_ false).bind fun r287 =>
 bif r287 then
 outs (outr (outs (outs (outr (some false)))))
 else
 (idx r83 k198).bind fun e298 =>
 lett (w64 (sum186 + e298.Int_)) fun sum317 =>
 some (.go (sum317, c188, c189, c190, c191, c194, c195))
 else
 (idx r83 k198).bind fun e329 =>
 (idx r83 k198).bind fun e368 =>
 (idx r84 i100).bind fun e405 =>
 ((hist_Down e329.Hist (w64 (e368.Hist.Scale - e405.Hist.Scale))).bind fun (r462, r463) =>
 some (r462.Scale, r462.Zero, r462.Pos.Offset, r462.Pos.Counts, r462.Neg.Offset, r462.Neg.Counts, r463)).bind fun (x445, x446, x447, x448, x451, x452, x455) =>
 bif (!decide (x455 = 0)) then
 outs (outr (outs (outs (outr (some false)))))
 else
 (fold_Merge (api_Hist.mk c188 c189 (api_Side.mk c190 c191) (api_Side.mk c194 c195)) (api_Hist.mk x445 x446 (api_Side.mk x447 x448) (api_Side.mk x451 x452))).bind fun (r564, r565) =>
 bif (!decide (r565 = 0)) then
 outs (outr (outs (outs (outr (some false)))))
 else
 some (.go (sum186, r564.Scale, r564.Zero, r564.Pos.Offset, r564.Pos.Counts, r564.Neg.Offset, r564.Neg.Counts)) : Option (Flow (Int × Int × UInt64 × Int × List UInt64 × Int × List UInt64) (Rnd (Int × Int × UInt64 × Int × List UInt64 × Int × List UInt64 × Int) (Int × Int × UInt64 × Int × List UInt64 × Int × List UInt64) (Flow (Int × Int × UInt64 × Int × List UInt64 × Int × List UInt64) (Flow Int (Rnd (Int × Int) Unit Bool)))))) fun (sum224, c226, c227, c228, c229, c232, c233) =>
 lett (w64 (k198 + 1)) fun k596 =>
 some (.next (sum224, c226, c227, c228, c229, c232, c233, k596))
 else
 some (.brk (sum186, c188, c189, c190, c191, c194, c195))
noncomputable def law16_TocumSums_lp1 (a0 : List api_Point) (r83 : List api_Point) (r84 : List api_Point) : (Int × Int) → Option (Rnd (Int × Int) Unit Bool) := fun (first99, i100) =>
 bif decide (i100 < (r84.length : Int)) then
 flow (((idx r84 i100).bind fun e124 =>
 bif (!decide (e124.Flags = 0)) then
 some i100
 else
 some first99 : Option Int).bind fun first121 =>
 (idx r84 i100).bind fun e143 =>
 flow (flow (loop (law16_TocumSums_lp2 a0 r83 r84 i100) (0, e143.Hist.Scale, 0, 0, [], 0, [], first121)) fun (sum202, c204, c205, c206, c207, c210, c211) =>
 some (.go (sum202, c204, c205, c206, c207, c210, c211)) : Option (Flow (Int × Int × UInt64 × Int × List UInt64 × Int × List UInt64) (Flow Int (Rnd (Int × Int) Unit Bool)))) fun (sum169, c171, c172, c173, c174, c177, c178) =>
 (idx r84 i100).bind fun e608 =>
 (bif (!decide (sum169 = e608.Int_)) then
 some true
 else
 (idx a0 0).bind fun e660 =>
 (bif decide (e660.Kind = 4) then
 (idx r84 i100).bind fun e719 =>
 (ref08_Same (api_Hist.mk c171 c172 (api_Side.mk c173 c174) (api_Side.mk c177 c178)) e719.Hist).bind fun r749 =>
 some (!r749)
 else
 some false).bind fun x700 =>
 some x700).bind fun x646 =>
 bif x646 then
 outs (outr (some false))
 else
 some (.go first121) : Option (Flow Int (Rnd (Int × Int) Unit Bool))) fun first115 =>
 lett (w64 (i100 + 1)) fun i772 =>
 some (.next (first115, i772))
 else
 some (.brk ())
noncomputable def law16_TocumSums (a0 : List api_Point) (a1 : Int) : Option Bool :=
 (law16_awake).bind fun r12 =>
 bif (!r12) then
 some false
 else
 (law16_one a0).bind fun r24 =>
 (bif ((!r24) || (decide ((a0.length : Int) = 0))) then
 some true
 else
 (idx a0 0).bind fun e39 =>
 (bif (!decide (e39.Kind = 1)) then
 (idx a0 0).bind fun e62 =>
 some (!decide (e62.Kind = 4))
 else
 some false : Option Bool).bind fun x58 =>
 some x58 : Option Bool).bind fun x35 =>
 bif x35 then
 some true
 else
 (law16_play a0 a1).bind fun (r83, r84) =>
 flow (loop (law16_TocumSums_lp1 a0 r83 r84) (0, 0)) fun (_ : Unit) =>
 some true
def rep_api_Pair : Rep api_Pair := Rep.via (Rep.pair Rep.s Rep.s) fun d => (d.Key, d.Val)
theorem flat_api_Pair : Flat rep_api_Pair := Flat.via (Flat.pair Flat.s Flat.s) _
def rep_api_Point : Rep api_Point := Rep.via (Rep.pair Rep.s (Rep.pair (Rep.sl rep_api_Pair) (Rep.pair Rep.i (Rep.pair Rep.i (Rep.pair Rep.B (Rep.pair Rep.i (Rep.pair Rep.i (Rep.pair Rep.i (Rep.pair Rep.u (Rep.pair Rep.u (Rep.pair rep_api_Hist Rep.i))))))))))) fun d => (d.Name, d.Attrs, d.Kind, d.Temp, d.Mono, d.Start, d.Time, d.Int_, d.Re, d.Im, d.Hist, d.Flags)
end Go.Lg
namespace Go.Lg
attribute [local irreducible] w64 toU64 toU8 shlU shrU shlB shrB
/-! ### a loop that looks at one after the other -/
def firstE {ρ : Type} (e : Nat → Option ρ) : Nat → Nat → Option ρ
  | 0, _ => none
  | m + 1, i => match e i with
    | some r => some r
    | none => firstE e m (i + 1)
def rndE {ρ : Type} (i : Nat) : Option ρ → Rnd Int Unit ρ
  | some r => .out r
  | none => .next ((i + 1 : Nat) : Int)
def flowE {ρ : Type} : Option ρ → Flow Unit ρ
  | some r => .out r
  | none => .go ()
theorem scan_loop {ρ : Type} {f : Int → Option (Rnd Int Unit ρ)} {n : Nat} (e : Nat → Option ρ) (hs : ∀ i : Nat, i < n → f (i : Int) = some (rndE i (e i))) (he : f (n : Int) = some (.brk ())) : ∀ m i : Nat, i + m = n → loop f (i : Int) = some (flowE (firstE e m i))
  | 0, i, h => by
    have : i = n := by omega
    subst this
    rw [loop_brk he]; rfl
  | m + 1, i, h => by
    have h1 := hs i (by omega)
    unfold firstE
    cases hc : e i with
    | some r => rw [hc] at h1; rw [loop_out h1]; rfl
    | none => rw [hc] at h1; rw [loop_next h1]; exact scan_loop e hs he m (i + 1) (by omega)
theorem scan0 {ρ : Type} {f : Int → Option (Rnd Int Unit ρ)} {n : Nat} (e : Nat → Option ρ) (hs : ∀ i : Nat, i < n → f (i : Int) = some (rndE i (e i))) (he : f (n : Int) = some (.brk ())) : loop f 0 = some (flowE (firstE e n 0)) :=
  scan_loop e hs he n 0 (by omega)
theorem firstE_none {ρ : Type} {e : Nat → Option ρ} : ∀ m i, firstE e m i = none ↔ ∀ j, i ≤ j → j < i + m → e j = none
  | 0, i => ⟨fun _ j h1 h2 => by omega, fun _ => rfl⟩
  | m + 1, i => by
    unfold firstE
    cases hc : e i with
    | some r =>
      refine ⟨fun h => by simp at h, fun h => ?_⟩
      rw [h i (Nat.le_refl _) (by omega)] at hc; cases hc
    | none =>
      rw [show (match (none : Option ρ) with | some r => some r | none => firstE e m (i + 1)) = firstE e m (i + 1) from rfl, firstE_none m (i + 1)]
      constructor
      · intro h j h1 h2
        by_cases e1 : j = i
        · subst e1; exact hc
        · exact h j (by omega) (by omega)
      · intro h j h1 h2
        exact h j (by omega) (by omega)
def orE {ρ : Type} (o : Option ρ) (d : Option ρ) : Option ρ := match o with
  | some r => some r
  | none => d
theorem flow_E {ρ : Type} (o : Option ρ) (F : Unit → Option ρ) : flow (some (flowE o)) F = orE o (F ()) := by cases o <;> rfl
/-! ### a name, a value -/
def low (c : UInt8) : Bool := decide (97 ≤ c) && decide (c ≤ 122)
def oth (c : UInt8) : Bool := ((decide (48 ≤ c) && decide (c ≤ 57)) || decide (c = 95)) || decide (c = 46)
def bad (c : UInt8) : Bool := (((decide (c ≤ 32) || decide (127 ≤ c)) || decide (c = 61)) || decide (c = 59)) || decide (c = 44)
def nameOk (l : List UInt8) : Bool := decide (0 < l.length) && decide (l.length ≤ 32) && low (l.getD 0 0) && l.all fun c => low c || oth c
def valueOk (l : List UInt8) : Bool := decide (0 < l.length) && decide (l.length ≤ 32) && l.all fun c => !bad c
theorem all_first {α : Type} {l : List α} {p : α → Bool} {e : Nat → Option Bool} (h : ∀ i (hi : i < l.length), e i = if p l[i] then none else some false) : orE (firstE e l.length 0) (some true) = some (l.all p) := by
  by_cases ha : l.all p = true
  · have : firstE e l.length 0 = none := (firstE_none _ _).2 fun j _ hj => by
      have hj' : j < l.length := by omega
      rw [h j hj', if_pos (List.all_eq_true.1 ha _ (List.getElem_mem hj'))]
    rw [this, ha]; rfl
  · have h2 : firstE e l.length 0 ≠ none := fun hn => ha (List.all_eq_true.2 fun c hc => by
      obtain ⟨j, hj, rfl⟩ := List.getElem_of_mem hc
      have := (firstE_none _ _).1 hn j (by omega) (by omega)
      rw [h j hj] at this
      by_cases hp : p l[j] = true
      · exact hp
      · rw [if_neg hp] at this; cases this)
    have h3 : ∀ m i, i + m ≤ l.length → firstE e m i = none ∨ firstE e m i = some false := by
      intro m
      induction m with
      | zero => intro i _; exact .inl rfl
      | succ m ih =>
        intro i hi
        unfold firstE
        rw [h i (by omega)]
        by_cases hp : p (l[i]'(by omega)) = true
        · rw [if_pos hp]; exact ih (i + 1) (by omega)
        · rw [if_neg hp]; exact .inr rfl
    rcases h3 l.length 0 (by omega) with h4 | h4
    · exact absurd h4 h2
    · rw [h4]; simp at ha; simp [orE, ha]
theorem isName_eq (l : List UInt8) : label_isName l = some (nameOk l) := by
  unfold label_isName nameOk
  by_cases h : l.length = 0 ∨ 32 < l.length
  · rw [bifT (by
      rw [Bool.or_eq_true, decide_eq_true_eq, decide_eq_true_eq]
      rcases h with h | h
      · exact .inl (List.eq_nil_of_length_eq_zero h)
      · exact .inr (by omega)), bind_some, cond_true]
    rcases h with h | h
    · rw [decide_eq_false (p := 0 < l.length) (by omega)]; rfl
    · rw [decide_eq_false (p := l.length ≤ 32) (by omega), Bool.and_false]; rfl
  · have h0 : 0 < l.length := by omega
    rw [bifF (by
      rw [Bool.or_eq_false_iff, decide_eq_false_iff_not, decide_eq_false_iff_not]
      exact ⟨fun e => by rw [e] at h0; simp at h0, by omega⟩), idx_0 h0, bind_some]
    unfold label_small
    rw [lett_eq, bind_some, bind_some, decide_eq_true h0, decide_eq_true (p := l.length ≤ 32) (by omega), getD_lt h0]
    change (bif !low l[0] then _ else _) = _
    cases hl : low l[0] with
    | false => simp
    | true =>
      rw [Bool.not_true, cond_false, scan0 (n := l.length) (fun i => if (low (l.getD i 0) || oth (l.getD i 0)) = true then none else some false), flow_E, all_first (p := fun c => low c || oth c)]
      · simp
      · intro i hi; rw [getD_lt hi]
      · intro i hi
        unfold label_isName_lp1 label_small
        rw [bifTd (by omega), idx_nat hi, bind_some, lett_eq, bind_some, getD_lt hi]
        generalize l[i] = c
        have e : ((((!(decide (97 ≤ c) && decide (c ≤ 122))) && ((decide (c < 48)) || (decide (57 < c)))) && (!decide (c = 95))) && (!decide (c = 46))) = !(low c || oth c) := by
          unfold low oth
          have e1 : decide (c < 48) = !decide (48 ≤ c) := by simp [UInt8.lt_iff_toNat_lt, UInt8.le_iff_toNat_le, ← decide_not]
          have e2 : decide (57 < c) = !decide (c ≤ 57) := by simp [UInt8.lt_iff_toNat_lt, UInt8.le_iff_toNat_le, ← decide_not]
          rw [e1, e2]
          cases decide (97 ≤ c) <;> cases decide (c ≤ 122) <;> cases decide (48 ≤ c) <;> cases decide (c ≤ 57) <;> cases decide (c = 95) <;> cases decide (c = 46) <;> rfl
        rw [e]
        cases (low c || oth c)
        · rfl
        · rw [Bool.not_true, cond_false, w64_succ (by omega), if_pos rfl]; rfl
      · unfold label_isName_lp1
        rw [bifFd (by omega)]
theorem isValue_eq (l : List UInt8) : label_isValue l = some (valueOk l) := by
  unfold label_isValue valueOk
  by_cases h : l.length = 0 ∨ 32 < l.length
  · rw [bifT (by
      rw [Bool.or_eq_true, decide_eq_true_eq, decide_eq_true_eq]
      rcases h with h | h
      · exact .inl (List.eq_nil_of_length_eq_zero h)
      · exact .inr (by omega))]
    rcases h with h | h
    · rw [decide_eq_false (p := 0 < l.length) (by omega)]; rfl
    · rw [decide_eq_false (p := l.length ≤ 32) (by omega), Bool.and_false]; rfl
  · have h0 : 0 < l.length := by omega
    rw [bifF (by
      rw [Bool.or_eq_false_iff, decide_eq_false_iff_not, decide_eq_false_iff_not]
      exact ⟨fun e => by rw [e] at h0; simp at h0, by omega⟩), decide_eq_true h0, decide_eq_true (p := l.length ≤ 32) (by omega),
      scan0 (n := l.length) (fun i => if (!bad (l.getD i 0)) = true then none else some false), flow_E, all_first (p := fun c => !bad c)]
    · simp
    · intro i hi; rw [getD_lt hi]
    · intro i hi
      unfold label_isValue_lp1
      rw [bifTd (by omega), idx_nat hi, bind_some, getD_lt hi]
      generalize l[i] = c
      have e : (lett (decide (c < 33)) fun t44 =>
 bif t44 then
 some t44
 else
 lett (decide (126 < c)) fun t46 =>
 bif t46 then
 some t46
 else
 lett (decide (c = 61)) fun t48 =>
 bif t48 then
 some t48
 else
 lett (decide (c = 59)) fun t50 =>
 bif t50 then
 some t50
 else
 lett (decide (c = 44)) fun t52 =>
 some t52 : Option Bool) = some (bad c) := by
        unfold bad
        have e1 : decide (c < 33) = decide (c ≤ 32) := by rw [decide_eq_decide, UInt8.lt_iff_toNat_lt, UInt8.le_iff_toNat_le]; exact Nat.lt_succ_iff
        have e2 : decide (126 < c) = decide (127 ≤ c) := by rw [decide_eq_decide, UInt8.lt_iff_toNat_lt, UInt8.le_iff_toNat_le]; exact Iff.rfl
        rw [lett_eq, lett_eq, lett_eq, lett_eq, lett_eq, e1, e2]
        cases decide (c ≤ 32) <;> cases decide (127 ≤ c) <;> cases decide (c = 61) <;> cases decide (c = 59) <;> cases decide (c = 44) <;> rfl
      rw [e, bind_some]
      cases bad c
      · rw [cond_false, flow_go, w64_succ (by omega)]; rfl
      · rfl
    · unfold label_isValue_lp1
      rw [bifFd (by omega)]
end Go.Lg
namespace Go.Lg
attribute [local irreducible] w64 toU64 toU8 shlU shrU shlB shrB
def P0 : api_Pair := ⟨[], []⟩
def dupB (l : List api_Pair) (i : Nat) : Bool := decide (∃ k, k < i ∧ (l.getD k P0).Key = (l.getD i P0).Key)
/-- what is wrong with the i-th attribute -/
def pairE (l : List api_Pair) (i : Nat) : Option Int :=
  if (nameOk (l.getD i P0).Key && valueOk (l.getD i P0).Val) = true then (if dupB l i = true then some 8 else none) else some 3
def labelE (n : List UInt8) (l : List api_Pair) : Int :=
  if nameOk n = false then 3 else if 4 < l.length then 4 else (firstE (pairE l) l.length 0).getD 0
theorem getD_take {α : Type} (l : List α) {k i : Nat} (d : α) (h : k < i) : (l.take i).getD k d = l.getD k d := by
  simp only [List.getD_eq_getElem?_getD, List.getElem?_take, if_pos h]
theorem first_ex {ρ : Type} {e : Nat → Option ρ} : ∀ m i, firstE e m i ≠ none → ∃ j, i ≤ j ∧ j < i + m ∧ firstE e m i = e j ∧ e j ≠ none
  | 0, i, h => absurd rfl h
  | m + 1, i, h => by
    unfold firstE at *
    cases hc : e i with
    | some r => exact ⟨i, Nat.le_refl _, by omega, by rw [hc], by rw [hc]; simp⟩
    | none =>
      rw [hc] at h
      obtain ⟨j, h1, h2, h3, h4⟩ := first_ex m (i + 1) h
      exact ⟨j, by omega, by omega, h3, h4⟩
theorem dup_lp {e40 : api_Pair} {t : List api_Pair} (ht : t.length ≤ 1000) :
    ((flow (loop (label_Check_lp2 e40 t) 0) fun (_ : Unit) => some (-1) : Option Int).bind fun x103 =>
 lett (decide (0 ≤ x103)) fun t153 => some t153) = some (decide (∃ k, k < t.length ∧ (t.getD k P0).Key = e40.Key)) := by
  have hs : ∀ i : Nat, i < t.length → label_Check_lp2 e40 t (i : Int) = some (rndE i (if (t.getD i P0).Key = e40.Key then some (i : Int) else none)) := by
    intro i hi
    unfold label_Check_lp2
    rw [bifTd (by omega), idx_nat hi, bind_some, lett_eq, bind_some, getD_lt hi]
    by_cases h : t[i].Key = e40.Key
    · rw [bifTd h, if_pos h]; rfl
    · rw [bifFd h, if_neg h, w64_succ (by omega)]; rfl
  rw [scan0 (n := t.length) _ hs (by unfold label_Check_lp2; rw [bifFd (by omega)]), flow_E]
  by_cases hc : firstE (fun i => if (t.getD i P0).Key = e40.Key then some (i : Int) else none) t.length 0 = none
  · rw [hc]
    unfold orE
    dsimp only
    rw [bind_some, lett_eq, decide_eq_false (p := (0 : Int) ≤ -1) (by omega), decide_eq_false]
    rintro ⟨k, hk, he⟩
    have := (firstE_none _ _).1 hc k (by omega) (by omega)
    rw [if_pos he] at this; cases this
  · obtain ⟨j, h1, h2, h3, h4⟩ := first_ex _ _ hc
    rw [h3]
    by_cases hk : (t.getD j P0).Key = e40.Key
    · rw [if_pos hk]
      unfold orE
      dsimp only
      rw [bind_some, lett_eq, decide_eq_true (p := (0 : Int) ≤ (j : Int)) (by omega), decide_eq_true ⟨j, by omega, hk⟩]
    · rw [if_neg hk] at h4; exact absurd rfl h4
theorem label_eq (n : List UInt8) (l : List api_Pair) : label_Check n l = some (labelE n l) := by
  unfold label_Check labelE
  rw [isName_eq, bind_some]
  cases hn : nameOk n with
  | false => rfl
  | true =>
    rw [Bool.not_true, cond_false, if_neg (by simp)]
    by_cases h4 : 4 < l.length
    · rw [bifTd (by omega), if_pos h4]
    · rw [bifFd (by omega), if_neg h4]
      have hs : ∀ i : Nat, i < l.length → label_Check_lp1 l (i : Int) = some (rndE i (pairE l i)) := by
        intro i hi
        have htl : (l.take i).length = i := by rw [List.length_take]; omega
        unfold label_Check_lp1 pairE
        rw [bifTd (by omega), idx_nat hi, bind_some, isName_eq, bind_some, isValue_eq, bind_some, getD_lt hi]
        have e1 : (bif (!nameOk l[i].Key) then some true else some (!valueOk l[i].Val) : Option Bool) = some (!(nameOk l[i].Key && valueOk l[i].Val)) := by cases nameOk l[i].Key <;> rfl
        rw [e1, bind_some]
        cases hp : (nameOk l[i].Key && valueOk l[i].Val) with
        | false => rfl
        | true =>
          have hsl : slc l 0 (i : Int) = some (l.take i) := by rw [show (0 : Int) = ((0 : Nat) : Int) from rfl, slc_nat (by omega) (by omega), List.drop_zero]
          rw [Bool.not_true, cond_false, hsl, bind_some, dup_lp (by omega), bind_some, if_pos rfl]
          have e2 : decide (∃ k, k < (l.take i).length ∧ ((l.take i).getD k P0).Key = l[i].Key) = dupB l i := by
            unfold dupB
            rw [decide_eq_decide, htl]
            constructor
            · rintro ⟨k, h1, h2⟩; exact ⟨k, h1, by rw [getD_take l P0 h1] at h2; rw [h2, getD_lt hi]⟩
            · rintro ⟨k, h1, h2⟩; exact ⟨k, h1, by rw [getD_take l P0 h1]; rw [h2, getD_lt hi]⟩
          rw [e2]
          cases dupB l i
          · rw [cond_false, w64_succ (by omega)]; rfl
          · rfl
      rw [scan0 (n := l.length) _ hs (by unfold label_Check_lp1; rw [bifFd (by omega)]), flow_E]
      cases firstE (pairE l) l.length 0 <;> rfl
end Go.Lg
namespace Go.Lg
attribute [local irreducible] w64 toU64 toU8 shlU shrU shlB shrB
theorem bare_eq {h : api_Hist} (hp : h.Pos.Counts.length ≤ 1000000) (hn : h.Neg.Counts.length ≤ 1000000) : point_bare h = some (decide (h = H0)) := by
  unfold point_bare
  rw [lett_eq, w64_id (by omega) (by omega)]
  congr 1
  rw [Bool.eq_iff_iff]
  simp only [Bool.and_eq_true, decide_eq_true_eq]
  constructor
  · rintro ⟨⟨⟨⟨h1, h2⟩, h3⟩, h4⟩, h5⟩
    obtain ⟨sc, z, ⟨po, pc⟩, ⟨no, nc⟩⟩ := h
    dsimp only at *
    have e1 : pc = [] := List.eq_nil_of_length_eq_zero (by omega)
    have e2 : nc = [] := List.eq_nil_of_length_eq_zero (by omega)
    subst h1 h2 h3 h4 e1 e2; rfl
  · rintro rfl; exact ⟨⟨⟨⟨rfl, rfl⟩, rfl⟩, rfl⟩, rfl⟩
end Go.Lg
namespace Go.Lg
attribute [local irreducible] w64 toU64 toU8 shlU shrU shlB shrB
abbrev KindP (p : api_Point) : Prop := (p.Kind = 3 ∧ p.Temp = 0) ∨ ((p.Kind = 1 ∨ p.Kind = 2 ∨ p.Kind = 4 ∨ p.Kind = 5) ∧ (p.Temp = 1 ∨ p.Temp = 2))
abbrev TimeP (p : api_Point) : Prop := (0 ≤ p.Start ∧ p.Time ≤ 4503599627370496) ∧ ((p.Kind = 3 ∧ p.Start = p.Time) ∨ (p.Kind ≠ 3 ∧ p.Start < p.Time))
abbrev OwnP (p : api_Point) : Prop := (p.Kind = 1 ∨ p.Int_ = 0) ∧ ((p.Kind = 2 ∨ p.Kind = 3 ∨ p.Kind = 5) ∨ p.Re = 0) ∧ (p.Kind = 5 ∨ p.Im = 0) ∧ (p.Kind = 4 ∨ p.Hist = H0) ∧ (0 ≤ p.Flags ∧ p.Flags ≤ 31)
def finB (a : UInt64) : Bool := decide (fE a.toNat ≠ 2047)
/-- what is wrong with a point first -/
def chkE (p : api_Point) : Int :=
  if labelE p.Name p.Attrs ≠ 0 then labelE p.Name p.Attrs
  else if ¬ KindP p then 14
  else if (p.Mono = true ∧ ¬ (p.Kind = 1 ∨ p.Kind = 2)) ∨ ¬ TimeP p then 1
  else if ¬ OwnP p then 3
  else if (p.Mono = true ∧ p.Kind = 2) ∧ finB p.Re = false then 11
  else if p.Mono = true ∧ (p.Int_ < 0 ∨ fLess p.Re 0 = true) then 1
  else if p.Kind = 4 then histE p.Hist else 0
structure OkP (p : api_Point) : Prop where
  h : OkH p.Hist
theorem kinds_eq (p : api_Point) : point_kinds p = some (decide (KindP p)) := by
  unfold point_kinds KindP
  simp only [lett_eq]
  by_cases h3 : p.Kind = 3
  · simp [h3]
  · by_cases h1 : p.Kind = 1
    · simp [h1]
    · by_cases h2 : p.Kind = 2
      · simp [h2]
      · by_cases h4 : p.Kind = 4
        · simp [h4]
        · by_cases h5 : p.Kind = 5
          · simp [h5]
          · simp [h1, h2, h3, h4, h5]
theorem times_eq (p : api_Point) : point_times p = some (decide (TimeP p)) := by
  unfold point_times TimeP
  simp only [lett_eq]
  by_cases h : p.Start < 0 ∨ 4503599627370496 < p.Time
  · rw [bifT (by simpa using h), decide_eq_false (by omega)]
  · rw [bifF (by simpa using h)]
    by_cases h3 : p.Kind = 3
    · rw [bifTd h3]; congr 1; rw [decide_eq_decide]; omega
    · rw [bifFd h3]; congr 1; rw [decide_eq_decide]; omega
theorem own_eq {p : api_Point} (o : OkH p.Hist) : point_own p = some (decide (OwnP p)) := by
  unfold point_own OwnP
  simp only [lett_eq]
  rw [bare_eq o.pl o.nl, bind_some]
  by_cases h1 : p.Kind = 1 ∨ p.Int_ = 0
  · rw [bifF (by rcases h1 with h | h <;> simp [h])]
    by_cases h2 : (p.Kind = 2 ∨ p.Kind = 3 ∨ p.Kind = 5) ∨ p.Re = 0
    · rw [bifF (by rcases h2 with (h | h | h) | h <;> simp [h])]
      by_cases h3 : p.Kind = 5 ∨ p.Im = 0
      · rw [bifF (by rcases h3 with h | h <;> simp [h])]
        by_cases h4 : p.Kind = 4 ∨ p.Hist = H0
        · have e : (bif (!decide (p.Kind = 4)) then some (!decide (p.Hist = H0)) else some false : Option Bool) = some false := by
            rcases h4 with h | h
            · rw [bifF (by rw [decide_eq_true h]; rfl)]
            · rw [decide_eq_true h]; cases (!decide (p.Kind = 4)) <;> rfl
          rw [e, bind_some, cond_false]
          by_cases h5 : p.Flags < 0 ∨ 31 < p.Flags
          · rw [bifT (by simpa using h5), decide_eq_false (by omega)]
          · rw [bifF (by simpa using h5), decide_eq_true]; exact ⟨h1, h2, h3, h4, by omega⟩
        · have e : (bif (!decide (p.Kind = 4)) then some (!decide (p.Hist = H0)) else some false : Option Bool) = some true := by
            rw [bifT (by rw [decide_eq_false (fun h => h4 (.inl h))]; rfl), decide_eq_false (fun h => h4 (.inr h))]; rfl
          rw [e, bind_some, cond_true, cond_true, decide_eq_false (fun h => h4 h.2.2.2.1)]
      · have e : ((!decide (p.Kind = 5)) && (!decide (p.Im = 0))) = true := by rw [decide_eq_false (fun h => h3 (.inl h)), decide_eq_false (fun h => h3 (.inr h))]; rfl
        rw [e, cond_true, cond_true, decide_eq_false (fun h => h3 h.2.2.1)]
    · have e : ((!(((decide (p.Kind = 2)) || (decide (p.Kind = 3))) || (decide (p.Kind = 5)))) && (!decide (p.Re = 0))) = true := by
        rw [decide_eq_false (fun h => h2 (.inl (.inl h))), decide_eq_false (fun h => h2 (.inl (.inr (.inl h)))), decide_eq_false (fun h => h2 (.inl (.inr (.inr h)))), decide_eq_false (fun h => h2 (.inr h))]; rfl
      rw [e, cond_true, cond_true, decide_eq_false (fun h => h2 h.2.1)]
  · have e : ((!decide (p.Kind = 1)) && (!decide (p.Int_ = 0))) = true := by rw [decide_eq_false (fun h => h1 (.inl h)), decide_eq_false (fun h => h1 (.inr h))]; rfl
    rw [e, cond_true, cond_true, decide_eq_false (fun h => h1 h.1)]
theorem less_00 : fLess 0 0 = false := by decide +kernel
theorem chk_eq {p : api_Point} (o : OkH p.Hist) : point_Check p = some (chkE p) := by
  unfold point_Check chkE
  rw [label_eq, bind_some]
  by_cases h1 : labelE p.Name p.Attrs = 0
  · rw [bifF (by rw [decide_eq_true h1]; rfl), if_neg (by simpa using h1), kinds_eq, bind_some, lett_eq]
    by_cases h2 : KindP p
    · rw [bifF (by rw [decide_eq_true h2]; rfl), if_neg (fun h => h h2)]
      have e1 : (((bif p.Mono then (point_sum p).bind fun r78 => some (!r78) else some false : Option Bool).bind fun x68 =>
 bif x68 then
 some x68
 else
 (point_times p).bind fun r95 =>
 lett ((!r95)) fun t104 =>
 some t104) : Option Bool) = some (decide ((p.Mono = true ∧ ¬ (p.Kind = 1 ∨ p.Kind = 2)) ∨ ¬ TimeP p)) := by
        unfold point_sum
        rw [times_eq, bind_some, lett_eq, lett_eq, bind_some]
        have fin : (!decide (TimeP p)) = decide ((p.Mono = true ∧ ¬ (p.Kind = 1 ∨ p.Kind = 2)) ∨ ¬ TimeP p) ∨ (p.Mono = true ∧ ¬ (p.Kind = 1 ∨ p.Kind = 2)) := by
          by_cases hb : p.Mono = true ∧ ¬ (p.Kind = 1 ∨ p.Kind = 2)
          · exact .inr hb
          · refine .inl ?_
            by_cases hT : TimeP p
            · rw [decide_eq_true hT, decide_eq_false (fun h => h.elim hb (fun h => h hT))]; rfl
            · rw [decide_eq_false hT, decide_eq_true (.inr hT)]; rfl
        rcases fin with hf | hf
        · rw [← hf]
          cases hm : p.Mono with
          | false => rfl
          | true =>
            rw [cond_true, bind_some]
            by_cases hk : p.Kind = 1 ∨ p.Kind = 2
            · rw [bifF (by rcases hk with h | h <;> simp [h])]
            · rw [hf, decide_eq_true (p := (p.Mono = true ∧ ¬ (p.Kind = 1 ∨ p.Kind = 2)) ∨ ¬ TimeP p) (.inl ⟨hm, hk⟩), decide_eq_false (p := p.Kind = 1) (fun h => hk (.inl h)), decide_eq_false (p := p.Kind = 2) (fun h => hk (.inr h))]; rfl
        · rw [decide_eq_true (p := (p.Mono = true ∧ ¬ (p.Kind = 1 ∨ p.Kind = 2)) ∨ ¬ TimeP p) (.inl hf), hf.1, cond_true, bind_some, decide_eq_false (p := p.Kind = 1) (fun h => hf.2 (.inl h)), decide_eq_false (p := p.Kind = 2) (fun h => hf.2 (.inr h))]; rfl
      rw [e1, bind_some]
      by_cases h3 : (p.Mono = true ∧ ¬ (p.Kind = 1 ∨ p.Kind = 2)) ∨ ¬ TimeP p
      · rw [bifTd h3, if_pos h3]
      · rw [bifFd h3, if_neg h3, own_eq o, bind_some, lett_eq]
        by_cases h4 : OwnP p
        · rw [bifF (by rw [decide_eq_true h4]; rfl), if_neg (fun h => h h4), numFinite_eq, bind_some]
          have e2 : (bif (p.Mono && (decide (p.Kind = 2))) then some (!decide (fE p.Re.toNat ≠ 2047)) else some false : Option Bool) = some (decide ((p.Mono = true ∧ p.Kind = 2) ∧ finB p.Re = false)) := by
            unfold finB
            cases p.Mono <;> by_cases hk : p.Kind = 2 <;> by_cases hf : fE p.Re.toNat = 2047 <;> simp [hk, hf]
          rw [e2, bind_some]
          by_cases h5 : (p.Mono = true ∧ p.Kind = 2) ∧ finB p.Re = false
          · rw [bifTd h5, if_pos h5]
          · rw [bifFd h5, if_neg h5]
            unfold num_Less
            have e3 : (bif p.Mono then (bif decide (p.Int_ < 0) then some true else (some (fLess p.Re 0)).bind fun r162 => some r162 : Option Bool).bind fun x155 => some x155 else some false : Option Bool) = some (decide (p.Mono = true ∧ (p.Int_ < 0 ∨ fLess p.Re 0 = true))) := by
              cases p.Mono <;> by_cases hk : p.Int_ < 0 <;> cases fLess p.Re 0 <;> simp [hk]
            rw [e3, bind_some]
            by_cases h6 : p.Mono = true ∧ (p.Int_ < 0 ∨ fLess p.Re 0 = true)
            · rw [bifTd h6, if_pos h6]
            · rw [bifFd h6, if_neg h6, lett_eq]
              by_cases h7 : p.Kind = 4
              · rw [bifTd h7, if_pos h7, Check_eq o, bind_some]
              · rw [bifFd h7, if_neg h7]
        · rw [bifT (by rw [decide_eq_false h4]; rfl), if_pos h4]
    · rw [bifT (by rw [decide_eq_false h2]; rfl), if_pos h2]
  · rw [bifT (by rw [decide_eq_false h1]; rfl), if_pos h1]
end Go.Lg
namespace Go.Lg
attribute [local irreducible] w64 toU64 toU8 shlU shrU shlB shrB
/-- the sum of both, brought to one scale -/
def Comes (x0 y0 z : api_Hist) : Prop := ∃ (ka kb : Nat) (x y : api_Hist), DnH ka x0 x ∧ DnH kb y0 y ∧ (ka : Int) ≤ x0.Scale + 10 ∧ (kb : Int) ≤ y0.Scale + 10 ∧ x.Scale = y.Scale ∧ z = sumH x y ∧ tot x + tot y < 18446744073709551616 ∧ widthS x.Pos y.Pos ≤ 160 ∧ widthS x.Neg y.Neg ≤ 160
theorem Comes.sums {l m : List api_Hist} {x0 y0 z : api_Hist} (c : Comes x0 y0 z) (hx : Sums l x0) (hy : Sums m y0) : Sums (l ++ m) z := by
  obtain ⟨ka, kb, x, y, d1, d2, k1, k2, hs, rfl, ht, wp, wn⟩ := c
  exact (hx.down d1 k1).merge (hy.down d2 k2) hs ht wp wn
/-- right, and as told -/
def TogOk (x0 y0 : api_Hist) (a2 : Int) (res : api_Hist × Bool) : Prop :=
  res = (H0, false) ∨ ∃ z, res = (z, true) ∧ Good z ∧ tot z = tot x0 + tot y0 ∧ tot x0 + tot y0 < 18446744073709551616 ∧ (z.Pos.Counts.length : Int) ≤ a2 ∧ (z.Neg.Counts.length : Int) ≤ a2 ∧ Comes x0 y0 z
theorem tog_loop {x0 y0 : api_Hist} (gx : Good x0) (gy : Good y0) (hs : x0.Scale = y0.Scale) (a2 : Int) : ∀ (m k : Nat) (x y : api_Hist), ((k + m : Nat) : Int) = x0.Scale + 10 → DnH k x0 x → DnH k y0 y →
    ∃ res, loop (tocum_Together_lp1 a2) (x.Scale, x.Zero, x.Pos.Offset, x.Pos.Counts, x.Neg.Offset, x.Neg.Counts, y.Scale, y.Zero, y.Pos.Offset, y.Pos.Counts, y.Neg.Offset, y.Neg.Counts) = some (.out res) ∧
      ((loop (ref16_Together_lp1 a2 ⟨x0, y0, 0⟩) (x0.Scale - k) = some (.out res)) ∨ (loop (ref16_Together_lp1 a2 ⟨x0, y0, 0⟩) (x0.Scale - k) = some (.go ()) ∧ res = (H0, false))) ∧ TogOk x0 y0 a2 res := by
  intro m
  induction m with
  | zero =>
    intro k x y hk dx dy
    have gxk := dx.good gx (by omega)
    have gyk := dy.good gy (by omega)
    have hsk : x.Scale = y.Scale := by rw [dx.s, dy.s, hs]
    obtain ⟨l1, l2⟩ := lev_same gxk gyk hsk
    have m1 := Merge_lev l1 gxk gyk
    have m2 := RMerge_lev l2 gxk gyk
    obtain ⟨xx, r1, r2⟩ := RDown_ok gx (k := k) (by omega)
    obtain ⟨yy, r3, r4⟩ := RDown_ok gy (k := k) (by omega)
    obtain rfl := r2.inj dx
    obtain rfl := r4.inj dy
    have hw : w64 (x0.Scale - (x0.Scale - (k : Int))) = (k : Int) := by have := gx.s2; rw [w64_id] <;> omega
    have m1' : fold_Merge ⟨xx.Scale, xx.Zero, ⟨xx.Pos.Offset, xx.Pos.Counts⟩, ⟨xx.Neg.Offset, xx.Neg.Counts⟩⟩ ⟨yy.Scale, yy.Zero, ⟨yy.Pos.Offset, yy.Pos.Counts⟩, ⟨yy.Neg.Offset, yy.Neg.Counts⟩⟩ = _ := m1
    by_cases c1 : 18446744073709551616 ≤ tot xx + tot yy
    · have e : mergeE xx yy = (H0, 4) := by unfold mergeE; rw [if_pos c1]
      rw [e] at m1' m2
      refine ⟨(H0, false), loop_out ?_, .inl (loop_out ?_), .inl rfl⟩
      · unfold tocum_Together_lp1
        dsimp only
        rw [m1', bind_some]
        dsimp only
        rw [lett_eq, bifTd rfl]; rfl
      · unfold ref16_Together_lp1
        dsimp only
        rw [bifTd (by omega), hw, r1, bind_some]
        dsimp only
        rw [r3, bind_some]
        dsimp only
        rw [m2, bind_some]
        dsimp only
        rw [bifTd rfl]; rfl
    · by_cases c2 : (¬ (160 < widthS xx.Pos yy.Pos ∨ 160 < widthS xx.Neg yy.Neg)) ∧ ((sumH xx yy).Pos.Counts.length : Int) ≤ a2 ∧ ((sumH xx yy).Neg.Counts.length : Int) ≤ a2
      · have e : mergeE xx yy = (sumH xx yy, 0) := by unfold mergeE; rw [if_neg c1, if_neg c2.1]
        rw [e] at m1' m2
        have ht : tot xx + tot yy = tot x0 + tot y0 := by rw [dx.tot, dy.tot]
        refine ⟨(sumH xx yy, true), loop_out ?_, .inl (loop_out ?_), .inr ⟨_, rfl, sumH_good gxk gyk (by omega) (by omega) (by omega), by rw [sumH_tot gxk gyk (by omega), ht], by omega, c2.2.1, c2.2.2, ⟨k, k, xx, yy, dx, dy, by omega, by omega, hsk, rfl, by omega, by omega, by omega⟩⟩⟩
        · unfold tocum_Together_lp1
          dsimp only
          rw [m1', bind_some]
          dsimp only
          rw [lett_eq, bifFd (by omega), lett_eq, bifT (by rw [decide_eq_true rfl, decide_eq_true (by omega)]; rfl)]; rfl
        · unfold ref16_Together_lp1
          dsimp only
          rw [bifTd (by omega), hw, r1, bind_some]
          dsimp only
          rw [r3, bind_some]
          dsimp only
          rw [m2, bind_some]
          dsimp only
          rw [bifFd (by omega), bifT (by rw [decide_eq_true rfl, decide_eq_true c2.2.1, decide_eq_true c2.2.2]; rfl)]; rfl
      · have e4 : (mergeE xx yy).2 ≠ 4 := by unfold mergeE; rw [if_neg c1]; split <;> simp
        have e5 : ¬ ((mergeE xx yy).2 = 0 ∧ ((mergeE xx yy).1.Pos.Counts.length : Int) ≤ a2 ∧ ((mergeE xx yy).1.Neg.Counts.length : Int) ≤ a2) := by
          unfold mergeE
          rw [if_neg c1]
          by_cases c3 : 160 < widthS xx.Pos yy.Pos ∨ 160 < widthS xx.Neg yy.Neg
          · rw [if_pos c3]; simp
          · rw [if_neg c3]; exact fun h => c2 ⟨c3, h.2⟩
        generalize mergeE xx yy = me at *
        obtain ⟨z, ez⟩ := me
        dsimp only at e4 e5
        refine ⟨(H0, false), loop_out ?_, .inr ⟨?_, rfl⟩, .inl rfl⟩
        · unfold tocum_Together_lp1
          dsimp only
          rw [m1', bind_some]
          dsimp only
          rw [lett_eq, bifFd e4, lett_eq, bifF (by
            rw [Bool.and_eq_false_iff, decide_eq_false_iff_not, decide_eq_false_iff_not]
            by_cases h0 : ez = 0
            · exact .inr (by omega)
            · exact .inl h0), lett_eq, bifTd (by have := dx.s; omega)]; rfl
        · rw [loop_next (s' := x0.Scale - (k : Int) - 1), loop_brk (b := ())]
          · unfold ref16_Together_lp1
            rw [bifFd (by omega)]
          · unfold ref16_Together_lp1
            dsimp only
            rw [bifTd (by omega), hw, r1, bind_some]
            dsimp only
            rw [r3, bind_some]
            dsimp only
            rw [m2, bind_some]
            dsimp only
            rw [bifFd e4, bifF (by
              rw [Bool.and_eq_false_iff, Bool.and_eq_false_iff, decide_eq_false_iff_not, decide_eq_false_iff_not, decide_eq_false_iff_not]
              by_cases h0 : ez = 0
              · by_cases h2 : (z.Pos.Counts.length : Int) ≤ a2
                · exact .inr fun h3 => e5 ⟨h0, h2, h3⟩
                · exact .inl (.inr h2)
              · exact .inl (.inl h0)), lett_eq, show w64 (x0.Scale - (k : Int) - 1) = x0.Scale - (k : Int) - 1 by have := gx.s2; rw [w64_id] <;> omega]
  | succ m ih =>
    intro k x y hk dx dy
    have gxk := dx.good gx (by omega)
    have gyk := dy.good gy (by omega)
    have hsk : x.Scale = y.Scale := by rw [dx.s, dy.s, hs]
    obtain ⟨l1, l2⟩ := lev_same gxk gyk hsk
    have m1 := Merge_lev l1 gxk gyk
    have m2 := RMerge_lev l2 gxk gyk
    obtain ⟨xx, r1, r2⟩ := RDown_ok gx (k := k) (by omega)
    obtain ⟨yy, r3, r4⟩ := RDown_ok gy (k := k) (by omega)
    obtain rfl := r2.inj dx
    obtain rfl := r4.inj dy
    have hw : w64 (x0.Scale - (x0.Scale - (k : Int))) = (k : Int) := by have := gx.s2; rw [w64_id] <;> omega
    have m1' : fold_Merge ⟨xx.Scale, xx.Zero, ⟨xx.Pos.Offset, xx.Pos.Counts⟩, ⟨xx.Neg.Offset, xx.Neg.Counts⟩⟩ ⟨yy.Scale, yy.Zero, ⟨yy.Pos.Offset, yy.Pos.Counts⟩, ⟨yy.Neg.Offset, yy.Neg.Counts⟩⟩ = _ := m1
    by_cases c1 : 18446744073709551616 ≤ tot xx + tot yy
    · have e : mergeE xx yy = (H0, 4) := by unfold mergeE; rw [if_pos c1]
      rw [e] at m1' m2
      refine ⟨(H0, false), loop_out ?_, .inl (loop_out ?_), .inl rfl⟩
      · unfold tocum_Together_lp1
        dsimp only
        rw [m1', bind_some]
        dsimp only
        rw [lett_eq, bifTd rfl]; rfl
      · unfold ref16_Together_lp1
        dsimp only
        rw [bifTd (by omega), hw, r1, bind_some]
        dsimp only
        rw [r3, bind_some]
        dsimp only
        rw [m2, bind_some]
        dsimp only
        rw [bifTd rfl]; rfl
    · by_cases c2 : (¬ (160 < widthS xx.Pos yy.Pos ∨ 160 < widthS xx.Neg yy.Neg)) ∧ ((sumH xx yy).Pos.Counts.length : Int) ≤ a2 ∧ ((sumH xx yy).Neg.Counts.length : Int) ≤ a2
      · have e : mergeE xx yy = (sumH xx yy, 0) := by unfold mergeE; rw [if_neg c1, if_neg c2.1]
        rw [e] at m1' m2
        have ht : tot xx + tot yy = tot x0 + tot y0 := by rw [dx.tot, dy.tot]
        refine ⟨(sumH xx yy, true), loop_out ?_, .inl (loop_out ?_), .inr ⟨_, rfl, sumH_good gxk gyk (by omega) (by omega) (by omega), by rw [sumH_tot gxk gyk (by omega), ht], by omega, c2.2.1, c2.2.2, ⟨k, k, xx, yy, dx, dy, by omega, by omega, hsk, rfl, by omega, by omega, by omega⟩⟩⟩
        · unfold tocum_Together_lp1
          dsimp only
          rw [m1', bind_some]
          dsimp only
          rw [lett_eq, bifFd (by omega), lett_eq, bifT (by rw [decide_eq_true rfl, decide_eq_true (by omega)]; rfl)]; rfl
        · unfold ref16_Together_lp1
          dsimp only
          rw [bifTd (by omega), hw, r1, bind_some]
          dsimp only
          rw [r3, bind_some]
          dsimp only
          rw [m2, bind_some]
          dsimp only
          rw [bifFd (by omega), bifT (by rw [decide_eq_true rfl, decide_eq_true c2.2.1, decide_eq_true c2.2.2]; rfl)]; rfl
      · have e4 : (mergeE xx yy).2 ≠ 4 := by unfold mergeE; rw [if_neg c1]; split <;> simp
        have e5 : ¬ ((mergeE xx yy).2 = 0 ∧ ((mergeE xx yy).1.Pos.Counts.length : Int) ≤ a2 ∧ ((mergeE xx yy).1.Neg.Counts.length : Int) ≤ a2) := by
          unfold mergeE
          rw [if_neg c1]
          by_cases c3 : 160 < widthS xx.Pos yy.Pos ∨ 160 < widthS xx.Neg yy.Neg
          · rw [if_pos c3]; simp
          · rw [if_neg c3]; exact fun h => c2 ⟨c3, h.2⟩
        generalize mergeE xx yy = me at *
        obtain ⟨z, ez⟩ := me
        dsimp only at e4 e5
        obtain ⟨x1, d1, d2⟩ := Down_ok gxk (k := 1) (by have := dx.s; omega)
        obtain ⟨y1, d3, d4⟩ := Down_ok gyk (k := 1) (by have := dy.s; omega)
        have d1' : hist_Down ⟨xx.Scale, xx.Zero, ⟨xx.Pos.Offset, xx.Pos.Counts⟩, ⟨xx.Neg.Offset, xx.Neg.Counts⟩⟩ 1 = _ := d1
        have d3' : hist_Down ⟨yy.Scale, yy.Zero, ⟨yy.Pos.Offset, yy.Pos.Counts⟩, ⟨yy.Neg.Offset, yy.Neg.Counts⟩⟩ 1 = _ := d3
        obtain ⟨res, i1, i2, i3⟩ := ih (k + 1) x1 y1 (by omega) (dx.comp d2) (dy.comp d4)
        have hst : ref16_Together_lp1 a2 ⟨x0, y0, 0⟩ (x0.Scale - (k : Int)) = some (.next (x0.Scale - ((k + 1 : Nat) : Int))) := by
          unfold ref16_Together_lp1
          dsimp only
          rw [bifTd (by omega), hw, r1, bind_some]
          dsimp only
          rw [r3, bind_some]
          dsimp only
          rw [m2, bind_some]
          dsimp only
          rw [bifFd e4, bifF (by
            rw [Bool.and_eq_false_iff, Bool.and_eq_false_iff, decide_eq_false_iff_not, decide_eq_false_iff_not, decide_eq_false_iff_not]
            by_cases h0 : ez = 0
            · by_cases h2 : (z.Pos.Counts.length : Int) ≤ a2
              · exact .inr fun h3 => e5 ⟨h0, h2, h3⟩
              · exact .inl (.inr h2)
            · exact .inl (.inl h0)), lett_eq, show w64 (x0.Scale - (k : Int) - 1) = x0.Scale - ((k + 1 : Nat) : Int) by have := gx.s2; rw [w64_id] <;> omega]
        refine ⟨res, ?_, ?_, i3⟩
        · rw [← i1]
          refine loop_next ?_
          unfold tocum_Together_lp1
          dsimp only
          rw [m1', bind_some]
          dsimp only
          rw [lett_eq, bifFd e4, lett_eq, bifF (by
            rw [Bool.and_eq_false_iff, decide_eq_false_iff_not, decide_eq_false_iff_not]
            by_cases h0 : ez = 0
            · exact .inr (by omega)
            · exact .inl h0), lett_eq, bifFd (by have := dx.s; omega), d1', bind_some]
          dsimp only
          rw [d3', bind_some]
        · rw [loop_next hst]; exact i2
theorem together_eq {a b : api_Hist} (oa : OkH a) (ob : OkH b) (a2 : Int) : ∃ res, tocum_Together a b a2 = some res ∧ ref16_Together a b a2 = some res ∧ (res = (H0, false) ∨ (Good a ∧ Good b ∧ TogOk a b a2 res)) := by
  unfold tocum_Together ref16_Together
  rcases Level_eq oa ob with ⟨e, he, h1, h2, _⟩ | ⟨x, y, h1, h2, l⟩
  · refine ⟨(H0, false), ?_, ?_, .inl rfl⟩
    · rw [h1, bind_some]
      dsimp only
      rw [bifT (by rw [decide_eq_false he]; rfl)]; rfl
    · rw [h2, bind_some]
      dsimp only
      rw [bifT (by rw [decide_eq_false he]; rfl)]; rfl
  · have gx := l.gx
    have gy := l.gy
    have hs : x.Scale = y.Scale := by rw [l.sx, l.sy]
    obtain ⟨res, i1, i2, i3⟩ := tog_loop gx gy hs a2 (x.Scale + 10).toNat 0 x y (by have := gx.s1; omega) (DnH.zero gx) (DnH.zero gy)
    have i2' : (loop (ref16_Together_lp1 a2 ⟨x, y, 0⟩) x.Scale = some (.out res)) ∨ (loop (ref16_Together_lp1 a2 ⟨x, y, 0⟩) x.Scale = some (.go ()) ∧ res = (H0, false)) := by simpa using i2
    refine ⟨res, ?_, ?_, .inr ⟨l.ga, l.gb, ?_⟩⟩
    · rw [h1, bind_some]
      dsimp only
      rw [bifF (by rfl), i1, flow_out]
    · rw [h2, bind_some]
      dsimp only
      rw [bifF (by rfl)]
      rcases i2' with i4 | ⟨i4, i5⟩
      · rw [i4, flow_out]
      · rw [i4, flow_go, i5]; rfl
    · unfold TogOk at *
      rw [l.dx.tot, l.dy.tot] at i3
      rcases i3 with i3 | ⟨z, z1, z2, z3, z4, z5, z6, ka, kb, xx, yy, w1, w2, w3, w4, w5⟩
      · exact .inl i3
      · have s1 := l.dx.s; have s2 := l.dy.s
        have t1 := l.ga.s1; have t2 := l.gb.s1
        exact .inr ⟨z, z1, z2, z3, z4, z5, z6, _, _, xx, yy, l.dx.comp w1, l.dy.comp w2, by omega, by omega, w5⟩
end Go.Lg
namespace Go.Lg
theorem w64_def (x : Int) : w64 x = (x + 9223372036854775808) % 18446744073709551616 - 9223372036854775808 := rfl
attribute [local irreducible] w64 toU64 toU8 shlU shrU shlB shrB
def S0 : api_State := ⟨false, 0, 0, 0, 0, 0, H0⟩
def Pt0 : api_Point := ⟨[], [], 0, 0, false, 0, 0, 0, 0, 0, H0, 0⟩
instance decI64 (x : Int) : Decidable (I64 x) := by unfold I64; exact inferInstance
theorem clone_h {h : api_Hist} (hp : h.Pos.Counts.length ≤ 1000000) (hn : h.Neg.Counts.length ≤ 1000000) : hist_Clone h = some h := by
  unfold hist_Clone slices_Clone_uint64_uint64
  rw [app_ok (by simp; omega), bind_some, app_ok (by simp; omega), bind_some]; rfl
theorem clone_p {p : api_Point} (ha : p.Attrs.length ≤ 1000) (o : OkH p.Hist) : point_Clone p = some p := by
  unfold point_Clone slices_Clone_api_Pair_api_Pair
  rw [app_ok (by simp; omega), bind_some, clone_h o.pl o.nl, bind_some]; rfl
/-! ### does a sum go round? -/
theorem half_facts {a : Int} (h : I64 a) : a = 2 * a.tdiv 2 + a.tmod 2 ∧ -1 ≤ a.tmod 2 ∧ a.tmod 2 ≤ 1 ∧ (0 ≤ a → 0 ≤ a.tmod 2) ∧ (a ≤ 0 → a.tmod 2 ≤ 0) := by
  have e := Int.mul_tdiv_add_tmod a 2
  have h1 : a.tmod 2 < 2 := Int.tmod_lt_of_pos a (by omega)
  have h2 : -2 < a.tmod 2 := by
    have := Int.tmod_lt_of_pos (-a) (show (0 : Int) < 2 by omega)
    rw [Int.neg_tmod] at this; omega
  have h3 : 0 ≤ a → 0 ≤ a.tmod 2 := fun q => Int.tmod_nonneg 2 q
  have h4 : a ≤ 0 → a.tmod 2 ≤ 0 := by
    intro q
    have := Int.tmod_nonneg (a := -a) 2 (by omega)
    rw [Int.neg_tmod] at this; omega
  unfold I64 at h
  generalize a.tdiv 2 = q at *
  generalize a.tmod 2 = r at *
  omega
theorem wide_core (h k r q : Int) (hh : -9223372036854775808 ≤ h + k ∧ h + k ≤ 9223372036854775807) (hk : (1 < r + q → h + k + 1 ≤ 9223372036854775807) ∧ (r + q < -1 → -9223372036854775808 ≤ h + k - 1)) (hr : -1 ≤ r ∧ r ≤ 1) (hq : -1 ≤ q ∧ q ≤ 1) (a : Int) (ha : a = 2 * (h + k) + (r + q)) :
    (lett (w64 (h + k)) fun half22 =>
 lett (w64 (r + q)) fun rest23 =>
 (bif decide (1 < rest23) then
 lett (w64 (half22 + 1)) fun half29 =>
 lett (w64 (rest23 - 2)) fun rest30 =>
 some (half29, rest30)
 else
 some (half22, rest23) : Option (Int × Int)).bind fun (half24, rest25) =>
 (bif decide (rest25 < (-1)) then
 lett (w64 (half24 - 1)) fun half36 =>
 lett (w64 (rest25 + 2)) fun rest37 =>
 some (half36, rest37)
 else
 some (half24, rest25) : Option (Int × Int)).bind fun (half31, rest32) =>
 bif ((decide (4611686018427387904 < half31)) || (decide (half31 < (-4611686018427387904)))) then
 some true
 else
 bif decide (half31 = 4611686018427387904) then
 lett (decide (0 ≤ rest32)) fun t42 =>
 some t42
 else
 lett (((decide (half31 = (-4611686018427387904))) && (decide (rest32 < 0)))) fun t45 =>
 some t45) = some (decide (¬ I64 a)) := by
  have fin : ∀ half rest : Int, -1 ≤ rest → rest ≤ 1 → a = 2 * half + rest → (bif ((decide (4611686018427387904 < half)) || (decide (half < (-4611686018427387904)))) then
 some true
 else
 bif decide (half = 4611686018427387904) then
 lett (decide (0 ≤ rest)) fun t42 =>
 some t42
 else
 lett (((decide (half = (-4611686018427387904))) && (decide (rest < 0)))) fun t45 =>
 some t45) = some (decide (¬ I64 a)) := by
    intro half rest h1 h2 h3
    unfold I64
    by_cases c1 : 4611686018427387904 < half ∨ half < -4611686018427387904
    · rw [bifT (by simpa using c1), decide_eq_true (by omega)]
    · rw [bifF (by simpa using c1)]
      by_cases c2 : half = 4611686018427387904
      · rw [bifTd c2, lett_eq]; congr 1; rw [decide_eq_decide]; omega
      · rw [bifFd c2, lett_eq, ← Bool.decide_and]; congr 1; rw [decide_eq_decide]; omega
  rw [lett_eq, lett_eq, w64_id (x := h + k) (by omega) (by omega), w64_id (x := r + q) (by omega) (by omega)]
  by_cases c1 : 1 < r + q
  · rw [bifTd c1, lett_eq, lett_eq, w64_id (x := h + k + 1) (by omega) (by omega), w64_id (x := r + q - 2) (by omega) (by omega), bind_some]
    dsimp only
    rw [bifFd (by omega), bind_some]
    exact fin _ _ (by omega) (by omega) (by omega)
  · rw [bifFd c1, bind_some]
    dsimp only
    by_cases c2 : r + q < -1
    · rw [bifTd c2, lett_eq, lett_eq, w64_id (x := h + k - 1) (by omega) (by omega), w64_id (x := r + q + 2) (by omega) (by omega), bind_some]
      exact fin _ _ (by omega) (by omega) (by omega)
    · rw [bifFd c2, bind_some]
      exact fin _ _ (by omega) (by omega) (by omega)
theorem wide_add {a b : Int} (ha : I64 a) (hb : I64 b) : ref15_Wide a b false = some (decide (¬ I64 (a + b))) := by
  obtain ⟨a1, a2, a3, a4, a5⟩ := half_facts ha
  obtain ⟨b1, b2, b3, b4, b5⟩ := half_facts hb
  have ha' := ha
  have hb' := hb
  unfold I64 at ha' hb'
  unfold ref15_Wide
  rw [lett_eq, lett_eq, lett_eq, lett_eq, w64_id (x := a.tdiv 2) (by omega) (by omega), w64_id (x := b.tdiv 2) (by omega) (by omega), cond_false, bind_some]
  exact wide_core _ _ _ _ (by omega) (by omega) ⟨a2, a3⟩ ⟨b2, b3⟩ _ (by omega)
/-! ### are all finite? -/
theorem fins_eq {l : List UInt64} (hl : l.length ≤ 1000) : tocum_finite l = some (l.all finB) := by
  unfold tocum_finite
  have hs : ∀ i : Nat, i < l.length → tocum_finite_lp1 l (i : Int) = some (rndE i (if finB (l.getD i 0) then none else some false)) := by
    intro i hi
    unfold tocum_finite_lp1
    rw [bifTd (by omega), idx_nat hi, bind_some, numFinite_eq, bind_some, getD_lt hi]
    show (bif !finB l[i] then _ else _) = _
    cases finB l[i]
    · rfl
    · rw [bifF (by rfl), w64_succ (by omega)]; rfl
  rw [scan0 (n := l.length) _ hs (by unfold tocum_finite_lp1; rw [bifFd (by omega)]), flow_E]
  exact all_first fun i hi => by rw [getD_lt hi]
/-! ### the fitted histogram -/
noncomputable def fitR (h : api_Hist) (most : Int) : api_Hist × Int := (hist_Fit h most).getD (H0, 0)
theorem fitR_eq {h : api_Hist} (g : Good h) (most : Int) : hist_Fit h most = some (fitR h most) ∧ ref08_Fit h most = some (fitR h most) ∧
    ((fitR h most).2 = 4 ∨ ((fitR h most).2 = 0 ∧ ∃ k : Nat, (k : Int) ≤ h.Scale + 10 ∧ DnH k h (fitR h most).1 ∧ ((fitR h most).1.Pos.Counts.length : Int) ≤ most ∧ ((fitR h most).1.Neg.Counts.length : Int) ≤ most)) := by
  obtain ⟨x, e, h1, h2, h3⟩ := Fit_eq g most
  have : fitR h most = (x, e) := by unfold fitR; rw [h1]; rfl
  rw [this]
  refine ⟨h1, h2, ?_⟩
  rcases h3 with h3 | ⟨h3, k, h4, h5, h6, h7, _⟩
  · exact .inl h3.1
  · exact .inr ⟨h3, k, h4, h5, h6, h7⟩
noncomputable def fitH (p : api_Point) (temp most : Int) : api_Hist × Int :=
  if chkE p ≠ 0 then (p.Hist, chkE p) else if p.Temp ≠ temp then (p.Hist, 14) else if p.Flags ≠ 0 then (p.Hist, 3) else if p.Kind = 4 then fitR p.Hist most else (p.Hist, 0)
/-- a point that was let in -/
structure InP (p : api_Point) (temp most : Int) (H : api_Hist) : Prop where
  chk : chkE p = 0
  temp : p.Temp = temp
  flags : p.Flags = 0
  hist : (p.Kind = 4 ∧ Good p.Hist ∧ ∃ k : Nat, (k : Int) ≤ p.Hist.Scale + 10 ∧ DnH k p.Hist H ∧ (H.Pos.Counts.length : Int) ≤ most ∧ (H.Neg.Counts.length : Int) ≤ most) ∨ (p.Kind ≠ 4 ∧ p.Hist = H0 ∧ H = H0)
theorem chk0 {p : api_Point} (h : chkE p = 0) : KindP p ∧ (p.Mono = true → p.Kind = 1 ∨ p.Kind = 2) ∧ TimeP p ∧ OwnP p ∧ (p.Mono = true → p.Kind = 2 → finB p.Re = true) ∧ (p.Mono = true → 0 ≤ p.Int_ ∧ fLess p.Re 0 = false) ∧ (p.Kind = 4 → histE p.Hist = 0) ∧ labelE p.Name p.Attrs = 0 := by
  unfold chkE at h
  by_cases h1 : labelE p.Name p.Attrs = 0
  case neg => rw [if_pos h1] at h; exact absurd h h1
  rw [if_neg (fun e => e h1)] at h
  by_cases h2 : KindP p
  case neg => rw [if_pos h2] at h; exact absurd h (by decide)
  rw [if_neg (fun e => e h2)] at h
  by_cases h3 : (p.Mono = true ∧ ¬ (p.Kind = 1 ∨ p.Kind = 2)) ∨ ¬ TimeP p
  case pos => rw [if_pos h3] at h; exact absurd h (by decide)
  rw [if_neg h3] at h
  by_cases h4 : OwnP p
  case neg => rw [if_pos h4] at h; exact absurd h (by decide)
  rw [if_neg (fun e => e h4)] at h
  by_cases h5 : (p.Mono = true ∧ p.Kind = 2) ∧ finB p.Re = false
  case pos => rw [if_pos h5] at h; exact absurd h (by decide)
  rw [if_neg h5] at h
  by_cases h6 : p.Mono = true ∧ (p.Int_ < 0 ∨ fLess p.Re 0 = true)
  case pos => rw [if_pos h6] at h; exact absurd h (by decide)
  rw [if_neg h6] at h
  refine ⟨h2, fun hm => ?_, ?_, h4, fun hm hk => ?_, fun hm => ⟨?_, ?_⟩, fun hk => ?_, h1⟩
  · exact Decidable.byContradiction fun q => h3 (.inl ⟨hm, q⟩)
  · exact Decidable.byContradiction fun q => h3 (.inr q)
  · cases hf : finB p.Re
    · exact absurd ⟨⟨hm, hk⟩, hf⟩ h5
    · rfl
  · exact Decidable.byContradiction fun q => h6 ⟨hm, .inl (by omega)⟩
  · cases hf : fLess p.Re 0
    · rfl
    · exact absurd ⟨hm, .inr hf⟩ h6
  · rw [if_pos hk] at h; exact h
theorem chk_of {p : api_Point} (h1 : labelE p.Name p.Attrs = 0) (h2 : KindP p) (h3 : p.Mono = true → p.Kind = 1 ∨ p.Kind = 2) (h4 : TimeP p) (h5 : OwnP p) (h6 : p.Mono = true → p.Kind = 2 → finB p.Re = true) (h7 : p.Mono = true → 0 ≤ p.Int_ ∧ fLess p.Re 0 = false) (h8 : p.Kind = 4 → Good p.Hist) : chkE p = 0 := by
  unfold chkE
  rw [if_neg (fun e => e h1), if_neg (fun e => e h2), if_neg (fun e => e.elim (fun e => e.2 (h3 e.1)) (fun e => e h4)), if_neg (fun e => e h5), if_neg (fun e => by have := h6 e.1.1 e.1.2; rw [e.2] at this; cases this), if_neg (fun e => by
    have := h7 e.1
    rcases e.2 with q | q
    · omega
    · rw [this.2] at q; cases q)]
  split
  · rename_i hk; exact (good_iff _).2 (h8 hk)
  · rfl
theorem fitH_in {p : api_Point} {temp most : Int} (h : (fitH p temp most).2 = 0) : InP p temp most (fitH p temp most).1 := by
  unfold fitH at *
  by_cases h1 : chkE p = 0
  case neg => rw [if_pos h1] at h; exact absurd h h1
  rw [if_neg (fun e => e h1)] at *
  by_cases h2 : p.Temp = temp
  case neg => rw [if_pos h2] at h; exact absurd (show (14 : Int) = 0 from h) (by decide)
  rw [if_neg (fun e => e h2)] at *
  by_cases h3 : p.Flags = 0
  case neg => rw [if_pos h3] at h; exact absurd (show (3 : Int) = 0 from h) (by decide)
  rw [if_neg (fun e => e h3)] at *
  have hc := chk0 h1
  by_cases h4 : p.Kind = 4
  · rw [if_pos h4] at *
    have g := (good_iff _).1 (hc.2.2.2.2.2.2.1 h4)
    refine ⟨h1, h2, h3, .inl ⟨h4, g, ?_⟩⟩
    rcases (fitR_eq g most).2.2 with q | q
    · rw [q] at h; exact absurd h (by decide)
    · exact q.2
  · rw [if_neg h4] at *
    refine ⟨h1, h2, h3, .inr ⟨h4, ?_, ?_⟩⟩
    · exact hc.2.2.2.1.2.2.2.1.resolve_left h4
    · exact hc.2.2.2.1.2.2.2.1.resolve_left h4
theorem InP.goodH {p : api_Point} {temp most : Int} {H : api_Hist} (i : InP p temp most H) : Good H := by
  rcases i.hist with ⟨_, g, k, h1, h2, _⟩ | ⟨_, _, h⟩
  · exact h2.good g h1
  · rw [h]; exact H0_good
/-- the fitted point -/
noncomputable def fitP (p : api_Point) (temp most : Int) : api_Point := { p with Hist := (fitH p temp most).1 }
noncomputable def togR (a b : api_Hist) (most : Int) : api_Hist × Bool := (tocum_Together a b most).getD (H0, false)
theorem togR_eq {a b : api_Hist} (oa : OkH a) (ob : OkH b) (most : Int) : tocum_Together a b most = some (togR a b most) ∧ ref16_Together a b most = some (togR a b most) ∧ (togR a b most = (H0, false) ∨ (Good a ∧ Good b ∧ TogOk a b most (togR a b most))) := by
  obtain ⟨res, h1, h2, h3⟩ := together_eq oa ob most
  have : togR a b most = res := by unfold togR; rw [h1]; rfl
  rw [this]
  exact ⟨h1, h2, h3⟩
/-! ### a state and a point together -/
def freshS (q : api_Point) : api_State := ⟨true, q.Start, q.Time, q.Int_, q.Re, q.Im, q.Hist⟩
noncomputable def sumC (s : api_State) (q : api_Point) (most : Int) : Option api_State :=
  if q.Kind = 1 then (if I64 (s.Int_ + q.Int_) then some ⟨true, s.Start, q.Time, s.Int_ + q.Int_, s.Re, s.Im, s.Hist⟩ else none)
  else if q.Kind = 4 then (if (togR s.Hist q.Hist most).2 = true then some ⟨true, s.Start, q.Time, s.Int_, s.Re, s.Im, (togR s.Hist q.Hist most).1⟩ else none)
  else if [fAdd s.Re q.Re, fAdd s.Im q.Im].all finB = false ∧ [s.Re, s.Im, q.Re, q.Im].all finB = true then none
  else some ⟨true, s.Start, q.Time, s.Int_, fAdd s.Re q.Re, fAdd s.Im q.Im, s.Hist⟩
noncomputable def stC (s : api_State) (q : api_Point) (most : Int) : api_State × Int :=
  if s.Some = false then (freshS q, 1) else if s.Time < q.Start then (freshS q, 8) else match sumC s q most with
    | none => (freshS q, 16)
    | some t => (t, 0)
def ansP (t : api_State) (q : api_Point) (fl : Int) : api_Point :=
  if q.Kind = 1 then ⟨q.Name, q.Attrs, q.Kind, 1, q.Mono, t.Start, q.Time, t.Int_, 0, 0, H0, fl⟩
  else if q.Kind = 2 then ⟨q.Name, q.Attrs, q.Kind, 1, q.Mono, t.Start, q.Time, 0, t.Re, 0, H0, fl⟩
  else if q.Kind = 5 then ⟨q.Name, q.Attrs, q.Kind, 1, q.Mono, t.Start, q.Time, 0, t.Re, t.Im, H0, fl⟩
  else ⟨q.Name, q.Attrs, q.Kind, 1, q.Mono, t.Start, q.Time, 0, 0, 0, t.Hist, fl⟩
/-- what a point makes of a state -/
noncomputable def nextC (s : api_State) (p : api_Point) (most : Int) : api_State × api_Point × Int :=
  if (fitH p 2 most).2 ≠ 0 then (S0, Pt0, (fitH p 2 most).2)
  else if s.Some = true ∧ p.Time ≤ s.Time then (S0, Pt0, 9)
  else if s.Some = true ∧ p.Start < s.Time then (S0, Pt0, 10)
  else ((stC s (fitP p 2 most) most).1, ansP (stC s (fitP p 2 most) most).1 (fitP p 2 most) (stC s (fitP p 2 most) most).2, 0)
theorem round_test {a b : Int} (ha : I64 a) (hb : I64 b) : ((!decide (decide (a < w64 (a + b)) = decide (0 < b))) && (!decide (b = 0))) = decide (¬ I64 (a + b)) := by
  by_cases h : I64 (a + b)
  · have e : w64 (a + b) = a + b := by unfold I64 at h; exact w64_id h.1 h.2
    rw [e, decide_eq_false (p := ¬ I64 (a + b)) (fun q => q h), show decide (a < a + b) = decide (0 < b) by rw [decide_eq_decide]; omega]
    simp
  · rw [decide_eq_true h]
    have hw : (9223372036854775807 < a + b ∧ w64 (a + b) = a + b - 18446744073709551616) ∨ (a + b < -9223372036854775808 ∧ w64 (a + b) = a + b + 18446744073709551616) := by
      unfold I64 at *
      rw [w64_def]; omega
    unfold I64 at *
    rw [decide_eq_false (p := b = 0) (by omega), Bool.not_false, Bool.and_true, Bool.not_eq_true', decide_eq_false_iff_not, decide_eq_decide]
    omega
theorem add_eq {s : api_State} {q : api_Point} (most : Int) (hs : I64 s.Int_) (hq : I64 q.Int_) (oh : OkH s.Hist) (og : OkH q.Hist) :
    tocum_add ⟨true, s.Start, q.Time, s.Int_, s.Re, s.Im, s.Hist⟩ q most = some (match sumC s q most with | none => (false, ⟨true, s.Start, q.Time, s.Int_, s.Re, s.Im, s.Hist⟩) | some t => (true, t)) := by
  unfold tocum_add sumC
  rw [lett_eq]
  by_cases h1 : q.Kind = 1
  · rw [bifTd h1, if_pos h1, lett_eq, round_test hs hq]
    by_cases h2 : I64 (s.Int_ + q.Int_)
    · rw [bifFd (fun e => e h2), if_pos h2, w64_id h2.1 h2.2]
    · rw [bifTd h2, if_neg h2]
  rw [bifFd h1, if_neg h1, lett_eq]
  by_cases h4 : q.Kind = 4
  · rw [bifTd h4, if_pos h4, (togR_eq oh og most).1, bind_some]
    dsimp only
    rw [bind_some]
    dsimp only
    cases ht : (togR s.Hist q.Hist most).2
    · rw [bifT (by rfl), if_neg (by simp)]
    · rw [bifF (by rfl), if_pos rfl]
  rw [bifFd h4, if_neg h4]
  have hap : num_AddPhasor s.Re s.Im q.Re q.Im = some (fAdd s.Re q.Re, fAdd s.Im q.Im) := rfl
  rw [hap, bind_some]
  dsimp only
  rw [fins_eq (by simp), bind_some]
  cases hf : [fAdd s.Re q.Re, fAdd s.Im q.Im].all finB
  · rw [bifT (by rfl), fins_eq (by simp), bind_some, bind_some]
    cases hg : [s.Re, s.Im, q.Re, q.Im].all finB
    · rw [bifF rfl, if_neg (by simp)]
    · rw [bifT rfl, if_pos ⟨rfl, rfl⟩]
  · rw [bifF (by rfl), bind_some, bifF rfl, if_neg (by simp)]
theorem answer_eq {t : api_State} {q : api_Point} (fl : Int) (ha : q.Attrs.length ≤ 1000) (oq : OkH q.Hist) (ot : OkH t.Hist) : tocum_answer t q fl = some (ansP t q fl) := by
  unfold tocum_answer ansP
  rw [clone_p ha oq, bind_some, lett_eq]
  by_cases h1 : q.Kind = 1
  · rw [bifTd h1, if_pos h1]; rfl
  rw [bifFd h1, if_neg h1, lett_eq]
  by_cases h2 : q.Kind = 2
  · rw [bifTd h2, if_pos h2]; rfl
  rw [bifFd h2, if_neg h2, lett_eq]
  by_cases h5 : q.Kind = 5
  · rw [bifTd h5, if_pos h5]; rfl
  rw [bifFd h5, if_neg h5, clone_h ot.pl ot.nl, bind_some]
noncomputable def tocumK (a0 : api_State) (a1 : api_Point) (a2 : Int) (c80 : Int) (c81 : UInt64) (c82 : Int) (c83 : List UInt64) (c86 : Int) (c87 : List UInt64) (e90 : Int) : Option (api_State × api_Point × Int) :=
 (bif decide (e90 = 0) then
 (tocum_check a0 (api_Point.mk a1.Name a1.Attrs a1.Kind a1.Temp a1.Mono a1.Start a1.Time a1.Int_ a1.Re a1.Im (api_Hist.mk c80 c81 (api_Side.mk c82 c83) (api_Side.mk c86 c87)) a1.Flags)).bind fun r172 =>
 some r172
 else
 some e90 : Option Int).bind fun e146 =>
 bif (!decide (e146 = 0)) then
 some ((api_State.mk false 0 0 0 0 0 (api_Hist.mk 0 0 (api_Side.mk 0 []) (api_Side.mk 0 []))), (api_Point.mk [] [] 0 0 false 0 0 0 0 0 (api_Hist.mk 0 0 (api_Side.mk 0 []) (api_Side.mk 0 [])) 0), e146)
 else
 (lett ((!a0.Some)) fun t310 =>
 bif t310 then
 some (1, true, a0.Start, a1.Time, a0.Int_, a0.Re, a0.Im, a0.Hist.Scale, a0.Hist.Zero, a0.Hist.Pos.Offset, a0.Hist.Pos.Counts, a0.Hist.Neg.Offset, a0.Hist.Neg.Counts)
 else
 lett (decide (a0.Time < a1.Start)) fun t347 =>
 bif t347 then
 some (8, true, a0.Start, a1.Time, a0.Int_, a0.Re, a0.Im, a0.Hist.Scale, a0.Hist.Zero, a0.Hist.Pos.Offset, a0.Hist.Pos.Counts, a0.Hist.Neg.Offset, a0.Hist.Neg.Counts)
 else
 (tocum_add (api_State.mk true a0.Start a1.Time a0.Int_ a0.Re a0.Im a0.Hist) (api_Point.mk a1.Name a1.Attrs a1.Kind a1.Temp a1.Mono a1.Start a1.Time a1.Int_ a1.Re a1.Im (api_Hist.mk c80 c81 (api_Side.mk c82 c83) (api_Side.mk c86 c87)) a1.Flags) a2).bind fun (r431, r432) =>
 lett ((!r431)) fun t449 =>
 bif t449 then
 some (16, r432.Some, r432.Start, r432.Time, r432.Int_, r432.Re, r432.Im, r432.Hist.Scale, r432.Hist.Zero, r432.Hist.Pos.Offset, r432.Hist.Pos.Counts, r432.Hist.Neg.Offset, r432.Hist.Neg.Counts)
 else
 some (0, r432.Some, r432.Start, r432.Time, r432.Int_, r432.Re, r432.Im, r432.Hist.Scale, r432.Hist.Zero, r432.Hist.Pos.Offset, r432.Hist.Pos.Counts, r432.Hist.Neg.Offset, r432.Hist.Neg.Counts) : Option (Int × Bool × Int × Int × Int × UInt64 × UInt64 × Int × UInt64 × Int × List UInt64 × Int × List UInt64)).bind fun (flags280, c282, c283, c284, c285, c286, c287, c288, c289, c290, c291, c294, c295) =>
 (bif (!decide (flags280 = 0)) then
 some (true, a1.Start, a1.Time, a1.Int_, a1.Re, a1.Im, c80, c81, c82, c83, c86, c87)
 else
 some (c282, c283, c284, c285, c286, c287, c288, c289, c290, c291, c294, c295) : Option (Bool × Int × Int × Int × UInt64 × UInt64 × Int × UInt64 × Int × List UInt64 × Int × List UInt64)).bind fun (c486, c487, c488, c489, c490, c491, c492, c493, c494, c495, c498, c499) =>
 (hist_Clone (api_Hist.mk c492 c493 (api_Side.mk c494 c495) (api_Side.mk c498 c499))).bind fun r521 =>
 (tocum_answer (api_State.mk c486 c487 c488 c489 c490 c491 r521) (api_Point.mk a1.Name a1.Attrs a1.Kind a1.Temp a1.Mono a1.Start a1.Time a1.Int_ a1.Re a1.Im (api_Hist.mk c80 c81 (api_Side.mk c82 c83) (api_Side.mk c86 c87)) a1.Flags) flags280).bind fun r606 =>
 some ((api_State.mk c486 c487 c488 c489 c490 c491 r521), r606, 0)
theorem tocumNext_K (a0 : api_State) (a1 : api_Point) (a2 : Int) : tocum_Next a0 a1 a2 =
 (point_Check a1).bind fun r70 =>
 (lett ((!decide (r70 = 0))) fun t96 =>
 bif t96 then
 some (a1.Hist.Scale, a1.Hist.Zero, a1.Hist.Pos.Offset, a1.Hist.Pos.Counts, a1.Hist.Neg.Offset, a1.Hist.Neg.Counts, r70)
 else
 lett ((!decide (a1.Temp = 2))) fun t102 =>
 bif t102 then
 some (a1.Hist.Scale, a1.Hist.Zero, a1.Hist.Pos.Offset, a1.Hist.Pos.Counts, a1.Hist.Neg.Offset, a1.Hist.Neg.Counts, 14)
 else
 lett ((!decide (a1.Flags = 0))) fun t106 =>
 bif t106 then
 some (a1.Hist.Scale, a1.Hist.Zero, a1.Hist.Pos.Offset, a1.Hist.Pos.Counts, a1.Hist.Neg.Offset, a1.Hist.Neg.Counts, 3)
 else
 lett (decide (a1.Kind = 4)) fun t110 =>
 bif t110 then
 (hist_Fit a1.Hist a2).bind fun (r114, r115) =>
 some (r114.Scale, r114.Zero, r114.Pos.Offset, r114.Pos.Counts, r114.Neg.Offset, r114.Neg.Counts, r115)
 else
 some (a1.Hist.Scale, a1.Hist.Zero, a1.Hist.Pos.Offset, a1.Hist.Pos.Counts, a1.Hist.Neg.Offset, a1.Hist.Neg.Counts, r70) : Option (Int × UInt64 × Int × List UInt64 × Int × List UInt64 × Int)).bind fun (c80, c81, c82, c83, c86, c87, e90) =>
 tocumK a0 a1 a2 c80 c81 c82 c83 c86 c87 e90 := rfl
theorem sumC_ok {s : api_State} {q : api_Point} {most : Int} {t : api_State} (oh : OkH s.Hist) (og : OkH q.Hist) (h : sumC s q most = some t) : OkH t.Hist ∧ t.Some = true ∧ t.Start = s.Start ∧ t.Time = q.Time := by
  unfold sumC at h
  by_cases h1 : q.Kind = 1
  · rw [if_pos h1] at h
    by_cases h2 : I64 (s.Int_ + q.Int_)
    · rw [if_pos h2] at h; cases h; exact ⟨oh, rfl, rfl, rfl⟩
    · rw [if_neg h2] at h; cases h
  rw [if_neg h1] at h
  by_cases h4 : q.Kind = 4
  · rw [if_pos h4] at h
    by_cases ht : (togR s.Hist q.Hist most).2 = true
    · rw [if_pos ht] at h; cases h
      refine ⟨?_, rfl, rfl, rfl⟩
      rcases (togR_eq oh og most).2.2 with e | ⟨_, _, e⟩
      · rw [e] at ht; cases ht
      · rcases e with e | ⟨z, e, g, _⟩
        · rw [e] at ht; cases ht
        · rw [e]; exact g.ok
    · rw [if_neg ht] at h; cases h
  rw [if_neg h4] at h
  split at h
  · cases h
  · cases h; exact ⟨oh, rfl, rfl, rfl⟩
theorem check16_eq (s : api_State) (q : api_Point) : tocum_check s q = some (if s.Some = true ∧ q.Time ≤ s.Time then 9 else if s.Some = true ∧ q.Start < s.Time then 10 else 0) := by
  unfold tocum_check
  rw [lett_eq]
  cases hs : s.Some
  · rw [bifT (by rfl), if_neg (by simp), if_neg (by simp)]
  · rw [bifF (by rfl), lett_eq]
    by_cases h1 : q.Time ≤ s.Time
    · rw [bifTd h1, if_pos ⟨rfl, h1⟩]
    · rw [bifFd h1, if_neg (fun e => h1 e.2), lett_eq]
      by_cases h2 : q.Start < s.Time
      · rw [bifTd h2, if_pos ⟨rfl, h2⟩]
      · rw [bifFd h2, if_neg (fun e => h2 e.2)]
theorem tocumK_err (s : api_State) (p : api_Point) (most : Int) (a : Int) (b : UInt64) (c : Int) (d : List UInt64) (e : Int) (f : List UInt64) {E : Int} (h : E ≠ 0) : tocumK s p most a b c d e f E = some (S0, Pt0, E) := by
  unfold tocumK
  rw [bifFd h, bind_some, bifT (by simp [h])]; rfl
theorem tocumK_ok (s : api_State) (p : api_Point) (most : Int) (H : api_Hist) (hs : I64 s.Int_) (hp : I64 p.Int_) (ha : p.Attrs.length ≤ 1000) (oh : OkH s.Hist) (og : OkH H) :
    tocumK s p most H.Scale H.Zero H.Pos.Offset H.Pos.Counts H.Neg.Offset H.Neg.Counts 0 =
      some (if s.Some = true ∧ p.Time ≤ s.Time then (S0, Pt0, 9) else if s.Some = true ∧ p.Start < s.Time then (S0, Pt0, 10)
        else ((stC s { p with Hist := H } most).1, ansP (stC s { p with Hist := H } most).1 { p with Hist := H } (stC s { p with Hist := H } most).2, 0)) := by
  have ec := check16_eq s { p with Hist := H }
  unfold tocumK
  rw [bifTd rfl]
  have ec' : tocum_check s (api_Point.mk p.Name p.Attrs p.Kind p.Temp p.Mono p.Start p.Time p.Int_ p.Re p.Im (api_Hist.mk H.Scale H.Zero (api_Side.mk H.Pos.Offset H.Pos.Counts) (api_Side.mk H.Neg.Offset H.Neg.Counts)) p.Flags) = _ := ec
  rw [ec', bind_some, bind_some]
  dsimp only
  by_cases h1 : s.Some = true ∧ p.Time ≤ s.Time
  · rw [if_pos h1, if_pos h1, bifT (by rfl)]; rfl
  rw [if_neg h1, if_neg h1]
  by_cases h2 : s.Some = true ∧ p.Start < s.Time
  · rw [if_pos h2, if_pos h2, bifT (by rfl)]; rfl
  rw [if_neg h2, if_neg h2, bifF (by rfl)]
  have ans : ∀ (t : api_State) (fl : Int), OkH t.Hist → (tocum_answer t { p with Hist := H } fl) = some (ansP t { p with Hist := H } fl) := fun t fl ot => answer_eq fl ha og ot
  have fin : ∀ (t : api_State) (fl : Int), OkH t.Hist → ((hist_Clone (api_Hist.mk t.Hist.Scale t.Hist.Zero (api_Side.mk t.Hist.Pos.Offset t.Hist.Pos.Counts) (api_Side.mk t.Hist.Neg.Offset t.Hist.Neg.Counts))).bind fun r521 =>
 (tocum_answer (api_State.mk t.Some t.Start t.Time t.Int_ t.Re t.Im r521) (api_Point.mk p.Name p.Attrs p.Kind p.Temp p.Mono p.Start p.Time p.Int_ p.Re p.Im (api_Hist.mk H.Scale H.Zero (api_Side.mk H.Pos.Offset H.Pos.Counts) (api_Side.mk H.Neg.Offset H.Neg.Counts)) p.Flags) fl).bind fun r606 =>
 some ((api_State.mk t.Some t.Start t.Time t.Int_ t.Re t.Im r521), r606, (0 : Int))) = some (t, ansP t { p with Hist := H } fl, 0) := by
    intro t fl ot
    have e := clone_h ot.pl ot.nl
    have e' : hist_Clone (api_Hist.mk t.Hist.Scale t.Hist.Zero (api_Side.mk t.Hist.Pos.Offset t.Hist.Pos.Counts) (api_Side.mk t.Hist.Neg.Offset t.Hist.Neg.Counts)) = some t.Hist := e
    rw [e', bind_some]
    have a := ans t fl ot
    have a' : tocum_answer (api_State.mk t.Some t.Start t.Time t.Int_ t.Re t.Im t.Hist) (api_Point.mk p.Name p.Attrs p.Kind p.Temp p.Mono p.Start p.Time p.Int_ p.Re p.Im (api_Hist.mk H.Scale H.Zero (api_Side.mk H.Pos.Offset H.Pos.Counts) (api_Side.mk H.Neg.Offset H.Neg.Counts)) p.Flags) fl = _ := a
    rw [a', bind_some]
  rw [lett_eq]
  unfold stC
  cases hsm : s.Some
  · rw [bifT (by rfl), bind_some]
    dsimp only
    rw [bifT (by rfl), bind_some, if_pos rfl]
    exact fin (freshS { p with Hist := H }) 1 og
  rw [bifF (by rfl), lett_eq, if_neg (by simp)]
  by_cases h3 : s.Time < p.Start
  · rw [bifTd h3, bind_some]
    dsimp only
    rw [bifT (by rfl), bind_some, if_pos h3]
    exact fin (freshS { p with Hist := H }) 8 og
  rw [bifFd h3, if_neg h3]
  have ea := add_eq (s := s) (q := { p with Hist := H }) most hs hp oh og
  have ea' : tocum_add (api_State.mk true s.Start p.Time s.Int_ s.Re s.Im s.Hist) (api_Point.mk p.Name p.Attrs p.Kind p.Temp p.Mono p.Start p.Time p.Int_ p.Re p.Im (api_Hist.mk H.Scale H.Zero (api_Side.mk H.Pos.Offset H.Pos.Counts) (api_Side.mk H.Neg.Offset H.Neg.Counts)) p.Flags) most = _ := ea
  rw [ea', bind_some]
  cases hc : sumC s { p with Hist := H } most with
  | none =>
    dsimp only
    rw [lett_eq, bifT (by rfl), bind_some]
    dsimp only
    rw [bifT (by rfl), bind_some]
    exact fin (freshS { p with Hist := H }) 16 og
  | some t =>
    dsimp only
    rw [lett_eq, bifF (by rfl), bind_some]
    dsimp only
    rw [bifF (by rfl), bind_some]
    exact fin t 0 (sumC_ok oh og hc).1
theorem fitH_kind {p : api_Point} {temp most : Int} (h1 : chkE p = 0) (h2 : p.Temp = temp) (h3 : p.Flags = 0) : fitH p temp most = if p.Kind = 4 then fitR p.Hist most else (p.Hist, 0) := by
  unfold fitH
  rw [if_neg (fun e => e h1), if_neg (fun e => e h2), if_neg (fun e => e h3)]
theorem tocumNext_eq {s : api_State} {p : api_Point} (most : Int) (hs : I64 s.Int_) (hp : I64 p.Int_) (ha : p.Attrs.length ≤ 1000) (oh : OkH s.Hist) (op : OkH p.Hist) : tocum_Next s p most = some (nextC s p most) := by
  rw [tocumNext_K, chk_eq op, bind_some, lett_eq]
  by_cases h0 : (fitH p 2 most).2 = 0
  · have i := fitH_in h0
    have K := tocumK_ok s p most (fitH p 2 most).1 hs hp ha oh i.goodH.ok
    have ek := fitH_kind (most := most) i.chk i.temp i.flags
    have en : nextC s p most = (if s.Some = true ∧ p.Time ≤ s.Time then (S0, Pt0, 9) else if s.Some = true ∧ p.Start < s.Time then (S0, Pt0, 10)
        else ((stC s (fitP p 2 most) most).1, ansP (stC s (fitP p 2 most) most).1 (fitP p 2 most) (stC s (fitP p 2 most) most).2, 0)) := by
      unfold nextC; rw [if_neg (fun e => e h0)]
    rw [en]
    refine Eq.trans ?_ K
    rw [bifF (by simp [i.chk]), lett_eq, bifF (by simp [i.temp]), lett_eq, bifF (by simp [i.flags]), lett_eq]
    by_cases h4 : p.Kind = 4
    · rw [if_pos h4] at ek
      have g := (good_iff _).1 ((chk0 i.chk).2.2.2.2.2.2.1 h4)
      rw [ek] at h0 ⊢
      rw [bifTd h4, (fitR_eq g most).1, bind_some]
      dsimp only
      rw [bind_some]
      dsimp only
      rw [h0]
    · rw [if_neg h4] at ek
      rw [ek, bifFd h4, bind_some]
      dsimp only
      rw [i.chk]
  · have en : nextC s p most = (S0, Pt0, (fitH p 2 most).2) := by
      unfold nextC; rw [if_pos h0]
    rw [en]
    by_cases h1 : chkE p = 0
    case neg =>
      have e : fitH p 2 most = (p.Hist, chkE p) := by unfold fitH; rw [if_pos h1]
      rw [e, bifT (by simp [h1]), bind_some]
      exact tocumK_err _ _ _ _ _ _ _ _ _ h1
    rw [bifF (by simp [h1]), lett_eq]
    by_cases h2 : p.Temp = 2
    case neg =>
      have e : fitH p 2 most = (p.Hist, 14) := by unfold fitH; rw [if_neg (fun e => e h1), if_pos h2]
      rw [e, bifT (by simp [h2]), bind_some]
      exact tocumK_err _ _ _ _ _ _ _ _ _ (by decide)
    rw [bifF (by simp [h2]), lett_eq]
    by_cases h3 : p.Flags = 0
    case neg =>
      have e : fitH p 2 most = (p.Hist, 3) := by unfold fitH; rw [if_neg (fun e => e h1), if_neg (fun e => e h2), if_pos h3]
      rw [e, bifT (by simp [h3]), bind_some]
      exact tocumK_err _ _ _ _ _ _ _ _ _ (by decide)
    rw [bifF (by simp [h3]), lett_eq]
    have ek := fitH_kind (most := most) h1 h2 h3
    by_cases h4 : p.Kind = 4
    · rw [if_pos h4] at ek
      have g := (good_iff _).1 ((chk0 h1).2.2.2.2.2.2.1 h4)
      rw [ek] at h0 ⊢
      rw [bifTd h4, (fitR_eq g most).1, bind_some]
      dsimp only
      rw [bind_some]
      exact tocumK_err _ _ _ _ _ _ _ _ _ h0
    · rw [if_neg h4] at ek
      rw [ek] at h0
      exact absurd rfl h0
end Go.Lg
namespace Go.Lg
attribute [local irreducible] w64 toU64 toU8 shlU shrU shlB shrB
/-! ### light points -/
def lightA (l : List api_Pair) : Bool := l.all fun a => decide (a.Key.length ≤ 100) && decide (a.Val.length ≤ 100)
theorem rlightA_eq (l : List api_Pair) : ref11_Light l = some (decide (l.length ≤ 20) && lightA l) := by
  unfold ref11_Light
  by_cases h : l.length ≤ 20
  · rw [bifFd (by omega), decide_eq_true h, Bool.true_and]
    have hs : ∀ i : Nat, i < l.length → ref11_Light_lp1 l (i : Int) = some (rndE i (if (decide ((l.getD i P0).Key.length ≤ 100) && decide ((l.getD i P0).Val.length ≤ 100)) = true then none else some false)) := by
      intro i hi
      unfold ref11_Light_lp1
      rw [bifTd (by omega), idx_nat hi, bind_some, bind_some, getD_lt hi]
      by_cases h1 : l[i].Key.length ≤ 100
      · rw [bifFd (by omega), bind_some]
        by_cases h2 : l[i].Val.length ≤ 100
        · rw [bifFd (by omega), lett_eq, w64_succ (by omega), if_pos (by simp [h1, h2])]; rfl
        · rw [bifTd (by omega), if_neg (by simp [h2])]; rfl
      · rw [bifTd (by omega), bind_some, bifT rfl, if_neg (by simp [h1])]; rfl
    rw [scan0 (n := l.length) _ hs (by unfold ref11_Light_lp1; rw [bifFd (by omega)]), flow_E]
    exact all_first (p := fun a : api_Pair => decide (a.Key.length ≤ 100) && decide (a.Val.length ≤ 100)) fun i hi => by rw [getD_lt hi]
  · rw [bifTd (by omega), decide_eq_false h, Bool.false_and]
def lightP (p : api_Point) : Bool := decide (p.Name.length ≤ 100) && ((decide (p.Attrs.length ≤ 20) && lightA p.Attrs) && (decide ((p.Hist.Pos.Counts.length : Int) ≤ 300) && decide ((p.Hist.Neg.Counts.length : Int) ≤ 300)))
theorem rlightP_eq (p : api_Point) : ref12_Light p = some (lightP p) := by
  unfold ref12_Light lightP
  rw [rlightA_eq, light_eq]
  by_cases h : p.Name.length ≤ 100
  · rw [bifTd (by omega), bind_some, bind_some, decide_eq_true h, Bool.true_and]
    cases (decide (p.Attrs.length ≤ 20) && lightA p.Attrs) <;> rfl
  · rw [bifFd (by omega), bind_some, bifF rfl, bind_some, decide_eq_false h, Bool.false_and]
structure LiP (p : api_Point) : Prop where
  la : p.Attrs.length ≤ 20
  lp : (p.Hist.Pos.Counts.length : Int) ≤ 300
  ln : (p.Hist.Neg.Counts.length : Int) ≤ 300
theorem lightP_of {p : api_Point} (h : lightP p = true) : LiP p := by
  unfold lightP at h
  simp only [Bool.and_eq_true, decide_eq_true_eq] at h
  exact ⟨h.2.1.1, h.2.2.1, h.2.2.2⟩
structure IsP (p : api_Point) : Prop where
  i : I64 p.Int_
  h : Is p.Hist
structure IsS (s : api_State) : Prop where
  i : I64 s.Int_
  h : Is s.Hist
theorem LiP.ok {p : api_Point} (l : LiP p) (i : IsP p) : OkH p.Hist := i.h.ok l.lp l.ln
/-! ### by the document -/
/-- a state that has values of a kind alone -/
def OwnS (s : api_State) (kind : Int) : Prop :=
  (kind = 1 → s.Re = 0 ∧ s.Im = 0 ∧ s.Hist = H0) ∧ (kind = 2 → s.Int_ = 0 ∧ s.Im = 0 ∧ s.Hist = H0) ∧ (kind = 4 → s.Int_ = 0 ∧ s.Re = 0 ∧ s.Im = 0) ∧ (kind = 5 → s.Int_ = 0 ∧ s.Hist = H0)
theorem fin0 : finB 0 = true := by decide
theorem add00 : fAdd 0 0 = 0 := by decide +kernel
/-- what a point of its kind alone holds -/
structure KindQ (q : api_Point) : Prop where
  k : q.Kind = 1 ∨ q.Kind = 2 ∨ q.Kind = 4 ∨ q.Kind = 5
  i : q.Kind ≠ 1 → q.Int_ = 0
  r : q.Kind = 1 ∨ q.Kind = 4 → q.Re = 0
  m : q.Kind ≠ 5 → q.Im = 0
  h : q.Kind ≠ 4 → q.Hist = H0
theorem InP.kind {p : api_Point} {temp most : Int} {H : api_Hist} (i : InP p temp most H) (ht : temp ≠ 0) : KindQ { p with Hist := H } := by
  obtain ⟨c1, c2, c3, c4, _⟩ := chk0 i.chk
  have it := i.temp
  unfold KindP at c1
  unfold OwnP at c4
  refine ⟨by dsimp only; omega, fun e => ?_, fun e => ?_, fun e => ?_, fun e => ?_⟩
  · exact c4.1.resolve_left e
  · refine c4.2.1.resolve_left fun q => ?_
    dsimp only at e; omega
  · exact c4.2.2.1.resolve_left e
  · rcases i.hist with ⟨k, _⟩ | ⟨_, _, k⟩
    · exact absurd k e
    · exact k
/-- the answer, where the state has values of the point's kind alone -/
theorem ansP_eq {t : api_State} {q : api_Point} (fl : Int) (kq : KindQ q) (own : OwnS t q.Kind) : ansP t q fl = ⟨q.Name, q.Attrs, q.Kind, 1, q.Mono, t.Start, q.Time, t.Int_, t.Re, t.Im, t.Hist, fl⟩ := by
  unfold ansP
  by_cases h1 : q.Kind = 1
  · obtain ⟨a, b, c⟩ := own.1 h1
    rw [if_pos h1, a, b, c]
  rw [if_neg h1]
  by_cases h2 : q.Kind = 2
  · obtain ⟨a, b, c⟩ := own.2.1 h2
    rw [if_pos h2, a, b, c]
  rw [if_neg h2]
  by_cases h5 : q.Kind = 5
  · obtain ⟨a, b⟩ := own.2.2.2 h5
    rw [if_pos h5, a, b]
  have h4 : q.Kind = 4 := by have := kq.k; omega
  obtain ⟨a, b, c⟩ := own.2.2.1 h4
  rw [if_neg h5, a, b, c]
theorem own_fresh {q : api_Point} (kq : KindQ q) : OwnS (freshS q) q.Kind :=
  ⟨fun e => ⟨kq.r (.inl e), kq.m (by omega), kq.h (by omega)⟩, fun e => ⟨kq.i (by omega), kq.m (by omega), kq.h (by omega)⟩, fun e => ⟨kq.i (by omega), kq.r (.inr e), kq.m (by omega)⟩, fun e => ⟨kq.i (by omega), kq.h (by omega)⟩⟩
theorem own_sum {s : api_State} {q : api_Point} {most : Int} {t : api_State} (kq : KindQ q) (own : OwnS s q.Kind) (h : sumC s q most = some t) : OwnS t q.Kind := by
  unfold sumC at h
  by_cases h1 : q.Kind = 1
  · rw [if_pos h1] at h
    by_cases h2 : I64 (s.Int_ + q.Int_)
    · rw [if_pos h2] at h; cases h
      exact ⟨fun e => own.1 e, fun e => by omega, fun e => by omega, fun e => by omega⟩
    · rw [if_neg h2] at h; cases h
  rw [if_neg h1] at h
  by_cases h4 : q.Kind = 4
  · rw [if_pos h4] at h
    by_cases ht : (togR s.Hist q.Hist most).2 = true
    · rw [if_pos ht] at h; cases h
      exact ⟨fun e => by omega, fun e => by omega, fun e => own.2.2.1 e, fun e => by omega⟩
    · rw [if_neg ht] at h; cases h
  rw [if_neg h4] at h
  split at h
  · cases h
  · cases h
    refine ⟨fun e => by omega, fun e => ?_, fun e => by omega, fun e => own.2.2.2 e⟩
    obtain ⟨a, b, c⟩ := own.2.1 e
    refine ⟨a, ?_, c⟩
    show fAdd s.Im q.Im = 0
    rw [b, kq.m (by omega), add00]
end Go.Lg
namespace Go.Lg
attribute [local irreducible] w64 toU64 toU8 shlU shrU shlB shrB
theorem H0_ok : OkH H0 := H0_good.ok
theorem fitP_same {p : api_Point} {temp most : Int} (h1 : chkE p = 0) (h2 : p.Temp = temp) (h3 : p.Flags = 0) (h4 : p.Kind ≠ 4) : fitH p temp most = (p.Hist, 0) ∧ fitP p temp most = p := by
  have e := fitH_kind (most := most) h1 h2 h3
  rw [if_neg h4] at e
  exact ⟨e, by unfold fitP; rw [e]⟩
def aw (st ti i : Int) : api_Point := ⟨[120], [], 1, 2, false, st, ti, i, 0, 0, H0, 0⟩
theorem aw_label : labelE [120] [] = 0 := by decide
theorem aw_chk {st ti i : Int} (h : 0 ≤ st) (h' : st < ti) (h2 : ti ≤ 1000) : chkE (aw st ti i) = 0 := by
  refine chk_of aw_label ?_ (fun e => by cases e) ?_ ?_ (fun e => by cases e) (fun e => by cases e) (fun e => by cases e)
  · unfold KindP aw; dsimp only; omega
  · unfold TimeP aw; dsimp only; omega
  · unfold OwnP aw; dsimp only; exact ⟨.inl rfl, .inr rfl, .inr rfl, .inr rfl, by omega⟩
theorem aw_next {s : api_State} {st ti i : Int} (h : 0 ≤ st) (h' : st < ti) (h2 : ti ≤ 1000) (hi : I64 i) (hs : I64 s.Int_) (hh : OkH s.Hist) (h3 : s.Some = true → s.Time < ti ∧ s.Time ≤ st) :
    tocum_Next s (aw st ti i) 10 = some ((stC s (aw st ti i) 10).1, ansP (stC s (aw st ti i) 10).1 (aw st ti i) (stC s (aw st ti i) 10).2, 0) := by
  have hc := aw_chk (i := i) h h' h2
  obtain ⟨f1, f2⟩ := fitP_same (temp := 2) (most := 10) hc rfl rfl (show (1 : Int) ≠ 4 by decide)
  rw [tocumNext_eq 10 hs hi (show ([] : List api_Pair).length ≤ 1000 by decide) hh H0_ok]
  unfold nextC
  rw [f1, f2, if_neg (fun e => e rfl), if_neg (fun e => by have := h3 e.1; have : ti ≤ s.Time := e.2; omega), if_neg (fun e => by have := h3 e.1; have : st < s.Time := e.2; omega)]
theorem awake16 : law16_awake = some true := by
  have a1 := aw_next (s := S0) (st := 0) (ti := 10) (i := 5) (by omega) (by omega) (by omega) (by unfold I64; omega) (by unfold I64 S0; decide) H0_ok (fun e => by cases e)
  have s1 : stC S0 (aw 0 10 5) 10 = (⟨true, 0, 10, 5, 0, 0, H0⟩, 1) := by unfold stC; rw [if_pos (show S0.Some = false from rfl)]; rfl
  rw [s1] at a1
  have a2 := aw_next (s := ⟨true, 0, 10, 5, 0, 0, H0⟩) (st := 10) (ti := 20) (i := 3) (by omega) (by omega) (by omega) (by unfold I64; omega) (by unfold I64; decide) H0_ok (fun _ => by dsimp only; omega)
  have s2 : stC ⟨true, 0, 10, 5, 0, 0, H0⟩ (aw 10 20 3) 10 = (⟨true, 0, 20, 8, 0, 0, H0⟩, 0) := by
    have : sumC ⟨true, 0, 10, 5, 0, 0, H0⟩ (aw 10 20 3) 10 = some ⟨true, 0, 20, 8, 0, 0, H0⟩ := by
      unfold sumC; rw [if_pos (show (aw 10 20 3).Kind = 1 from rfl)]; exact if_pos (show I64 ((5 : Int) + 3) by unfold I64; decide)
    unfold stC
    rw [if_neg (by decide), if_neg (by decide), this]
  rw [s2] at a2
  have a3 := aw_next (s := ⟨true, 0, 20, 8, 0, 0, H0⟩) (st := 25) (ti := 30) (i := 2) (by omega) (by omega) (by omega) (by unfold I64; omega) (by unfold I64; decide) H0_ok (fun _ => by dsimp only; omega)
  have s3 : stC ⟨true, 0, 20, 8, 0, 0, H0⟩ (aw 25 30 2) 10 = (⟨true, 25, 30, 2, 0, 0, H0⟩, 8) := by
    unfold stC; rw [if_neg (by decide), if_pos (by decide)]; rfl
  rw [s3] at a3
  have b1 : tocum_Next (api_State.mk false 0 0 0 0 0 (api_Hist.mk 0 0 (api_Side.mk 0 []) (api_Side.mk 0 []))) (api_Point.mk [120] [] 1 2 false 0 10 5 0 0 (api_Hist.mk 0 0 (api_Side.mk 0 []) (api_Side.mk 0 [])) 0) 10 = _ := a1
  have b2 : tocum_Next ⟨true, 0, 10, 5, 0, 0, H0⟩ (api_Point.mk [120] [] 1 2 false 10 20 3 0 0 (api_Hist.mk 0 0 (api_Side.mk 0 []) (api_Side.mk 0 [])) 0) 10 = _ := a2
  have b3 : tocum_Next ⟨true, 0, 20, 8, 0, 0, H0⟩ (api_Point.mk [120] [] 1 2 false 25 30 2 0 0 (api_Hist.mk 0 0 (api_Side.mk 0 []) (api_Side.mk 0 [])) 0) 10 = _ := a3
  unfold law16_awake
  rw [b1, bind_some]
  dsimp only
  rw [b2, bind_some]
  dsimp only
  rw [b3, bind_some]
  rfl
theorem InP.lens {p : api_Point} {temp most : Int} {H : api_Hist} (i : InP p temp most H) : H.Pos.Counts.length ≤ 1000000 ∧ H.Neg.Counts.length ≤ 1000000 := ⟨i.goodH.ok.pl, i.goodH.ok.nl⟩
end Go.Lg
namespace Go.Lg
open Ieee
attribute [local irreducible] w64 toU64 toU8 shlU shrU shlB shrB
/-- at least nought -/
def fGe (n : Nat) : Prop := fS n = false ∨ n % 9223372036854775808 = 0
theorem odd_fin {a : UInt64} (h : fE a.toNat ≠ 2047) : fOdd a.toNat = false := by
  unfold fOdd; exact decide_eq_false fun e => h e.1
theorem less0_iff {a : UInt64} (h : fE a.toNat ≠ 2047) : fLess a 0 = false ↔ fGe a.toNat := by
  have e0 : (0 : UInt64).toNat = 0 := rfl
  have o0 : fOdd (0 : UInt64).toNat = false := by rw [e0]; decide
  rw [fLess_eq (odd_fin h) o0, e0]
  unfold lessN fGe
  have s0 : fS 0 = false := by decide
  rw [s0]
  by_cases h1 : a.toNat % 9223372036854775808 = 0
  · rw [if_pos ⟨h1, rfl⟩]; simp [h1]
  · rw [if_neg (fun e => h1 e.1)]
    cases hs : fS a.toNat
    · simp
    · simp [h1]
theorem nearest_nat (s : Bool) (mag : Nat) (p : Int) : ∃ r, r < 9223372036854775808 ∧ double.nearest s mag p = (if s then 9223372036854775808 + r else r) := by
  have hsw : double.signWeight = 9223372036854775808 := by decide
  have hi := double.infRung_lt
  rw [hsw] at hi
  unfold Format.nearest Format.word
  dsimp only
  split
  · exact ⟨0, by omega, by rw [hsw]⟩
  · exact ⟨_, Nat.lt_of_le_of_lt (Nat.min_le_right ..) hi, by rw [hsw]⟩
theorem nearest_ge (mag : Nat) (p : Int) : fGe (UInt64.ofNat (double.nearest false mag p)).toNat := by
  obtain ⟨r, h1, h2⟩ := nearest_nat false mag p
  left
  rw [h2, if_neg (by simp), UInt64.toNat_ofNat']
  unfold fS
  exact decide_eq_false (by omega)
theorem zero_ge (s : Bool) (p : Int) : fGe (UInt64.ofNat (double.nearest s 0 p)).toNat := by
  right
  rw [nearest_zero]
  cases s <;> decide
theorem zero_W {n : Nat} (h : n % 9223372036854775808 = 0) : fW n = 0 := by
  have e : fE n = 0 := by unfold fE; omega
  have e2 : fM n = 0 := by unfold fM; omega
  unfold fW; rw [if_pos e, e2]
theorem add_fin_eq {a b : UInt64} (ha : fE a.toNat ≠ 2047) (hb : fE b.toNat ≠ 2047) {X Y : Nat} (hX : fW a.toNat * 2 ^ (fX a.toNat - min (fX a.toNat) (fX b.toNat)) = X) (hY : fW b.toNat * 2 ^ (fX b.toNat - min (fX a.toNat) (fX b.toNat)) = Y) :
    fAdd a b = UInt64.ofNat (double.nearest (if fS a.toNat = fS b.toNat then fS a.toNat else if X = Y then false else if Y < X then fS a.toNat else fS b.toNat)
      (if fS a.toNat = fS b.toNat then X + Y else if Y ≤ X then X - Y else Y - X) ((min (fX a.toNat) (fX b.toNat) : Nat) - 1075)) := by
  have ra := read_eq (UInt64.toNat_lt a)
  have rb := read_eq (UInt64.toNat_lt b)
  rw [if_neg ha] at ra
  rw [if_neg hb] at rb
  unfold fAdd Format.add
  rw [ra, rb, sum_write, hX, hY]
  simp only [Option.map_some, Format.write, ite_self]
theorem add_ge {a b : UInt64} (ha : fE a.toNat ≠ 2047) (hb : fE b.toNat ≠ 2047) (ga : fGe a.toNat) (gb : fGe b.toNat) : fGe (fAdd a b).toNat := by
  obtain ⟨X, hX⟩ : ∃ X, fW a.toNat * 2 ^ (fX a.toNat - min (fX a.toNat) (fX b.toNat)) = X := ⟨_, rfl⟩
  obtain ⟨Y, hY⟩ : ∃ Y, fW b.toNat * 2 ^ (fX b.toNat - min (fX a.toNat) (fX b.toNat)) = Y := ⟨_, rfl⟩
  rw [add_fin_eq ha hb hX hY]
  have xa : fS a.toNat = true → X = 0 := by
    intro h
    rcases ga with g | g
    · rw [h] at g; cases g
    · rw [zero_W g, Nat.zero_mul] at hX; exact hX.symm
  have yb : fS b.toNat = true → Y = 0 := by
    intro h
    rcases gb with g | g
    · rw [h] at g; cases g
    · rw [zero_W g, Nat.zero_mul] at hY; exact hY.symm
  cases hs : fS a.toNat <;> cases ht : fS b.toNat
  · rw [if_pos rfl]; exact nearest_ge _ _
  · have := yb ht
    subst this
    rw [if_neg (by simp)]
    by_cases hz : X = 0
    · rw [if_pos hz]; exact nearest_ge _ _
    · rw [if_neg hz, if_pos (by omega)]; exact nearest_ge _ _
  · have := xa hs
    subst this
    rw [if_neg (by simp)]
    by_cases hz : 0 = Y
    · rw [if_pos hz]; exact nearest_ge _ _
    · rw [if_neg hz, if_neg (by omega)]; exact nearest_ge _ _
  · rw [if_pos rfl, if_pos rfl, xa hs, yb ht]; exact zero_ge _ _
theorem sub_ge {a b : UInt64} (ha : fE a.toNat ≠ 2047) (hb : fE b.toNat ≠ 2047) (h : fLess a b = false) : fGe (fSub a b).toNat := by
  rw [sub_add]
  obtain ⟨m1, m2, m3⟩ := fMinus_nat b
  have hw := fW_congr m2 m3
  have hb' : fE (fMinus b).toNat ≠ 2047 := by rw [m2]; exact hb
  obtain ⟨X, hX⟩ : ∃ X, fW a.toNat * 2 ^ (fX a.toNat - min (fX a.toNat) (fX b.toNat)) = X := ⟨_, rfl⟩
  obtain ⟨Y, hY⟩ : ∃ Y, fW b.toNat * 2 ^ (fX b.toNat - min (fX a.toNat) (fX b.toNat)) = Y := ⟨_, rfl⟩
  rw [add_fin_eq ha hb' (X := X) (Y := Y) (by rw [hw.2]; exact hX) (by rw [hw.1, hw.2]; exact hY), m1]
  rw [fLess_eq (odd_fin ha) (odd_fin hb)] at h
  have f1 := (fW_facts a.toNat).2.2.1
  have f2 := (fW_facts b.toNat).2.2.1
  have z1 := fZ_scale a.toNat (min (fX a.toNat) (fX b.toNat)) (by omega) (by omega)
  have z2 := fZ_scale b.toNat (min (fX a.toNat) (fX b.toNat)) (by omega) (by omega)
  rw [hX] at z1
  rw [hY] at z2
  have hp := Nat.two_pow_pos (min (fX a.toNat) (fX b.toNat) - 1)
  have o1 := fZ_mono ha hb
  have o2 := fZ_mono hb ha
  rw [← z1, ← z2, Nat.mul_lt_mul_right hp] at o1 o2
  unfold lessN at h
  cases hs : fS a.toNat <;> cases ht : fS b.toNat <;> rw [hs, ht] at h
  · -- both not negative
    rw [if_neg (by simp)]
    by_cases hz : X = Y
    · rw [if_pos hz]; exact nearest_ge _ _
    · by_cases hy : Y < X
      · rw [if_neg hz, if_pos hy]; exact nearest_ge _ _
      · have hlt := o1.1 (by omega)
        rw [if_neg (by omega), if_neg (by simp), if_pos ⟨rfl, rfl⟩] at h
        exact absurd hlt (of_decide_eq_false h)
  · rw [if_pos (by simp)]; exact nearest_ge _ _
  · by_cases hz : a.toNat % 9223372036854775808 = 0 ∧ b.toNat % 9223372036854775808 = 0
    · have hX0 : X = 0 := by rw [← hX, zero_W hz.1, Nat.zero_mul]
      have hY0 : Y = 0 := by rw [← hY, zero_W hz.2, Nat.zero_mul]
      rw [if_pos (by simp), if_pos (by simp), hX0, hY0]; exact zero_ge _ _
    · rw [if_neg hz, if_neg (by simp), if_neg (by simp)] at h
      cases h
  · rw [if_neg (by simp)]
    by_cases hz : X = Y
    · rw [if_pos hz]; exact nearest_ge _ _
    · by_cases hy : Y < X
      · have hlt := o2.1 hy
        rw [if_neg (by omega), if_pos ⟨rfl, rfl⟩] at h
        exact absurd hlt (of_decide_eq_false h)
      · rw [if_neg hz, if_neg hy]; exact nearest_ge _ _
end Go.Lg
namespace Go.Lg
attribute [local irreducible] w64 toU64 toU8 shlU shrU shlB shrB
theorem rsome_eq {l : List api_Point} (most : Int) (hm : most ≤ 1000) : ref12_Some l most = some (decide ((l.length : Int) ≤ most) && l.all lightP) := by
  unfold ref12_Some
  by_cases h : (l.length : Int) ≤ most
  · rw [bifFd (by omega), decide_eq_true h, Bool.true_and]
    have hs : ∀ i : Nat, i < l.length → ref12_Some_lp1 l (i : Int) = some (rndE i (if lightP (l.getD i Pt0) = true then none else some false)) := by
      intro i hi
      unfold ref12_Some_lp1
      rw [bifTd (by omega), idx_nat hi, bind_some, rlightP_eq, bind_some, getD_lt hi]
      cases lightP l[i]
      · rfl
      · rw [bifF (by rfl), lett_eq, w64_succ (by omega)]; rfl
    rw [scan0 (n := l.length) _ hs (by unfold ref12_Some_lp1; rw [bifFd (by omega)]), flow_E]
    exact all_first fun i hi => by rw [getD_lt hi]
  · rw [bifTd (by omega), decide_eq_false h, Bool.false_and]
theorem one16_eq (l : List api_Point) : ∃ b, law16_one l = some b ∧ (b = true → l.length ≤ 20 ∧ ∀ x ∈ l, lightP x = true ∧ x.Kind = (l.getD 0 Pt0).Kind ∧ x.Mono = (l.getD 0 Pt0).Mono) := by
  unfold law16_one
  rw [rsome_eq 20 (by omega), bind_some]
  cases hb : (decide ((l.length : Int) ≤ 20) && l.all lightP)
  · rw [bifT (by rfl)]; exact ⟨_, rfl, fun h => by cases h⟩
  rw [bifF (by rfl)]
  simp only [Bool.and_eq_true, decide_eq_true_eq, List.all_eq_true] at hb
  have hl : l.length ≤ 20 := by omega
  have hs : ∀ i : Nat, i < l.length → law16_one_lp1 l (i : Int) = some (rndE i (if (decide ((l.getD i Pt0).Kind = (l.getD 0 Pt0).Kind) && decide ((l.getD i Pt0).Mono = (l.getD 0 Pt0).Mono)) = true then none else some false)) := by
    intro i hi
    have h0 : idx l 0 = some (l.getD 0 Pt0) := by rw [idx_0 (by omega), getD_lt (by omega)]
    unfold law16_one_lp1
    rw [bifTd (by omega), idx_nat hi, bind_some, h0, bind_some, getD_lt hi]
    by_cases h1 : l[i].Kind = (l.getD 0 Pt0).Kind
    · rw [decide_eq_true h1, bifF (by rfl), bind_some, bind_some, bind_some]
      by_cases h2 : l[i].Mono = (l.getD 0 Pt0).Mono
      · rw [decide_eq_true h2, bifF (by rfl), lett_eq, w64_succ (by omega), if_pos (by rfl)]; rfl
      · rw [decide_eq_false h2, bifT (by rfl), if_neg (by decide)]; rfl
    · rw [decide_eq_false h1, bifT (by rfl), bind_some, bifT rfl, if_neg (by rw [Bool.false_and]; decide)]; rfl
  rw [scan0 (n := l.length) _ hs (by unfold law16_one_lp1; rw [bifFd (by omega)]), flow_E]
  refine ⟨_, all_first (l := l) (p := fun x => decide (x.Kind = (l.getD 0 Pt0).Kind) && decide (x.Mono = (l.getD 0 Pt0).Mono)) fun i hi => by rw [getD_lt hi], fun h => ⟨hl, fun x hx => ?_⟩⟩
  have := List.all_eq_true.1 h x hx
  simp only [Bool.and_eq_true, decide_eq_true_eq] at this
  exact ⟨hb.2 x hx, this⟩
/-! ### one step -/
/-- what a state may be, behind points of one kind -/
structure SInv (s : api_State) (K : Int) (M : Bool) : Prop where
  some : s.Some = true
  t0 : 0 ≤ s.Start
  t1 : s.Start < s.Time
  t2 : s.Time ≤ 4503599627370496
  own : OwnS s K
  good : Good s.Hist
  int : I64 s.Int_
  mono : M = true → finB s.Re = true ∧ fGe s.Re.toNat ∧ 0 ≤ s.Int_
def freshP (p : api_Point) (H : api_Hist) : api_State := ⟨true, p.Start, p.Time, p.Int_, p.Re, p.Im, H⟩
/-- a point that was taken -/
structure StepC (s : api_State) (p : api_Point) (most : Int) (t : api_State) (q : api_Point) (H : api_Hist) (fl : Int) : Prop where
  inp : InP p 2 most H
  q : q = ⟨p.Name, p.Attrs, p.Kind, 1, p.Mono, t.Start, p.Time, t.Int_, t.Re, t.Im, t.Hist, fl⟩
  time : t.Time = p.Time
  later : s.Some = true → s.Time < p.Time ∧ s.Time ≤ p.Start
  how : (s.Some = false ∧ fl = 1 ∧ t = freshP p H) ∨ (s.Some = true ∧ s.Time < p.Start ∧ fl = 8 ∧ t = freshP p H) ∨ (s.Some = true ∧ p.Start = s.Time ∧ fl = 16 ∧ t = freshP p H) ∨
    (s.Some = true ∧ p.Start = s.Time ∧ fl = 0 ∧ sumC s { p with Hist := H } most = some t ∧ t.Start = s.Start)
theorem fin_iff {a : UInt64} : finB a = true ↔ fE a.toNat ≠ 2047 := by unfold finB; rw [decide_eq_true_eq]
theorem stepC {s : api_State} {p : api_Point} {most : Int} {t : api_State} {q : api_Point} {M : Bool} (hm : p.Mono = M) (hp : I64 p.Int_) (hs : s = S0 ∨ SInv s p.Kind M) (h : nextC s p most = (t, q, 0)) :
    ∃ H fl, StepC s p most t q H fl ∧ SInv t p.Kind M ∧ chkE q = 0 := by
  have os : OwnS s p.Kind := by
    rcases hs with rfl | hs
    · exact ⟨fun _ => ⟨rfl, rfl, rfl⟩, fun _ => ⟨rfl, rfl, rfl⟩, fun _ => ⟨rfl, rfl, rfl⟩, fun _ => ⟨rfl, rfl⟩⟩
    · exact hs.own
  have oh : OkH s.Hist := by
    rcases hs with rfl | hs
    · exact H0_ok
    · exact hs.good.ok
  unfold nextC at h
  by_cases h0 : (fitH p 2 most).2 = 0
  case neg => rw [if_pos h0] at h; exact absurd (congrArg (·.2.2) h) h0
  rw [if_neg (fun e => e h0)] at h
  by_cases h1 : s.Some = true ∧ p.Time ≤ s.Time
  · rw [if_pos h1] at h; exact absurd (show (9 : Int) = 0 from congrArg (·.2.2) h) (by decide)
  rw [if_neg h1] at h
  by_cases h2 : s.Some = true ∧ p.Start < s.Time
  · rw [if_pos h2] at h; exact absurd (show (10 : Int) = 0 from congrArg (·.2.2) h) (by decide)
  rw [if_neg h2] at h
  have i := fitH_in h0
  have kq := i.kind (by decide)
  have hq : fitP p 2 most = { p with Hist := (fitH p 2 most).1 } := rfl
  rw [hq] at h
  generalize (fitH p 2 most).1 = H at *
  have et : (stC s { p with Hist := H } most).1 = t := congrArg (·.1) h
  have eq' : ansP (stC s { p with Hist := H } most).1 { p with Hist := H } (stC s { p with Hist := H } most).2 = q := congrArg (·.2.1) h
  rw [et] at eq'
  have later : s.Some = true → s.Time < p.Time ∧ s.Time ≤ p.Start := by
    intro e
    constructor
    · exact Int.not_le.1 fun x => h1 ⟨e, x⟩
    · exact Int.not_lt.1 fun x => h2 ⟨e, x⟩
  obtain ⟨c1, c2, c3, c4, c5, c6, c7, c8⟩ := chk0 i.chk
  have fr : SInv (freshP p H) p.Kind M := by
    unfold TimeP at c3
    unfold KindP at c1
    have it := i.temp
    refine ⟨rfl, c3.1.1, ?_, c3.1.2, own_fresh kq, i.goodH, hp, fun e => ?_⟩
    · show p.Start < p.Time; omega
    · have e' : p.Mono = true := by rw [hm]; exact e
      have hf : finB p.Re = true := by
        by_cases k2 : p.Kind = 2
        · exact c5 e' k2
        · have : p.Re = 0 := by
            have := c2 e'
            exact kq.r (.inl (by show p.Kind = 1; omega))
          rw [this]; exact fin0
      refine ⟨hf, ?_, (c6 e').1⟩
      exact (less0_iff (fin_iff.1 hf)).1 (c6 e').2
  have fin : ∀ fl, SInv t p.Kind M → 0 ≤ fl → fl ≤ 31 → t.Time = p.Time → chkE (⟨p.Name, p.Attrs, p.Kind, 1, p.Mono, t.Start, p.Time, t.Int_, t.Re, t.Im, t.Hist, fl⟩ : api_Point) = 0 := by
    intro fl si f1 f2 tt
    have ow := si.own
    unfold KindP at c1
    unfold TimeP at c3
    have it := i.temp
    have k3 : p.Kind ≠ 3 := by omega
    refine chk_of c8 ?_ c2 ?_ ?_ (fun e _ => (si.mono (by rw [← hm]; exact e)).1) (fun e => ?_) (fun _ => si.good)
    · unfold KindP; dsimp only; omega
    · unfold TimeP; dsimp only
      have := si.t0; have := si.t1; omega
    · unfold OwnP; dsimp only
      refine ⟨?_, ?_, ?_, ?_, f1, f2⟩
      · by_cases k : p.Kind = 1
        · exact .inl k
        · right
          by_cases k2 : p.Kind = 2
          · exact (ow.2.1 k2).1
          by_cases k4 : p.Kind = 4
          · exact (ow.2.2.1 k4).1
          · exact (ow.2.2.2 (by omega)).1
      · by_cases k : p.Kind = 2 ∨ p.Kind = 3 ∨ p.Kind = 5
        · exact .inl k
        · right
          by_cases k1 : p.Kind = 1
          · exact (ow.1 k1).1
          · exact (ow.2.2.1 (by omega)).2.1
      · by_cases k : p.Kind = 5
        · exact .inl k
        · right
          by_cases k1 : p.Kind = 1
          · exact (ow.1 k1).2.1
          by_cases k2 : p.Kind = 2
          · exact (ow.2.1 k2).2.1
          · exact (ow.2.2.1 (by omega)).2.2
      · by_cases k : p.Kind = 4
        · exact .inl k
        · right
          by_cases k1 : p.Kind = 1
          · exact (ow.1 k1).2.2
          by_cases k2 : p.Kind = 2
          · exact (ow.2.1 k2).2.2
          · exact (ow.2.2.2 (by omega)).2
    · have m := si.mono (by rw [← hm]; exact e)
      exact ⟨m.2.2, (less0_iff (fin_iff.1 m.1)).2 m.2.1⟩
  unfold stC at et eq'
  by_cases hso : s.Some = false
  · rw [if_pos hso] at et eq'
    have et' : t = freshP p H := et.symm
    have si : SInv t p.Kind M := by rw [et']; exact fr
    refine ⟨H, 1, ⟨i, ?_, by rw [et']; rfl, later, .inl ⟨hso, rfl, et'⟩⟩, si, ?_⟩
    · rw [← eq']; exact ansP_eq 1 kq si.own
    · rw [← eq', ansP_eq 1 kq si.own]; exact fin 1 si (by omega) (by omega) (by rw [et']; rfl)
  rw [if_neg hso] at et eq'
  have hso' : s.Some = true := by cases hx : s.Some <;> simp_all
  have hsi : SInv s p.Kind M := by
    rcases hs with rfl | hs
    · cases hso'
    · exact hs
  have lat := later hso'
  by_cases h3 : s.Time < p.Start
  · rw [if_pos h3] at et eq'
    have et' : t = freshP p H := et.symm
    have si : SInv t p.Kind M := by rw [et']; exact fr
    refine ⟨H, 8, ⟨i, ?_, by rw [et']; rfl, later, .inr (.inl ⟨hso', h3, rfl, et'⟩)⟩, si, ?_⟩
    · rw [← eq']; exact ansP_eq 8 kq si.own
    · rw [← eq', ansP_eq 8 kq si.own]; exact fin 8 si (by omega) (by omega) (by rw [et']; rfl)
  rw [if_neg h3] at et eq'
  cases hc : sumC s { p with Hist := H } most with
  | none =>
    rw [hc] at et eq'
    have et' : t = freshP p H := et.symm
    have si : SInv t p.Kind M := by rw [et']; exact fr
    refine ⟨H, 16, ⟨i, ?_, by rw [et']; rfl, later, .inr (.inr (.inl ⟨hso', by omega, rfl, et'⟩))⟩, si, ?_⟩
    · rw [← eq']; exact ansP_eq 16 kq si.own
    · rw [← eq', ansP_eq 16 kq si.own]; exact fin 16 si (by omega) (by omega) (by rw [et']; rfl)
  | some t' =>
    rw [hc] at et eq'
    obtain rfl : t' = t := et
    obtain ⟨o1, o2, o3, o4⟩ := sumC_ok oh i.goodH.ok hc
    have si : SInv t' p.Kind M := by
      have own := own_sum kq os hc
      refine ⟨o2, by rw [o3]; exact hsi.t0, by rw [o3, o4]; have := hsi.t1; show s.Start < p.Time; omega, by rw [o4]; unfold TimeP at c3; exact c3.1.2, own, ?_, ?_, ?_⟩
      · unfold sumC at hc
        by_cases k1 : p.Kind = 1
        · rw [if_pos (show ({ p with Hist := H } : api_Point).Kind = 1 from k1)] at hc
          split at hc
          · cases hc; exact hsi.good
          · cases hc
        rw [if_neg (show ¬ ({ p with Hist := H } : api_Point).Kind = 1 from k1)] at hc
        by_cases k4 : p.Kind = 4
        · rw [if_pos (show ({ p with Hist := H } : api_Point).Kind = 4 from k4)] at hc
          split at hc
          · rename_i ht
            cases hc
            rcases (togR_eq oh i.goodH.ok most).2.2 with e | ⟨_, _, e⟩
            · rw [e] at ht; cases ht
            · rcases e with e | ⟨z, e, g, _⟩
              · rw [e] at ht; cases ht
              · show Good (togR s.Hist H most).1
                rw [e]; exact g
          · cases hc
        rw [if_neg (show ¬ ({ p with Hist := H } : api_Point).Kind = 4 from k4)] at hc
        split at hc
        · cases hc
        · cases hc; exact hsi.good
      · unfold sumC at hc
        split at hc
        · split at hc
          · rename_i hi; cases hc; exact hi
          · cases hc
        split at hc
        · split at hc
          · cases hc; exact hsi.int
          · cases hc
        split at hc
        · cases hc
        · cases hc; exact hsi.int
      · intro e
        have e' : p.Mono = true := by rw [hm]; exact e
        have ms := hsi.mono e
        have mp := fr.mono e
        have k := c2 e'
        unfold sumC at hc
        by_cases k1 : p.Kind = 1
        · rw [if_pos (show ({ p with Hist := H } : api_Point).Kind = 1 from k1)] at hc
          split at hc
          · cases hc
            refine ⟨ms.1, ms.2.1, ?_⟩
            show 0 ≤ s.Int_ + p.Int_
            have : 0 ≤ p.Int_ := mp.2.2
            omega
          · cases hc
        have k2 : p.Kind = 2 := by omega
        rw [if_neg (show ¬ ({ p with Hist := H } : api_Point).Kind = 1 from k1), if_neg (show ¬ ({ p with Hist := H } : api_Point).Kind = 4 by show ¬ p.Kind = 4; omega)] at hc
        have o2 := os.2.1 k2
        have im : p.Im = 0 := kq.m (by show p.Kind ≠ 5; omega)
        have fi : [s.Re, s.Im, p.Re, p.Im].all finB = true := by
          have h1 := ms.1
          have h2 : finB p.Re = true := mp.1
          simp [h1, h2, o2.2.1, im, fin0]
        have fo : [fAdd s.Re p.Re, fAdd s.Im p.Im].all finB = true := by
          cases hx : [fAdd s.Re p.Re, fAdd s.Im p.Im].all finB
          · rw [if_pos ⟨hx, fi⟩] at hc; cases hc
          · rfl
        rw [if_neg (fun x => by have := x.1; have fo' := fo; dsimp only at this; rw [fo'] at this; cases this)] at hc
        cases hc
        refine ⟨?_, ?_, ms.2.2⟩
        · show finB (fAdd s.Re p.Re) = true
          simp only [List.all_cons, Bool.and_eq_true] at fo
          exact fo.1
        · exact add_ge (fin_iff.1 ms.1) (fin_iff.1 mp.1) ms.2.1 mp.2.1
    refine ⟨H, 0, ⟨i, ?_, o4, later, .inr (.inr (.inr ⟨hso', by omega, rfl, hc, o3⟩))⟩, si, ?_⟩
    · rw [← eq']; exact ansP_eq 0 kq si.own
    · rw [← eq', ansP_eq 0 kq si.own]; exact fin 0 si (by omega) (by omega) o4
/-! ### all steps -/
structure Tri where
  p : api_Point
  q : api_Point
  t : api_State
def D3 : Tri := ⟨Pt0, Pt0, S0⟩
/-- the state ahead of the i-th point -/
def stB (l : List Tri) (i : Nat) : api_State := match i with
  | 0 => S0
  | i + 1 => (l.getD i D3).t
structure RunC (most : Int) (K : Int) (M : Bool) (l : List Tri) : Prop where
  step : ∀ i, i < l.length → nextC (stB l i) (l.getD i D3).p most = ((l.getD i D3).t, (l.getD i D3).q, 0)
  pts : ∀ x ∈ l, LiP x.p ∧ IsP x.p ∧ x.p.Kind = K ∧ x.p.Mono = M
theorem getD_mem {α : Type} {l : List α} {i : Nat} {d : α} (h : i < l.length) : l.getD i d ∈ l := by rw [getD_lt h]; exact List.getElem_mem h
theorem RunC.inv {most K : Int} {M : Bool} {l : List Tri} (r : RunC most K M l) : ∀ i, i < l.length → SInv (l.getD i D3).t K M
  | 0, h => by
    have p := r.pts _ (getD_mem (d := D3) h)
    obtain ⟨H, fl, _, si, _⟩ := stepC p.2.2.2 p.2.1.i (.inl rfl) (r.step 0 h)
    rw [p.2.2.1] at si; exact si
  | i + 1, h => by
    have p := r.pts _ (getD_mem (d := D3) h)
    obtain ⟨H, fl, _, si, _⟩ := stepC p.2.2.2 p.2.1.i (.inr (by rw [p.2.2.1]; exact r.inv i (by omega))) (r.step (i + 1) h)
    rw [p.2.2.1] at si; exact si
theorem RunC.before {most K : Int} {M : Bool} {l : List Tri} (r : RunC most K M l) (i : Nat) (h : i ≤ l.length) : (i = 0 ∧ stB l i = S0) ∨ (0 < i ∧ SInv (stB l i) K M) := by
  cases i with
  | zero => exact .inl ⟨rfl, rfl⟩
  | succ i => exact .inr ⟨by omega, r.inv i (by omega)⟩
theorem RunC.at {most K : Int} {M : Bool} {l : List Tri} (r : RunC most K M l) {i : Nat} (h : i < l.length) : ∃ H fl, StepC (stB l i) (l.getD i D3).p most (l.getD i D3).t (l.getD i D3).q H fl ∧ SInv (l.getD i D3).t K M ∧ chkE (l.getD i D3).q = 0 := by
  have p := r.pts _ (getD_mem (d := D3) h)
  obtain ⟨H, fl, a, b, c⟩ := stepC p.2.2.2 p.2.1.i (by
    rcases r.before i (by omega) with ⟨_, e⟩ | ⟨_, e⟩
    · exact .inl e
    · rw [p.2.2.1]; exact .inr e) (r.step i h)
  rw [p.2.2.1] at b
  exact ⟨H, fl, a, b, c⟩
theorem stB_app {l : List Tri} {x : Tri} {i : Nat} (h : i ≤ l.length) : stB (l ++ [x]) i = stB l i := by
  cases i with
  | zero => rfl
  | succ i =>
    unfold stB
    dsimp only
    rw [getD_lt (by simp; omega), getD_lt (by omega), List.getElem_append_left (by omega)]
theorem RunC.snoc {most K : Int} {M : Bool} {l : List Tri} (r : RunC most K M l) {x : Tri} (h : nextC (stB l l.length) x.p most = (x.t, x.q, 0)) (hp : LiP x.p ∧ IsP x.p ∧ x.p.Kind = K ∧ x.p.Mono = M) : RunC most K M (l ++ [x]) := by
  constructor
  · intro i hi
    by_cases e : i < l.length
    · rw [stB_app (by omega), getD_lt (by simp; omega), List.getElem_append_left (by omega)]
      have := r.step i e
      rw [getD_lt e] at this; exact this
    · obtain rfl : i = l.length := by simp at hi; omega
      rw [stB_app (by omega), getD_lt (by simp)]
      simpa using h
  · intro y hy
    rcases List.mem_append.1 hy with hy | hy
    · exact r.pts y hy
    · rw [List.mem_singleton.1 hy]; exact hp
theorem play16 {l0 : List api_Point} {most K : Int} {M : Bool} (hl : l0.length ≤ 20) (hp : ∀ x ∈ l0, LiP x ∧ IsP x ∧ x.Kind = K ∧ x.Mono = M) :
    ∃ l, RunC most K M l ∧ l.length ≤ 20 ∧ law16_play l0 most = some (l.map (·.p), l.map (·.q)) := by
  unfold law16_play
  have L := loop_up (f := law16_play_lp1 l0 most)
    (fun i st => ∃ l, RunC most K M l ∧ l.length ≤ i ∧ st = (l.map (·.p), l.map (·.q), (stB l l.length).Some, (stB l l.length).Start, (stB l l.length).Time, (stB l l.length).Int_, (stB l l.length).Re, (stB l l.length).Im, (stB l l.length).Hist.Scale, (stB l l.length).Hist.Zero, (stB l l.length).Hist.Pos.Offset, (stB l l.length).Hist.Pos.Counts, (stB l l.length).Hist.Neg.Offset, (stB l l.length).Hist.Neg.Counts, (i : Int)))
    l0.length (fun fl => ∃ l, RunC most K M l ∧ l.length ≤ 20 ∧ fl = .go (l.map (·.p), l.map (·.q))) ?_ ?_ l0.length 0 ([], [], false, 0, 0, 0, 0, 0, 0, 0, 0, [], 0, [], 0) (by omega) ⟨[], ⟨fun i h => by simp at h, fun x h => by simp at h⟩, Nat.le_refl _, rfl⟩
  · obtain ⟨fl, h1, l, h2, h3, rfl⟩ := L
    exact ⟨l, h2, h3, by rw [h1, flow_go]⟩
  · rintro i st hi ⟨l, r, hli, rfl⟩
    left
    have px := hp _ (List.getElem_mem hi)
    have ox : OkH l0[i].Hist := px.1.ok px.2.1
    have hs : I64 (stB l l.length).Int_ ∧ OkH (stB l l.length).Hist := by
      rcases r.before l.length (Nat.le_refl _) with ⟨_, e⟩ | ⟨_, e⟩
      · rw [e]; exact ⟨by unfold I64 S0; decide, H0_ok⟩
      · exact ⟨e.int, e.good.ok⟩
    have N := tocumNext_eq most hs.1 px.2.1.i (by have := px.1.la; omega) hs.2 ox
    have N' : tocum_Next (api_State.mk (stB l l.length).Some (stB l l.length).Start (stB l l.length).Time (stB l l.length).Int_ (stB l l.length).Re (stB l l.length).Im (api_Hist.mk (stB l l.length).Hist.Scale (stB l l.length).Hist.Zero (api_Side.mk (stB l l.length).Hist.Pos.Offset (stB l l.length).Hist.Pos.Counts) (api_Side.mk (stB l l.length).Hist.Neg.Offset (stB l l.length).Hist.Neg.Counts))) l0[i] most = _ := N
    unfold law16_play_lp1
    dsimp only
    rw [bifTd (by omega), idx_nat hi, bind_some, N', bind_some]
    unfold law16_play_k2
    dsimp only
    by_cases he : (nextC (stB l l.length) l0[i] most).2.2 = 0
    · rw [bifTd he, idx_nat hi, bind_some, app_ok (by simp; omega), bind_some, app_ok (by simp; omega), bind_some, bind_some]
      dsimp only
      rw [lett_eq, w64_succ (by omega)]
      refine ⟨_, rfl, l ++ [⟨l0[i], (nextC (stB l l.length) l0[i] most).2.1, (nextC (stB l l.length) l0[i] most).1⟩], r.snoc ?_ px, by simp; omega, ?_⟩
      · show nextC (stB l l.length) l0[i] most = _
        rw [← he]
      · have e : stB (l ++ [⟨l0[i], (nextC (stB l l.length) l0[i] most).2.1, (nextC (stB l l.length) l0[i] most).1⟩]) (l ++ [⟨l0[i], (nextC (stB l l.length) l0[i] most).2.1, (nextC (stB l l.length) l0[i] most).1⟩] : List Tri).length = (nextC (stB l l.length) l0[i] most).1 := by
          rw [List.length_append, List.length_singleton]
          show ((l ++ [_]).getD l.length D3).t = _
          rw [getD_lt (by simp)]; simp
        rw [e]
        simp
    · rw [bifFd he, bind_some]
      dsimp only
      rw [lett_eq, w64_succ (by omega)]
      exact ⟨_, rfl, l, r, by omega, rfl⟩
  · rintro st ⟨l, r, hli, rfl⟩
    left
    refine ⟨_, ?_, l, r, by omega, rfl⟩
    unfold law16_play_lp1
    dsimp only
    rw [bifFd (by omega)]
end Go.Lg
namespace Go.Lg
attribute [local irreducible] w64 toU64 toU8 shlU shrU shlB shrB
theorem map_idx {l : List Tri} {i : Nat} (h : i < l.length) (f : Tri → api_Point) : idx (l.map f) (i : Int) = some (f (l.getD i D3)) := by
  rw [idx_nat (by simpa using h), getD_lt h]; simp
theorem tri_facts {most K : Int} {M : Bool} {l : List Tri} (r : RunC most K M l) {i : Nat} (h : i < l.length) :
    ∃ fl H, (l.getD i D3).q.Flags = fl ∧ (l.getD i D3).q.Temp = 1 ∧ (l.getD i D3).q.Time = (l.getD i D3).p.Time ∧ (l.getD i D3).t.Time = (l.getD i D3).p.Time ∧ (l.getD i D3).q.Start = (l.getD i D3).t.Start ∧ chkE (l.getD i D3).q = 0 ∧ SInv (l.getD i D3).t K M ∧
      InP (l.getD i D3).p 2 most H ∧ (l.getD i D3).q.Int_ = (l.getD i D3).t.Int_ ∧ (l.getD i D3).q.Hist = (l.getD i D3).t.Hist ∧ (l.getD i D3).q.Kind = K ∧ (l.getD i D3).q.Mono = M ∧
      ((i = 0 ∧ fl = 1 ∧ (l.getD i D3).t = freshP (l.getD i D3).p H) ∨ (0 < i ∧ (l.getD (i - 1) D3).t.Time = (l.getD (i - 1) D3).p.Time ∧ (l.getD (i - 1) D3).p.Time < (l.getD i D3).p.Time ∧ SInv (l.getD (i - 1) D3).t K M ∧
        (((l.getD (i - 1) D3).p.Time < (l.getD i D3).p.Start ∧ fl = 8 ∧ (l.getD i D3).t = freshP (l.getD i D3).p H) ∨
         ((l.getD i D3).p.Start = (l.getD (i - 1) D3).p.Time ∧ fl = 16 ∧ (l.getD i D3).t = freshP (l.getD i D3).p H) ∨
         ((l.getD i D3).p.Start = (l.getD (i - 1) D3).p.Time ∧ fl = 0 ∧ sumC (l.getD (i - 1) D3).t { (l.getD i D3).p with Hist := H } most = some (l.getD i D3).t ∧ (l.getD i D3).t.Start = (l.getD (i - 1) D3).t.Start)))) := by
  obtain ⟨H, fl, sc, si, hc⟩ := r.at h
  have hpt := r.pts _ (getD_mem (d := D3) h)
  refine ⟨fl, H, by rw [sc.q], by rw [sc.q], by rw [sc.q], sc.time, by rw [sc.q], hc, si, sc.inp, by rw [sc.q], by rw [sc.q], by rw [sc.q]; exact hpt.2.2.1, by rw [sc.q]; exact hpt.2.2.2, ?_⟩
  cases i with
  | zero =>
    rcases sc.how with ⟨_, h2, h3⟩ | ⟨h1, _⟩ | ⟨h1, _⟩ | ⟨h1, _⟩
    · exact .inl ⟨rfl, h2, h3⟩
    · cases h1
    · cases h1
    · cases h1
  | succ i =>
    right
    have sp := r.inv i (by omega)
    obtain ⟨H', fl', sc', _, _⟩ := r.at (i := i) (by omega)
    have hb : stB l (i + 1) = (l.getD i D3).t := rfl
    have ti := sc'.time
    have lat := sc.later
    have how := sc.how
    rw [hb] at lat how
    have so := sp.some
    refine ⟨by omega, ti, ?_, sp, ?_⟩
    · have := (lat so).1
      show (l.getD i D3).p.Time < _
      rw [← ti]; exact this
    · show ((l.getD i D3).p.Time < _ ∧ _) ∨ (_ = (l.getD i D3).p.Time ∧ _) ∨ (_ = (l.getD i D3).p.Time ∧ _ ∧ sumC (l.getD i D3).t _ most = _ ∧ _ = (l.getD i D3).t.Start)
      rw [← ti]
      rcases how with ⟨h1, _⟩ | ⟨_, h2, h3, h4⟩ | ⟨_, h2, h3, h4⟩ | ⟨_, h2, h3, h4, h5⟩
      · rw [so] at h1; cases h1
      · exact .inl ⟨h2, h3, h4⟩
      · exact .inr (.inl ⟨h2, h3, h4⟩)
      · exact .inr (.inr ⟨h2, h3, h4, h5⟩)
end Go.Lg
namespace Go.Lg
attribute [local irreducible] w64 toU64 toU8 shlU shrU shlB shrB
noncomputable def levR (a b : api_Hist) : api_Hist × api_Hist := match fold_Level a b with
  | some (x, y, _) => (x, y)
  | none => (H0, H0)
theorem levR_eq {a b : api_Hist} (ga : Good a) (gb : Good b) : fold_Level a b = some ((levR a b).1, (levR a b).2, 0) ∧ Lev a b (levR a b).1 (levR a b).2 := by
  obtain ⟨x, y, h1, _, h2⟩ := Level_good ga gb
  have : levR a b = (x, y) := by unfold levR; rw [h1]
  rw [this]; exact ⟨h1, h2⟩
noncomputable def subR (a b : api_Hist) : api_Hist × Int := subE (levR a b).1 (levR a b).2
noncomputable def lessV (s : api_State) (q : api_Point) : (Int × UInt64 × UInt64 × api_Hist) × Int :=
  if q.Kind = 1 then (if q.Mono = true ∧ q.Int_ < s.Int_ then ((0, 0, 0, H0), 4) else if ¬ I64 (q.Int_ - s.Int_) then ((0, 0, 0, H0), 16) else ((q.Int_ - s.Int_, 0, 0, H0), 0))
  else if q.Kind = 2 then (if q.Mono = true ∧ fLess q.Re s.Re = true then ((0, 0, 0, H0), 4) else if finB (fSub q.Re s.Re) = false ∧ [q.Re, s.Re].all finB = true then ((0, 0, 0, H0), 16) else ((0, fSub q.Re s.Re, 0, H0), 0))
  else if q.Kind = 5 then (if [fSub q.Re s.Re, fSub q.Im s.Im].all finB = false ∧ [q.Re, q.Im, s.Re, s.Im].all finB = true then ((0, 0, 0, H0), 16) else ((0, fSub q.Re s.Re, fSub q.Im s.Im, H0), 0))
  else if (subR q.Hist s.Hist).2 ≠ 0 then ((0, 0, 0, H0), 4) else ((0, 0, 0, (subR q.Hist s.Hist).1), 0)
noncomputable def begC (s : api_State) (p : api_Point) : Int := if s.Some = false then 1 else if p.Start ≤ s.Start then 0 else if s.Time < p.Start then 10 else 2
noncomputable def stepV (s : api_State) (q : api_Point) : api_State × api_Point :=
  if begC s q ≠ 0 then (freshS q, ⟨q.Name, q.Attrs, q.Kind, 2, q.Mono, q.Start, q.Time, q.Int_, q.Re, q.Im, q.Hist, begC s q⟩)
  else if (lessV s q).2 = 0 then (⟨true, q.Start, q.Time, q.Int_, q.Re, q.Im, if q.Kind = 4 then (levR q.Hist s.Hist).1 else q.Hist⟩,
    ⟨q.Name, q.Attrs, q.Kind, 2, q.Mono, s.Time, q.Time, (lessV s q).1.1, (lessV s q).1.2.1, (lessV s q).1.2.2.1, (lessV s q).1.2.2.2, 0⟩)
  else (freshS q, ⟨q.Name, q.Attrs, q.Kind, 2, q.Mono, s.Time, q.Time, q.Int_, q.Re, q.Im, q.Hist, (lessV s q).2⟩)
abbrev late (s : api_State) (p : api_Point) : Prop := s.Some = true ∧ (p.Start < s.Start ∨ (s.Start < p.Start ∧ p.Start < s.Time))
noncomputable def nextD (s : api_State) (p : api_Point) (most : Int) : api_State × api_Point × Int :=
  if (fitH p 1 most).2 ≠ 0 then (S0, Pt0, (fitH p 1 most).2)
  else if s.Some = true ∧ p.Time ≤ s.Time then (S0, Pt0, 9)
  else if late s p then (S0, Pt0, 10)
  else ((stepV s (fitP p 1 most)).1, (stepV s (fitP p 1 most)).2, 0)
end Go.Lg
namespace Go.Lg
attribute [local irreducible] w64 toU64 toU8 shlU shrU shlB shrB
/-- what is told of a point whose epoch goes on -/
structure Less (s : api_State) (p : api_Point) (H : api_Hist) (t : api_State) (q : api_Point) : Prop where
  some : s.Some = true
  start : p.Start = s.Start
  qst : q.Start = s.Time
  how : (q.Flags ≠ 0 ∧ q.Flags ≠ 1 ∧ q.Flags ≠ 2 ∧ q.Flags ≠ 10 ∧ q.Int_ = p.Int_ ∧ q.Hist = H ∧ t = freshP p H ∧ (p.Kind = 1 → (q.Flags = 4 ↔ p.Mono = true ∧ p.Int_ < s.Int_))) ∨
    (q.Flags = 0 ∧ (p.Kind = 1 → ¬ (p.Mono = true ∧ p.Int_ < s.Int_) ∧ I64 (p.Int_ - s.Int_) ∧ q.Int_ = p.Int_ - s.Int_) ∧ t = freshP p (if p.Kind = 4 then (levR H s.Hist).1 else H) ∧ (p.Kind = 4 → (subR H s.Hist).2 = 0 ∧ q.Hist = (subR H s.Hist).1))
/-- a point that was taken -/
structure StepD (s : api_State) (p : api_Point) (most : Int) (t : api_State) (q : api_Point) (H : api_Hist) : Prop where
  inp : InP p 1 most H
  temp : q.Temp = 2
  qtime : q.Time = p.Time
  kind : q.Kind = p.Kind ∧ q.Mono = p.Mono
  later : s.Some = true → s.Time < p.Time ∧ s.Start ≤ p.Start ∧ (p.Start = s.Start ∨ s.Time ≤ p.Start)
  how : (s.Some = false ∧ q.Flags = 1 ∧ q.Start = p.Start ∧ q.Int_ = p.Int_ ∧ q.Hist = H ∧ t = freshP p H) ∨
    (s.Some = true ∧ s.Start < p.Start ∧ q.Flags = (if s.Time < p.Start then 10 else 2) ∧ q.Start = p.Start ∧ q.Int_ = p.Int_ ∧ q.Hist = H ∧ t = freshP p H) ∨ Less s p H t q
theorem lev_eq_len {a b : api_Hist} (ga : Good a) (gb : Good b) : Good (levR a b).1 := (levR_eq ga gb).2.gx
theorem DnS.len {k : Nat} {s t : api_Side} (h : DnS k s t) : t.Counts.length ≤ s.Counts.length := by
  rcases h with ⟨_, rfl⟩ | ⟨hn, h⟩
  · exact Nat.zero_le _
  · exact h.le (p2 k) hn
theorem sub_good {a b : api_Hist} (ga : Good a) (gb : Good b) (h : (subR a b).2 = 0) : Good (subR a b).1 ∧ (subR a b).1.Pos.Counts.length ≤ a.Pos.Counts.length ∧ (subR a b).1.Neg.Counts.length ≤ a.Neg.Counts.length := by
  have l := (levR_eq ga gb).2
  obtain ⟨g, _, h1, h2, _⟩ := (Sums.one l.gy).sub l.gx (by rw [l.sx, l.sy]) h
  have d1 := l.dx.p.len
  have d2 := l.dx.n.len
  exact ⟨g, Nat.le_trans h1 d1, Nat.le_trans h2 d2⟩
theorem stepD {s : api_State} {p : api_Point} {most : Int} {t : api_State} {q : api_Point} {M : Bool} (hm : p.Mono = M) (hp : I64 p.Int_) (hs : s = S0 ∨ SInv s p.Kind M) (h : nextD s p most = (t, q, 0)) :
    ∃ H, StepD s p most t q H ∧ SInv t p.Kind M ∧ chkE q = 0 ∧ (q.Kind = 4 → (q.Hist.Pos.Counts.length : Int) ≤ most ∧ (q.Hist.Neg.Counts.length : Int) ≤ most) ∧ Good q.Hist := by
  have gs : Good s.Hist := by
    rcases hs with rfl | hs
    · exact H0_good
    · exact hs.good
  unfold nextD at h
  by_cases h0 : (fitH p 1 most).2 = 0
  case neg => rw [if_pos h0] at h; exact absurd (congrArg (·.2.2) h) h0
  rw [if_neg (fun e => e h0)] at h
  by_cases h1 : s.Some = true ∧ p.Time ≤ s.Time
  · rw [if_pos h1] at h; exact absurd (show (9 : Int) = 0 from congrArg (·.2.2) h) (by decide)
  rw [if_neg h1] at h
  by_cases h2 : late s p
  · rw [if_pos h2] at h; exact absurd (show (10 : Int) = 0 from congrArg (·.2.2) h) (by decide)
  rw [if_neg h2] at h
  have i := fitH_in h0
  have kq := i.kind (by decide)
  have hq : fitP p 1 most = { p with Hist := (fitH p 1 most).1 } := rfl
  rw [hq] at h
  generalize (fitH p 1 most).1 = H at *
  have et : (stepV s { p with Hist := H }).1 = t := congrArg (·.1) h
  have eq' : (stepV s { p with Hist := H }).2 = q := congrArg (·.2.1) h
  have later : s.Some = true → s.Time < p.Time ∧ s.Start ≤ p.Start ∧ (p.Start = s.Start ∨ s.Time ≤ p.Start) := by
    intro e
    have a : s.Time < p.Time := Int.not_le.1 fun x => h1 ⟨e, x⟩
    have b : ¬ (p.Start < s.Start ∨ (s.Start < p.Start ∧ p.Start < s.Time)) := fun x => h2 ⟨e, x⟩
    omega
  obtain ⟨c1, c2, c3, c4, c5, c6, c7, c8⟩ := chk0 i.chk
  have it := i.temp
  have c1' := c1
  have c3' := c3
  unfold TimeP at c3'
  unfold KindP at c1'
  have gH := i.goodH
  have frg : ∀ H', Good H' → (p.Kind ≠ 4 → H' = H0) → SInv (freshP p H') p.Kind M := by
    intro H' g' z'
    refine ⟨rfl, c3'.1.1, ?_, c3'.1.2, ?_, g', hp, fun e => ?_⟩
    · show p.Start < p.Time; omega
    · exact ⟨fun e => ⟨kq.r (.inl e), kq.m (show p.Kind ≠ 5 by omega), z' (by omega)⟩, fun e => ⟨kq.i (show p.Kind ≠ 1 by omega), kq.m (show p.Kind ≠ 5 by omega), z' (by omega)⟩, fun e => ⟨kq.i (show p.Kind ≠ 1 by omega), kq.r (.inr e), kq.m (show p.Kind ≠ 5 by omega)⟩, fun e => ⟨kq.i (show p.Kind ≠ 1 by omega), z' (by omega)⟩⟩
    · have e' : p.Mono = true := by rw [hm]; exact e
      have hf : finB p.Re = true := by
        by_cases k2 : p.Kind = 2
        · exact c5 e' k2
        · have : p.Re = 0 := by
            have := c2 e'
            exact kq.r (.inl (by show p.Kind = 1; omega))
          rw [this]; exact fin0
      refine ⟨hf, ?_, (c6 e').1⟩
      exact (less0_iff (fin_iff.1 hf)).1 (c6 e').2
  have fr : SInv (freshP p H) p.Kind M := frg H gH fun e => kq.h e
  have lens : p.Kind = 4 → (H.Pos.Counts.length : Int) ≤ most ∧ (H.Neg.Counts.length : Int) ≤ most := by
    intro k
    rcases i.hist with ⟨_, _, _, _, _, l1, l2⟩ | ⟨k', _⟩
    · exact ⟨l1, l2⟩
    · exact absurd k k'
  -- the answer with the point's own values
  have chkp : ∀ st fl, 0 ≤ st → st < p.Time → 0 ≤ fl → fl ≤ 31 → chkE (⟨p.Name, p.Attrs, p.Kind, 2, p.Mono, st, p.Time, p.Int_, p.Re, p.Im, H, fl⟩ : api_Point) = 0 := by
    intro st fl s1 s2 f1 f2
    refine chk_of c8 ?_ c2 ?_ ?_ c5 c6 (fun _ => gH)
    · unfold KindP; dsimp only; omega
    · unfold TimeP; dsimp only; omega
    · unfold OwnP at c4 ⊢; dsimp only
      refine ⟨c4.1, c4.2.1, c4.2.2.1, ?_, f1, f2⟩
      by_cases k : p.Kind = 4
      · exact .inl k
      · exact .inr (kq.h k)
  unfold stepV at et eq'
  by_cases h3 : begC s { p with Hist := H } = 0
  case neg =>
    rw [if_pos h3] at et eq'
    have et' : t = freshP p H := et.symm
    subst et'
    subst eq'
    unfold begC at h3 ⊢
    by_cases hso : s.Some = false
    · refine ⟨H, ⟨i, rfl, rfl, ⟨rfl, rfl⟩, later, .inl ⟨hso, ?_, rfl, rfl, rfl, rfl⟩⟩, fr, ?_, lens, gH⟩
      · show (if s.Some = false then (1 : Int) else _) = 1
        rw [if_pos hso]
      · dsimp only
        rw [if_pos hso]
        exact chkp p.Start 1 c3'.1.1 (by omega) (by omega) (by omega)
    · have hso' : s.Some = true := by cases hx : s.Some <;> simp_all
      rw [if_neg hso] at h3
      dsimp only at h3
      by_cases h4 : p.Start ≤ s.Start
      · rw [if_pos h4] at h3; exact absurd rfl h3
      · have hf : (if s.Some = false then (1 : Int) else if p.Start ≤ s.Start then 0 else if s.Time < p.Start then 10 else 2) = if s.Time < p.Start then 10 else 2 := by rw [if_neg hso, if_neg h4]
        refine ⟨H, ⟨i, rfl, rfl, ⟨rfl, rfl⟩, later, .inr (.inl ⟨hso', by omega, hf, rfl, rfl, rfl, rfl⟩)⟩, fr, ?_, lens, gH⟩
        dsimp only
        rw [hf]
        exact chkp p.Start _ c3'.1.1 (by omega) (by split <;> omega) (by split <;> omega)
  rw [if_neg (fun e => e h3)] at et eq'
  have hso' : s.Some = true := by
    cases hx : s.Some
    · unfold begC at h3; rw [if_pos hx] at h3; exact absurd h3 (by decide)
    · rfl
  have hsi : SInv s p.Kind M := by
    rcases hs with rfl | hs
    · cases hso'
    · exact hs
  have lat := later hso'
  have hst : p.Start = s.Start := by
    unfold begC at h3
    rw [if_neg (by rw [hso']; decide)] at h3
    dsimp only at h3
    by_cases h4 : p.Start ≤ s.Start
    · omega
    · rw [if_neg h4] at h3; split at h3 <;> exact absurd h3 (by decide)
  have t0 := hsi.t0; have t1 := hsi.t1
  by_cases h4 : (lessV s { p with Hist := H }).2 = 0
  case neg =>
    rw [if_neg h4] at et eq'
    have et' : t = freshP p H := et.symm
    subst et'
    subst eq'
    have hw : (lessV s { p with Hist := H }).2 = 4 ∨ (lessV s { p with Hist := H }).2 = 16 := by
      unfold lessV at h4 ⊢
      split
      · split
        · exact .inl rfl
        · split
          · exact .inr rfl
          · rename_i a b c; rw [if_pos a, if_neg b, if_neg c] at h4; exact absurd rfl h4
      · split
        · split
          · exact .inl rfl
          · split
            · exact .inr rfl
            · rename_i a b c d; rw [if_neg a, if_pos b, if_neg c, if_neg d] at h4; exact absurd rfl h4
        · split
          · split
            · exact .inr rfl
            · rename_i a b c d; rw [if_neg a, if_neg b, if_pos c, if_neg d] at h4; exact absurd rfl h4
          · split
            · exact .inl rfl
            · rename_i a b c d; rw [if_neg a, if_neg b, if_neg c, if_neg d] at h4; exact absurd rfl h4
    refine ⟨H, ⟨i, rfl, rfl, ⟨rfl, rfl⟩, later, .inr (.inr ⟨hso', hst, rfl, .inl ⟨h4, ?_, ?_, ?_, rfl, rfl, rfl, fun k1 => ?_⟩⟩)⟩, fr, ?_, lens, gH⟩
    · dsimp only; omega
    · dsimp only; omega
    · dsimp only; omega
    · dsimp only
      unfold lessV
      rw [if_pos (show ({ p with Hist := H } : api_Point).Kind = 1 from k1)]
      dsimp only
      by_cases c : p.Mono = true ∧ p.Int_ < s.Int_
      · rw [if_pos c]; exact ⟨fun _ => c, fun _ => rfl⟩
      · rw [if_neg c]
        refine ⟨fun e => ?_, fun e => absurd e c⟩
        split at e
        · exact absurd (show (16 : Int) = 4 from e) (by decide)
        · exact absurd (show (0 : Int) = 4 from e) (by decide)
    · exact chkp s.Time _ (by omega) lat.1 (by omega) (by omega)
  rw [if_pos h4] at et eq'
  subst eq'
  have ht : t = freshP p (if p.Kind = 4 then (levR H s.Hist).1 else H) := et.symm
  have gl : Good (if p.Kind = 4 then (levR H s.Hist).1 else H) := by
    split
    · exact lev_eq_len gH gs
    · exact gH
  have si : SInv t p.Kind M := by
    rw [ht]; refine frg _ gl fun k => ?_
    rw [if_neg k]; exact kq.h k
  have vals : (p.Kind = 1 ∧ (lessV s { p with Hist := H }).1 = (p.Int_ - s.Int_, 0, 0, H0) ∧ ¬ (p.Mono = true ∧ p.Int_ < s.Int_) ∧ I64 (p.Int_ - s.Int_)) ∨
      (p.Kind = 2 ∧ (lessV s { p with Hist := H }).1 = (0, fSub p.Re s.Re, 0, H0) ∧ ¬ (p.Mono = true ∧ fLess p.Re s.Re = true) ∧ ¬ (finB (fSub p.Re s.Re) = false ∧ [p.Re, s.Re].all finB = true)) ∨
      (p.Kind = 5 ∧ (lessV s { p with Hist := H }).1 = (0, fSub p.Re s.Re, fSub p.Im s.Im, H0)) ∨
      (p.Kind = 4 ∧ (lessV s { p with Hist := H }).1 = (0, 0, 0, (subR H s.Hist).1) ∧ (subR H s.Hist).2 = 0) := by
    unfold lessV at h4 ⊢
    dsimp only at h4 ⊢
    by_cases k1 : p.Kind = 1
    · rw [if_pos k1] at h4 ⊢
      by_cases a : p.Mono = true ∧ p.Int_ < s.Int_
      · rw [if_pos a] at h4; exact absurd (show (4 : Int) = 0 from h4) (by decide)
      · rw [if_neg a] at h4 ⊢
        by_cases b : I64 (p.Int_ - s.Int_)
        · rw [if_neg (fun e => e b)]; exact .inl ⟨k1, rfl, a, b⟩
        · rw [if_pos b] at h4; exact absurd (show (16 : Int) = 0 from h4) (by decide)
    rw [if_neg k1] at h4 ⊢
    by_cases k2 : p.Kind = 2
    · rw [if_pos k2] at h4 ⊢
      by_cases a : p.Mono = true ∧ fLess p.Re s.Re = true
      · rw [if_pos a] at h4; exact absurd (show (4 : Int) = 0 from h4) (by decide)
      · rw [if_neg a] at h4 ⊢
        by_cases b : finB (fSub p.Re s.Re) = false ∧ [p.Re, s.Re].all finB = true
        · rw [if_pos b] at h4; exact absurd (show (16 : Int) = 0 from h4) (by decide)
        · rw [if_neg b]; exact .inr (.inl ⟨k2, rfl, a, b⟩)
    rw [if_neg k2] at h4 ⊢
    by_cases k5 : p.Kind = 5
    · rw [if_pos k5] at h4 ⊢
      split at h4
      · exact absurd (show (16 : Int) = 0 from h4) (by decide)
      · rename_i b
        rw [if_neg b]; exact .inr (.inr (.inl ⟨k5, rfl⟩))
    rw [if_neg k5] at h4 ⊢
    by_cases a : (subR H s.Hist).2 = 0
    · rw [if_neg (fun e => e a)]; exact .inr (.inr (.inr ⟨by omega, rfl, a⟩))
    · rw [if_pos a] at h4; exact absurd (show (4 : Int) = 0 from h4) (by decide)
  refine ⟨H, ⟨i, rfl, rfl, ⟨rfl, rfl⟩, later, .inr (.inr ⟨hso', hst, rfl, .inr ⟨rfl, fun k1 => ?_, ht, fun k4 => ?_⟩⟩)⟩, si, ?_, fun k4 => ?_, ?_⟩
  · rcases vals with ⟨_, e, a, b⟩ | ⟨k, _⟩ | ⟨k, _⟩ | ⟨k, _⟩
    · exact ⟨a, b, congrArg (·.1) e⟩
    · omega
    · omega
    · omega
  · rcases vals with ⟨k, _⟩ | ⟨k, _⟩ | ⟨k, _⟩ | ⟨k, e, a⟩
    · omega
    · omega
    · omega
    · exact ⟨a, congrArg (·.2.2.2) e⟩
  · have tm : TimeP ({ p with Start := s.Time } : api_Point) := by unfold TimeP; dsimp only; omega
    have kp : ∀ st i r m h f, KindP (⟨p.Name, p.Attrs, p.Kind, 2, p.Mono, st, p.Time, i, r, m, h, f⟩ : api_Point) := by intros; unfold KindP; dsimp only; omega
    have tp : ∀ i r m h f, TimeP (⟨p.Name, p.Attrs, p.Kind, 2, p.Mono, s.Time, p.Time, i, r, m, h, f⟩ : api_Point) := by intros; unfold TimeP; dsimp only; omega
    rcases vals with ⟨k, e, a, b⟩ | ⟨k, e, a, b⟩ | ⟨k, e⟩ | ⟨k, e, a⟩
    · rw [e]
      refine chk_of c8 (kp _ _ _ _ _ _) c2 (tp _ _ _ _ _) ?_ (fun _ k2 => by have : p.Kind = 2 := k2; omega) (fun m => ⟨?_, less_00⟩) (fun k4 => by have : p.Kind = 4 := k4; omega)
      · unfold OwnP; exact ⟨.inl k, .inr rfl, .inr rfl, .inr rfl, (show (0 : Int) ≤ 0 ∧ (0 : Int) ≤ 31 by omega)⟩
      · have : ¬ p.Int_ < s.Int_ := fun x => a ⟨m, x⟩
        show 0 ≤ p.Int_ - s.Int_; omega
    · rw [e]
      have fb : p.Mono = true → finB p.Re = true ∧ finB s.Re = true ∧ finB (fSub p.Re s.Re) = true := by
        intro m
        have f1 := c5 m k
        have f2 := (hsi.mono (by rw [← hm]; exact m)).1
        refine ⟨f1, f2, ?_⟩
        cases hx : finB (fSub p.Re s.Re)
        · exact absurd ⟨hx, by simp [f1, f2]⟩ b
        · rfl
      refine chk_of c8 (kp _ _ _ _ _ _) c2 (tp _ _ _ _ _) ?_ (fun m _ => (fb m).2.2) (fun m => ⟨Int.le_refl _, ?_⟩) (fun k4 => by have : p.Kind = 4 := k4; omega)
      · unfold OwnP; exact ⟨.inr rfl, .inl (.inl k), .inr rfl, .inr rfl, (show (0 : Int) ≤ 0 ∧ (0 : Int) ≤ 31 by omega)⟩
      · have f := fb m
        refine (less0_iff (fin_iff.1 f.2.2)).2 (sub_ge (fin_iff.1 f.1) (fin_iff.1 f.2.1) ?_)
        cases hx : fLess p.Re s.Re
        · rfl
        · exact absurd ⟨m, hx⟩ a
    · rw [e]
      refine chk_of c8 (kp _ _ _ _ _ _) c2 (tp _ _ _ _ _) ?_ (fun _ k2 => by have : p.Kind = 2 := k2; omega) (fun m => by have := c2 m; omega) (fun k4 => by have : p.Kind = 4 := k4; omega)
      unfold OwnP; exact ⟨.inr rfl, .inl (.inr (.inr k)), .inl k, .inr rfl, (show (0 : Int) ≤ 0 ∧ (0 : Int) ≤ 31 by omega)⟩
    · rw [e]
      refine chk_of c8 (kp _ _ _ _ _ _) c2 (tp _ _ _ _ _) ?_ (fun _ k2 => by have : p.Kind = 2 := k2; omega) (fun m => by have := c2 m; omega) (fun _ => (sub_good gH gs a).1)
      unfold OwnP; exact ⟨.inr rfl, .inr rfl, .inr rfl, .inl k, (show (0 : Int) ≤ 0 ∧ (0 : Int) ≤ 31 by omega)⟩
  · rcases vals with ⟨k, _⟩ | ⟨k, _⟩ | ⟨k, _⟩ | ⟨k, e, a⟩
    · have : p.Kind = 4 := k4; omega
    · have : p.Kind = 4 := k4; omega
    · have : p.Kind = 4 := k4; omega
    · have l := sub_good gH gs a
      have l2 := lens k
      rw [e]
      show ((subR H s.Hist).1.Pos.Counts.length : Int) ≤ most ∧ ((subR H s.Hist).1.Neg.Counts.length : Int) ≤ most
      omega
  · rcases vals with ⟨k, e, _⟩ | ⟨k, e, _⟩ | ⟨k, e⟩ | ⟨k, e, a⟩
    · rw [e]; exact H0_good
    · rw [e]; exact H0_good
    · rw [e]; exact H0_good
    · rw [e]; exact (sub_good gH gs a).1
/-! ### all steps -/
structure RunD (most : Int) (K : Int) (M : Bool) (l : List Tri) : Prop where
  step : ∀ i, i < l.length → nextD (stB l i) (l.getD i D3).p most = ((l.getD i D3).t, (l.getD i D3).q, 0)
  pts : ∀ x ∈ l, LiP x.p ∧ IsP x.p ∧ x.p.Kind = K ∧ x.p.Mono = M
theorem RunD.inv {most K : Int} {M : Bool} {l : List Tri} (r : RunD most K M l) : ∀ i, i < l.length → SInv (l.getD i D3).t K M
  | 0, h => by
    have p := r.pts _ (getD_mem (d := D3) h)
    obtain ⟨H, _, si, _⟩ := stepD p.2.2.2 p.2.1.i (.inl rfl) (r.step 0 h)
    rw [p.2.2.1] at si; exact si
  | i + 1, h => by
    have p := r.pts _ (getD_mem (d := D3) h)
    obtain ⟨H, _, si, _⟩ := stepD p.2.2.2 p.2.1.i (.inr (by rw [p.2.2.1]; exact r.inv i (by omega))) (r.step (i + 1) h)
    rw [p.2.2.1] at si; exact si
theorem RunD.before {most K : Int} {M : Bool} {l : List Tri} (r : RunD most K M l) (i : Nat) (h : i ≤ l.length) : (i = 0 ∧ stB l i = S0) ∨ (0 < i ∧ SInv (stB l i) K M) := by
  cases i with
  | zero => exact .inl ⟨rfl, rfl⟩
  | succ i => exact .inr ⟨by omega, r.inv i (by omega)⟩
theorem RunD.at {most K : Int} {M : Bool} {l : List Tri} (r : RunD most K M l) {i : Nat} (h : i < l.length) : ∃ H, StepD (stB l i) (l.getD i D3).p most (l.getD i D3).t (l.getD i D3).q H ∧ SInv (l.getD i D3).t K M ∧ chkE (l.getD i D3).q = 0 ∧
    (K = 4 → ((l.getD i D3).q.Hist.Pos.Counts.length : Int) ≤ most ∧ ((l.getD i D3).q.Hist.Neg.Counts.length : Int) ≤ most) ∧ Good (l.getD i D3).q.Hist := by
  have p := r.pts _ (getD_mem (d := D3) h)
  obtain ⟨H, a, b, c, d, e⟩ := stepD p.2.2.2 p.2.1.i (by
    rcases r.before i (by omega) with ⟨_, e⟩ | ⟨_, e⟩
    · exact .inl e
    · rw [p.2.2.1]; exact .inr e) (r.step i h)
  rw [p.2.2.1] at b
  exact ⟨H, a, b, c, fun k => d (by rw [a.kind.1, p.2.2.1]; exact k), e⟩
theorem RunD.snoc {most K : Int} {M : Bool} {l : List Tri} (r : RunD most K M l) {x : Tri} (h : nextD (stB l l.length) x.p most = (x.t, x.q, 0)) (hp : LiP x.p ∧ IsP x.p ∧ x.p.Kind = K ∧ x.p.Mono = M) : RunD most K M (l ++ [x]) := by
  constructor
  · intro i hi
    by_cases e : i < l.length
    · rw [stB_app (by omega), getD_lt (by simp; omega), List.getElem_append_left (by omega)]
      have := r.step i e
      rw [getD_lt e] at this; exact this
    · obtain rfl : i = l.length := by simp at hi; omega
      rw [stB_app (by omega), getD_lt (by simp)]
      simpa using h
  · intro y hy
    rcases List.mem_append.1 hy with hy | hy
    · exact r.pts y hy
    · rw [List.mem_singleton.1 hy]; exact hp
end Go.Lg
namespace Go.Lg
attribute [local irreducible] w64 toU64 toU8 shlU shrU shlB shrB
end Go.Lg
namespace Go.Lg
attribute [local irreducible] w64 toU64 toU8 shlU shrU shlB shrB
theorem InP.int {p : api_Point} {temp most : Int} {H : api_Hist} (_ : InP p temp most H) : True := trivial
end Go.Lg
namespace Go.Lg
attribute [local irreducible] w64 toU64 toU8 shlU shrU shlB shrB
/-! ### histograms from a place on -/
def seg (f : Nat → api_Hist) (a : Nat) : Nat → List api_Hist
  | 0 => []
  | n + 1 => seg f a n ++ [f (a + n)]
theorem seg_split (f : Nat → api_Hist) (a : Nat) (k : Nat) : ∀ {n : Nat}, k < n → ∃ b, seg f a n = seg f a k ++ f (a + k) :: b
  | 0, h => by omega
  | n + 1, h => by
    by_cases e : k = n
    · subst e; exact ⟨[], rfl⟩
    · obtain ⟨b, hb⟩ := seg_split f a k (n := n) (by omega)
      exact ⟨b ++ [f (a + n)], by show seg f a n ++ [f (a + n)] = _; rw [hb]; simp⟩
/-- where the epoch of the i-th answer begins -/
def firstI (l : List Tri) : Nat → Nat
  | 0 => 0
  | i + 1 => if (l.getD i D3).q.Flags ≠ 0 then i else firstI l i
theorem firstI_le (l : List Tri) : ∀ i, 0 < i → firstI l i < i
  | 0, h => by omega
  | i + 1, _ => by
    unfold firstI
    split
    · omega
    · by_cases e : i = 0
      · subst e; show 0 < 1; omega
      · have := firstI_le l i (by omega); omega
theorem InP.sums {p : api_Point} {temp most : Int} {H : api_Hist} (i : InP p temp most H) : Sums [p.Hist] H := by
  rcases i.hist with ⟨_, g, k, h1, h2, _⟩ | ⟨_, e, h⟩
  · exact (Sums.one g).down h2 h1
  · rw [e, h]; exact Sums.one H0_good
theorem Lev.kx {a b x y : api_Hist} (l : Lev a b x y) : (((a.Scale - min a.Scale b.Scale).toNat : Nat) : Int) ≤ a.Scale + 10 := by have := l.ga.s1; have := l.gb.s1; omega
theorem Lev.ky {a b x y : api_Hist} (l : Lev a b x y) : (((b.Scale - min a.Scale b.Scale).toNat : Nat) : Int) ≤ b.Scale + 10 := by have := l.ga.s1; have := l.gb.s1; omega
end Go.Lg
namespace Go.Lg
attribute [local irreducible] w64 toU64 toU8 shlU shrU shlB shrB
def segI (f : Nat → Int) (a : Nat) : Nat → Int
  | 0 => 0
  | n + 1 => segI f a n + f (a + n)
theorem firstI_same (l : List Tri) : ∀ (d k : Nat), firstI l (k + d + 1) ≤ k → firstI l (k + 1) = firstI l (k + d + 1)
  | 0, k, _ => rfl
  | d + 1, k, h => by
    have e : firstI l (k + (d + 1) + 1) = firstI l (k + d + 1) := by
      show (if (l.getD (k + (d + 1)) D3).q.Flags ≠ 0 then k + (d + 1) else firstI l (k + (d + 1))) = firstI l (k + d + 1)
      by_cases hf : (l.getD (k + (d + 1)) D3).q.Flags ≠ 0
      · have : firstI l (k + (d + 1) + 1) = k + (d + 1) := by
          show (if (l.getD (k + (d + 1)) D3).q.Flags ≠ 0 then k + (d + 1) else firstI l (k + (d + 1))) = _
          rw [if_pos hf]
        omega
      · rw [if_neg hf]; rfl
    rw [e] at h ⊢
    exact firstI_same l d k h
theorem epoch16 {most K : Int} {M : Bool} {l : List Tri} (r : RunC most K M l) : ∀ i, i < l.length →
    (K = 1 → segI (fun k => (l.getD k D3).p.Int_) (firstI l (i + 1)) (i + 1 - firstI l (i + 1)) = (l.getD i D3).t.Int_) ∧
    (K = 4 → Sums (seg (fun k => (l.getD k D3).p.Hist) (firstI l (i + 1)) (i + 1 - firstI l (i + 1))) (l.getD i D3).t.Hist) := by
  intro i
  induction i with
  | zero =>
    intro hi
    obtain ⟨fl, H, f1, f2, f3, f4, f5, f6, f7, f8, f9, f10, _, _, ff⟩ := tri_facts r hi
    rcases ff with ⟨_, hf, h4⟩ | ⟨h0, _⟩
    · have e : firstI l (0 + 1) = 0 := by show (if (l.getD 0 D3).q.Flags ≠ 0 then 0 else firstI l 0) = 0; rw [if_pos (by omega)]
      rw [e, h4]
      refine ⟨fun _ => ?_, fun _ => f8.sums⟩
      show 0 + (l.getD (0 + 0) D3).p.Int_ = _
      rw [Int.zero_add]; rfl
    · omega
  | succ i ih =>
    intro hi
    obtain ⟨fl, H, f1, f2, f3, f4, f5, f6, f7, f8, f9, f10, _, _, ff⟩ := tri_facts r hi
    have pt := r.pts _ (getD_mem (d := D3) hi)
    have start : (l.getD (i + 1) D3).q.Flags ≠ 0 → (l.getD (i + 1) D3).t = freshP (l.getD (i + 1) D3).p H →
        (K = 1 → segI (fun k => (l.getD k D3).p.Int_) (firstI l (i + 1 + 1)) (i + 1 + 1 - firstI l (i + 1 + 1)) = (l.getD (i + 1) D3).t.Int_) ∧
        (K = 4 → Sums (seg (fun k => (l.getD k D3).p.Hist) (firstI l (i + 1 + 1)) (i + 1 + 1 - firstI l (i + 1 + 1))) (l.getD (i + 1) D3).t.Hist) := by
      intro h1 h3
      have e : firstI l (i + 1 + 1) = i + 1 := by
        show (if (l.getD (i + 1) D3).q.Flags ≠ 0 then i + 1 else firstI l (i + 1)) = _
        rw [if_pos h1]
      rw [e, h3, show i + 1 + 1 - (i + 1) = 1 by omega]
      refine ⟨fun _ => ?_, fun _ => ?_⟩
      · show 0 + (l.getD (i + 1 + 0) D3).p.Int_ = _
        rw [Int.zero_add]; rfl
      · exact f8.sums
    rcases ff with ⟨h0, _⟩ | ⟨_, _, _, s1, hh⟩
    · omega
    · rcases hh with ⟨_, a2, a3⟩ | ⟨_, a2, a3⟩ | ⟨_, a2, a3, _⟩
      · exact start (by omega) a3
      · exact start (by omega) a3
      · have ih' := ih (by omega)
        simp only [Nat.add_sub_cancel] at a3 s1
        have e : firstI l (i + 1 + 1) = firstI l (i + 1) := by
          show (if (l.getD (i + 1) D3).q.Flags ≠ 0 then i + 1 else firstI l (i + 1)) = _
          rw [if_neg (by omega)]
        have hle := firstI_le l (i + 1) (by omega)
        have ea : firstI l (i + 1) + (i + 1 - firstI l (i + 1)) = i + 1 := by omega
        rw [e, show i + 1 + 1 - firstI l (i + 1) = (i + 1 - firstI l (i + 1)) + 1 by omega]
        unfold sumC at a3
        dsimp only at a3
        constructor
        · intro k1
          rw [if_pos (by rw [pt.2.2.1]; exact k1)] at a3
          split at a3
          · show segI _ _ _ + (l.getD (firstI l (i + 1) + (i + 1 - firstI l (i + 1))) D3).p.Int_ = _
            rw [ih'.1 k1, ea]
            have := some1 a3
            rw [← this]
          · cases a3
        · intro k4
          rw [if_neg (by rw [pt.2.2.1]; omega), if_pos (by rw [pt.2.2.1]; exact k4)] at a3
          split at a3
          · rename_i ht
            have e3 := some1 a3
            have q := ih'.2 k4
            show Sums (seg _ _ _ ++ [(l.getD (firstI l (i + 1) + (i + 1 - firstI l (i + 1))) D3).p.Hist]) _
            rw [ea, ← e3]
            show Sums _ (togR (l.getD i D3).t.Hist H most).1
            rcases (togR_eq s1.good.ok f8.goodH.ok most).2.2 with x | ⟨_, _, x⟩
            · rw [x] at ht; cases ht
            · rcases x with x | ⟨z, x, _, _, _, _, _, c⟩
              · rw [x] at ht; cases ht
              · rw [x]; exact c.sums q f8.sums
          · cases a3
theorem lp2_int {most : Int} {M : Bool} {l : List Tri} {l0 : List api_Point} (r : RunC most 1 M l) (hl : l.length ≤ 20) (h0 : 0 < l0.length) (hk : l0[0].Kind = 1) {i : Nat} (hi : i < l.length) (S : Int) :
    loop (law16_TocumSums_lp2 l0 (l.map (·.p)) (l.map (·.q)) (i : Int)) (0, S, 0, 0, [], 0, [], ((firstI l (i + 1) : Nat) : Int)) = some (.go ((l.getD i D3).t.Int_, S, 0, 0, [], 0, [])) := by
  have hle := firstI_le l (i + 1) (by omega)
  have part : ∀ k, firstI l (i + 1) ≤ k → k ≤ i → segI (fun k => (l.getD k D3).p.Int_) (firstI l (i + 1)) (k + 1 - firstI l (i + 1)) = (l.getD k D3).t.Int_ := by
    intro k h1 h2
    have e := firstI_same l (i - k) k (by rw [show k + (i - k) + 1 = i + 1 by omega]; exact h1)
    rw [show k + (i - k) + 1 = i + 1 by omega] at e
    have := (epoch16 r k (by omega)).1 rfl
    rw [e] at this; exact this
  have L := loop_for (f := law16_TocumSums_lp2 l0 (l.map (·.p)) (l.map (·.q)) (i : Int)) (fun n => (segI (fun k => (l.getD k D3).p.Int_) (firstI l (i + 1)) n, S, (0 : UInt64), (0 : Int), ([] : List UInt64), (0 : Int), ([] : List UInt64), ((firstI l (i + 1) + n : Nat) : Int))) (i + 1 - firstI l (i + 1))
    (b := ((l.getD i D3).t.Int_, S, 0, 0, [], 0, [])) (fun n hn => by
      have I2 := map_idx (l := l) (i := firstI l (i + 1) + n) (by omega) (·.p)
      have p2 := part (firstI l (i + 1) + n) (by omega) (by omega)
      rw [show firstI l (i + 1) + n + 1 - firstI l (i + 1) = n + 1 by omega] at p2
      have t2 := (r.inv (firstI l (i + 1) + n) (by omega)).int
      have pp := (r.pts _ (getD_mem (l := l) (i := firstI l (i + 1) + n) (d := D3) (by omega))).2.1.i
      have p1 : I64 (segI (fun k => (l.getD k D3).p.Int_) (firstI l (i + 1)) n) := by
        cases n with
        | zero => show I64 0; unfold I64; decide
        | succ n =>
          have q := part (firstI l (i + 1) + n) (by omega) (by omega)
          rw [show firstI l (i + 1) + n + 1 - firstI l (i + 1) = n + 1 by omega] at q
          rw [q]; exact (r.inv (firstI l (i + 1) + n) (by omega)).int
      have e2 : segI (fun k => (l.getD k D3).p.Int_) (firstI l (i + 1)) n + (l.getD (firstI l (i + 1) + n) D3).p.Int_ = segI (fun k => (l.getD k D3).p.Int_) (firstI l (i + 1)) (n + 1) := rfl
      rw [← p2] at t2
      unfold law16_TocumSums_lp2
      dsimp only
      rw [bifTd (by omega), idx_0 h0, bind_some, bifTd hk, I2, bind_some, wide_add p1 pp, bind_some, e2, bifFd (fun e => e t2), bind_some, lett_eq, e2, w64_id t2.1 t2.2, flow_go, lett_eq, w64_succ (by omega)]; rfl) (by
      have p2 := part i (by omega) (by omega)
      unfold law16_TocumSums_lp2
      dsimp only
      rw [bifFd (by omega), p2])
  exact L
theorem lp2_hist {most : Int} {M : Bool} {l : List Tri} {l0 : List api_Point} (r : RunC most 4 M l) (hl : l.length ≤ 20) (h0 : 0 < l0.length) (hk : l0[0].Kind = 4) {i : Nat} (hi : i < l.length) :
    loop (law16_TocumSums_lp2 l0 (l.map (·.p)) (l.map (·.q)) (i : Int)) (0, (l.getD i D3).t.Hist.Scale, 0, 0, [], 0, [], ((firstI l (i + 1) : Nat) : Int)) =
      some (.go (0, (l.getD i D3).t.Hist.Scale, (l.getD i D3).t.Hist.Zero, (l.getD i D3).t.Hist.Pos.Offset, (l.getD i D3).t.Hist.Pos.Counts, (l.getD i D3).t.Hist.Neg.Offset, (l.getD i D3).t.Hist.Neg.Counts)) := by
  have hle := firstI_le l (i + 1) (by omega)
  have hz := (epoch16 r i hi).2 rfl
  obtain ⟨_, _, _, _, _, _, _, _, _, _, _, f10, _⟩ := tri_facts r hi
  have I1 := map_idx hi (·.q)
  generalize hn : i + 1 - firstI l (i + 1) = n at hz
  have key : ∀ (m k : Nat) (h : api_Hist), k + m = n → Sums (seg (fun k => (l.getD k D3).p.Hist) (firstI l (i + 1)) k) h → h.Scale = (l.getD i D3).t.Hist.Scale →
      loop (law16_TocumSums_lp2 l0 (l.map (·.p)) (l.map (·.q)) (i : Int)) (0, h.Scale, h.Zero, h.Pos.Offset, h.Pos.Counts, h.Neg.Offset, h.Neg.Counts, ((firstI l (i + 1) + k : Nat) : Int)) =
        some (.go (0, (l.getD i D3).t.Hist.Scale, (l.getD i D3).t.Hist.Zero, (l.getD i D3).t.Hist.Pos.Offset, (l.getD i D3).t.Hist.Pos.Counts, (l.getD i D3).t.Hist.Neg.Offset, (l.getD i D3).t.Hist.Neg.Counts)) := by
    intro m
    induction m with
    | zero =>
      intro k h hkn hs he
      obtain rfl : k = n := by omega
      have eh := hs.inj hz he
      rw [← eh]
      refine loop_brk ?_
      unfold law16_TocumSums_lp2
      dsimp only
      rw [bifFd (by omega)]
    | succ m ih =>
      intro k h hkn hs he
      obtain ⟨b, hb⟩ := seg_split (fun k => (l.getD k D3).p.Hist) (firstI l (i + 1)) k (n := n) (by omega)
      rw [hb] at hz
      obtain ⟨x', h', d1, d2, d3, d4⟩ := Sums.step hz hs he
      have I2 := map_idx (l := l) (i := firstI l (i + 1) + k) (by omega) (·.p)
      have d2' : fold_Merge (api_Hist.mk h.Scale h.Zero (api_Side.mk h.Pos.Offset h.Pos.Counts) (api_Side.mk h.Neg.Offset h.Neg.Counts)) (api_Hist.mk x'.Scale x'.Zero (api_Side.mk x'.Pos.Offset x'.Pos.Counts) (api_Side.mk x'.Neg.Offset x'.Neg.Counts)) = some (h', 0) := d2
      rw [← ih (k + 1) h' (by omega) d3 d4]
      refine loop_next ?_
      unfold law16_TocumSums_lp2
      dsimp only
      rw [bifTd (by omega), idx_0 h0, bind_some, bifFd (by rw [hk]; decide), I2, bind_some, bind_some, I1, bind_some, f10, d1, bind_some]
      dsimp only
      rw [bind_some]
      dsimp only
      rw [bifF (by rfl), d2', bind_some]
      dsimp only
      rw [bifF (by rfl), flow_go]
      dsimp only
      rw [lett_eq, w64_succ (by omega)]; rfl
  have s1 := hz.good.s1
  have s2 := hz.good.s2
  exact key n 0 (Hs (l.getD i D3).t.Hist.Scale) (by omega) (Sums.nil s1 s2) rfl
theorem tocumSums (l0 : List api_Point) (most : Int) (hp : ∀ x ∈ l0, IsP x) : law16_TocumSums l0 most = some true := by
  unfold law16_TocumSums
  rw [awake16, bind_some, bifF (by rfl)]
  obtain ⟨b, o1, o2⟩ := one16_eq l0
  rw [o1, bind_some]
  cases b
  · rw [bifT (by rfl), bind_some, bifT rfl]
  obtain ⟨hl, hall⟩ := o2 rfl
  by_cases hz : l0.length = 0
  · rw [bifT (by rw [decide_eq_true (show (l0.length : Int) = 0 by omega)]; rfl), bind_some, bifT rfl]
  have h0 : 0 < l0.length := by omega
  rw [bifF (by rw [decide_eq_false (show ¬ (l0.length : Int) = 0 by omega)]; rfl), idx_0 h0, bind_some, bind_some]
  by_cases hk : l0[0].Kind = 1 ∨ l0[0].Kind = 4
  case neg => rw [bifT (by rw [decide_eq_false (fun e => hk (.inl e))]; rfl), bind_some, bind_some, bifT (by rw [decide_eq_false (fun e => hk (.inr e))]; rfl)]
  obtain ⟨l, r, hl', e⟩ := play16 (most := most) hl (fun x hx => ⟨lightP_of (hall x hx).1, hp x hx, (hall x hx).2⟩)
  rw [getD_lt h0] at r
  have eb : ((bif !decide (l0[0].Kind = 1) then some !decide (l0[0].Kind = 4) else some false : Option Bool).bind fun x58 => some x58 : Option Bool) = some false := by
    rcases hk with hk | hk <;> rw [hk] <;> rfl
  rw [eb, bind_some, bifF rfl, e, bind_some]
  dsimp only
  have L : loop (law16_TocumSums_lp1 l0 (l.map (·.p)) (l.map (·.q))) (((firstI l 0 : Nat) : Int), ((0 : Nat) : Int)) = some (.go ()) :=
    loop_for (fun i => (((firstI l i : Nat) : Int), (i : Int))) l.length (fun i hi => by
      have I1 := map_idx hi (·.q)
      obtain ⟨fl, H, f1, f2, f3, f4, f5, f6, f7, f8, f9, f10, _⟩ := tri_facts r hi
      have ef : (bif !decide ((l.getD i D3).q.Flags = 0) then some (i : Int) else some ((firstI l i : Nat) : Int) : Option Int) = some ((firstI l (i + 1) : Nat) : Int) := by
        by_cases hf : (l.getD i D3).q.Flags = 0
        · have e : firstI l (i + 1) = firstI l i := by show (if _ then i else firstI l i) = _; rw [if_neg (fun e => e hf)]
          rw [bifF (by rw [decide_eq_true hf]; rfl), e]
        · have e : firstI l (i + 1) = i := by show (if _ then i else firstI l i) = _; rw [if_pos hf]
          rw [bifT (by rw [decide_eq_false hf]; rfl), e]
      have ok := f7.good.ok
      unfold law16_TocumSums_lp1
      dsimp only
      rw [bifTd (by simp; omega), I1, bind_some, ef, bind_some, bind_some, f10]
      rcases hk with hk | hk
      · rw [hk] at r
        rw [lp2_int r hl' h0 hk hi, flow_go, flow_go, bind_some, f9, bifF (by simp), idx_0 h0, bind_some, hk, bifF (by rfl), bind_some, bind_some, bifF rfl, flow_go, lett_eq, w64_succ (by omega)]
      · rw [hk] at r f7
        have z := (f7.own.2.2.1 rfl).1
        have sm : ref08_Same (api_Hist.mk (l.getD i D3).t.Hist.Scale (l.getD i D3).t.Hist.Zero (api_Side.mk (l.getD i D3).t.Hist.Pos.Offset (l.getD i D3).t.Hist.Pos.Counts) (api_Side.mk (l.getD i D3).t.Hist.Neg.Offset (l.getD i D3).t.Hist.Neg.Counts)) (l.getD i D3).t.Hist = some true := same_self ok.pl ok.nl
        rw [lp2_hist r hl' h0 hk hi, flow_go, flow_go, bind_some, f9, z, bifF (by rfl), idx_0 h0, bind_some, hk, bifT (by rfl), bind_some, f10, sm, bind_some, bind_some, bind_some, bifF (by rfl), flow_go, lett_eq, w64_succ (by omega)]) (by
      unfold law16_TocumSums_lp1
      dsimp only
      rw [bifFd (by simp)])
  have L' : loop (law16_TocumSums_lp1 l0 (l.map (·.p)) (l.map (·.q))) (0, 0) = some (.go ()) := L
  rw [L', flow_go]
end Go.Lg
